import Derived.Test.YtkieeaajhomdoaaDoorOf
import Derived.Test.YtkieeaajhomdoaaDoorShelf
import Derived.Maps.Own
import Derived.Maps.OwnOps
import Derived.Maps.Views
import Derived.Lib.SmallJoins
set_option linter.unusedVariables false
set_option linter.unusedSimpArgs false
namespace Go.Proofs.YtkieeaajhomdoaaDoor
open Go.RowKit Go.Maps Go.MapKept
def letterR : List (UInt8 × UInt8) := [(97, 122), (65, 90)]
def insideR : List (UInt8 × UInt8) := [(97, 122), (65, 90), (48, 57)]
def digitR : List (UInt8 × UInt8) := [(48, 57)]
def hexR : List (UInt8 × UInt8) := [(48, 57), (65, 70)]
set_option maxRecDepth 100000 in
theorem fields_keyText : Lib.fields keyText = keyList := by decide +kernel
set_option maxRecDepth 100000 in
theorem fields_signText : Lib.fields signText = signList := by decide +kernel
def keysD (l : List (List UInt8)) : DataW Unit := l.foldl (fun D k => D.put (.string k) (.lit (.int .i64 1))) (.map [])
theorem keysD_snoc (l : List (List UInt8)) (k : List UInt8) : keysD (l ++ [k]) = (keysD l).put (.string k) (.lit (.int .i64 1)) := by simp [keysD]
theorem law_string : Keyed Tryd.prog 9 := string_keyed Tryd.underlying9
/-- A fact that the walk doesn't look into. -/
structure Aside (p : Prop) : Prop where mk :: (out : p)
/-- A row of texts. -/
def textsRow (l : List (List UInt8)) : Array Value := (l.map fun l => Value.string ⟨l.toArray⟩).toArray
theorem textsRow_get (l : List (List UInt8)) (i : Nat) (h : i < l.length) : (textsRow l)[i]? = some (.string ⟨l[i].toArray⟩) := by
  simp [textsRow, h]
def AtFields (l : List (List UInt8)) (n : Nat) (w : World) (e : Ending) (w' : World) : Prop := e = .returned (.slice (some ⟨w.heap.size, 0, none⟩) n n) ∧ w' = w.alloc (.cells (textsRow l) 9)
set_option maxRecDepth 100000 in
theorem keyText_short : keyText.length < 1000 := by decide
set_option maxRecDepth 100000 in
theorem fields_any (s : List UInt8) (l : List (List UInt8)) (hl : Lib.fields s = l) (n : Nat) (hn : l.length = n) (hs : s.length < 1000) (ha : ∀ b ∈ s, b.toNat < 128) (w : World) (htab : Lib.TabIs Tryd.prog w "strings.asciiSpace" .u8 Lib.asciiSpaceTab) :
    Calls Tryd.prog 39 #[.string ⟨s.toArray⟩] w (AtFields l n w) := by
  refine (Tryd.strings_Fields _ w (by show s.toArray.size < _; simp; omega) ?_ htab).mono ?_
  · intro j b hb
    exact ha b (List.mem_of_getElem? (by simpa using hb))
  · rintro e w' ⟨rfl, rfl⟩
    have e1 : Lib.fields (⟨s.toArray⟩ : ByteArray).data.toList = l := hl
    exact ⟨by rw [e1, hn], by rw [e1]; rfl⟩
set_option maxRecDepth 100000 in
theorem keyText_ascii : ∀ b ∈ keyText, b.toNat < 128 := by decide
set_option maxRecDepth 100000 in
theorem signText_ascii : ∀ b ∈ signText, b.toNat < 128 := by decide
/-- The lexer, made. -/
def IsLexer (w : World) (v : Value) : Prop := ∃ a b1 b2 b3 b4 m, v = .pointer (some ⟨a, 0, none⟩) ∧
  w.heap[a]? = some (.cells #[.pointer (some ⟨b1, 0, none⟩), .pointer (some ⟨b2, 0, none⟩), .pointer (some ⟨b3, 0, none⟩), .pointer (some ⟨b4, 0, none⟩), .map (some m)] 74 (0, 0)) ∧
  w.heap[b1]? = some (.cells (tabA (inR letterR)) 108 (0, 0)) ∧ w.heap[b2]? = some (.cells (tabA (inR insideR)) 108 (0, 0)) ∧
  w.heap[b3]? = some (.cells (tabA (inR digitR)) 108 (0, 0)) ∧ w.heap[b4]? = some (.cells (tabA (inR hexR)) 108 (0, 0)) ∧
  w.ownsMap Tryd.prog 9 (plainElem Tryd.prog 3) m 33 (keysD keyList)
def AtBegun (w : World) (e : Ending) (w' : World) : Prop := ∃ v, e = .returned v ∧ IsLexer w' v ∧ Below w.heap.size w w'
theorem grownBy_block {w w' : World} {row : Option Nat} {b : Nat} {o : Obj} (hg : w.grownBy w' row) (h : w.heap[b]? = some o) (hne : some b ≠ row) : w'.heap[b]? = some o :=
  (hg.block b (block_lt h) hne).trans h
set_option maxRecDepth 100000 in
set_option maxHeartbeats 800000 in
theorem begun_any (w : World) (htab : Lib.TabIs Tryd.prog w "strings.asciiSpace" .u8 Lib.asciiSpaceTab) :
    Calls Tryd.prog 20 #[] w (AtBegun w) := by
  have HT := Lib.hid htab
  clear htab
  have hmm := @run_makeMap Tryd.prog
  go_enter Tryd.func20, Tryd.ntmps20
  go_wp2_with fail
  refine (of_any _ letterR _ (by decide) ?_).mono ?_
  · intro i hi
    match i, hi with
    | 0, _ => go_simp; rfl
    | 1, _ => go_simp; rfl
  rintro e w1 ⟨v1, rfl, ⟨b1, rfl, h1⟩, B1⟩
  have H1 := Lib.hid h1
  clear h1
  go_wp2_with fail
  refine (of_any _ insideR _ (by decide) ?_).mono ?_
  · intro i hi
    match i, hi with
    | 0, _ => go_simp; rfl
    | 1, _ => go_simp; rfl
    | 2, _ => go_simp; rfl
  rintro e w2 ⟨v2, rfl, ⟨b2, rfl, h2⟩, B2⟩
  have H2 := Lib.hid h2
  clear h2
  go_wp2_with fail
  refine (of_any _ digitR _ (by decide) ?_).mono ?_
  · intro i hi
    match i, hi with
    | 0, _ => go_simp; rfl
  rintro e w3 ⟨v3, rfl, ⟨b3, rfl, h3⟩, B3⟩
  have H3 := Lib.hid h3
  clear h3
  go_wp2_with fail
  refine (of_any _ hexR _ (by decide) ?_).mono ?_
  · intro i hi
    match i, hi with
    | 0, _ => go_simp; rfl
    | 1, _ => go_simp; rfl
  rintro e w4 ⟨v4, rfl, ⟨b4, rfl, h4⟩, B4⟩
  have H4 := Lib.hid h4
  clear h4
  go_wp2_with fail
  have C1 : Below w.heap.size w w1 := ((Below.refl _ _).alloc (Nat.le_refl _) _).trans (B1.mono (by simp))
  have C2 : Below w1.heap.size w1 w2 := ((Below.refl _ _).alloc (Nat.le_refl _) _).trans (B2.mono (by simp))
  have C3 : Below w2.heap.size w2 w3 := ((Below.refl _ _).alloc (Nat.le_refl _) _).trans (B3.mono (by simp))
  have C4 : Below w3.heap.size w3 w4 := ((Below.refl _ _).alloc (Nat.le_refl _) _).trans (B4.mono (by simp))
  have I1 := Lib.hid (below_block C4 (block_lt (below_block C3 (block_lt (below_block C2 (block_lt H1.out) H1.out)) (below_block C2 (block_lt H1.out) H1.out))) (below_block C3 (block_lt (below_block C2 (block_lt H1.out) H1.out)) (below_block C2 (block_lt H1.out) H1.out)))
  have I2 := Lib.hid (below_block C4 (block_lt (below_block C3 (block_lt H2.out) H2.out)) (below_block C3 (block_lt H2.out) H2.out))
  have I3 := Lib.hid (below_block C4 (block_lt H3.out) H3.out)
  have C : Below w.heap.size w w4 := bthen (bthen (bthen C1 C2) C3) C4
  have T4 := Lib.hid (Joins.tab_stays (g := 0) (by kernel_rfl) HT.out C (Nat.le_refl _))
  clear H1 H2 H3 HT B1 B2 B3 B4 C1 C2 C3 C4
  refine (fields_any keyText keyList fields_keyText 33 rfl keyText_short keyText_ascii _ (Lib.tabIs_alloc (Lib.tabIs_alloc T4.out _) _)).mono ?_
  rintro e w5 ⟨rfl, rfl⟩
  have hne1 : b1 < w4.heap.size := block_lt I1.out
  have hne2 : b2 < w4.heap.size := block_lt I2.out
  have hne3 : b3 < w4.heap.size := block_lt I3.out
  have hne4 : b4 < w4.heap.size := block_lt H4.out
  go_wp2_with fail
  have Z1 := Lib.hid (alloc_old (o' := .cells (textsRow keyList) 9) (alloc_block (w4.alloc (.map #[] 0)) (.cells #[.pointer (some ⟨b1, 0, none⟩), .pointer (some ⟨b2, 0, none⟩), .pointer (some ⟨b3, 0, none⟩), .pointer (some ⟨b4, 0, none⟩), .map (some w4.heap.size)] 74)))
  have Z2 := Lib.hid (alloc_block ((w4.alloc (.map #[] 0)).alloc (.cells #[.pointer (some ⟨b1, 0, none⟩), .pointer (some ⟨b2, 0, none⟩), .pointer (some ⟨b3, 0, none⟩), .pointer (some ⟨b4, 0, none⟩), .map (some w4.heap.size)] 74)) (.cells (textsRow keyList) 9))
  have hs1 : (w4.alloc (.map #[] 0)).heap.size = w4.heap.size + 1 := by simp
  have hs2 : ((w4.alloc (.map #[] 0)).alloc (.cells #[.pointer (some ⟨b1, 0, none⟩), .pointer (some ⟨b2, 0, none⟩), .pointer (some ⟨b3, 0, none⟩), .pointer (some ⟨b4, 0, none⟩), .map (some w4.heap.size)] 74)).heap.size = w4.heap.size + 1 + 1 := by simp
  rw [hs1] at Z1
  rw [hs2] at Z2
  clear hs1 hs2
  go_loopw [17] (fun i wr => ∃ k : Nat, k ≤ 33 ∧ i = .int .i64 k ∧ wr.ownsMap (H := Unit) Tryd.prog 9 (plainElem Tryd.prog 3) w4.heap.size k (keysD (keyList.take k)) ∧
    Hid (wr.heap[w4.heap.size + 1]? = some (.cells #[.pointer (some ⟨b1, 0, none⟩), .pointer (some ⟨b2, 0, none⟩), .pointer (some ⟨b3, 0, none⟩), .pointer (some ⟨b4, 0, none⟩), .map (some w4.heap.size)] 74 (0, 0))) ∧
    Hid (wr.heap[w4.heap.size + 1 + 1]? = some (.cells (textsRow keyList) 9 (0, 0))) ∧ Below w4.heap.size w4 wr) (fun i _ => 33 - (intOf i).toNat)
  case atStart =>
    refine ⟨0, by omega, rfl, ((World.ownsMap_made _ _ _ _).alloc _).alloc _, Z1, Z2, (((Below.refl _ _).alloc (Nat.le_refl _) _).alloc (by simp) _).alloc (by simp; omega) _⟩
  case round =>
    obtain ⟨k, hk, rfl, hown, Y1, Y2, hB⟩ := hrel
    have hown1 : Aside (wr.ownsMap (H := Unit) Tryd.prog 9 (plainElem Tryd.prog 3) w4.heap.size k (keysD (keyList.take k))) := ⟨hown⟩
    clear hown
    by_cases hlt : k < 33
    · obtain ⟨ky, hky⟩ : ∃ ky, keyList[k]'(by rw [keyList_len]; exact hlt) = ky := ⟨_, rfl⟩
      have HKY := Lib.hid hky
      have hcell : wr.cell? ⟨w4.heap.size + 1 + 1, k, none⟩ = some (.string ⟨ky.toArray⟩) := by
        rw [cell_of_block Y2.out, textsRow_get _ _ (by rw [keyList_len]; exact hlt), hky]
      have hmc : wr.cell? ⟨w4.heap.size + 1, 4, none⟩ = some (.map (some w4.heap.size)) := by
        rw [cell_of_block Y1.out]; rfl
      clear hky
      have hkey : Aside (keyOf Tryd.prog 9 (.string ⟨ky.toArray⟩) = some (.string ky)) := ⟨WideMaps.keyOf_string_mk Tryd.underlying9 (by
        show ky.toArray.size ≤ maxLen
        have := keyList_small ky (by rw [← HKY.out]; exact List.getElem_mem _)
        unfold maxLen
        simp; omega)⟩
      go_wp2_with (at_mapUpdate; refine wpList_mapUpdate_own _ rfl _ _ _ 72 rfl 9 3 law_string Tryd.underlying72 _ w4.heap.size k _ rfl hown1.out (by unfold maxLen; omega) _ _ _ rfl rfl hkey.out _ [] (plainElem_int Tryd.underlying3 (by decide)) ?_; intro w1 hown2 hgrow)
      go_roundw
      case rel =>
        refine ⟨k + 1, by omega, by go_num, ?_, grownBy_block hgrow Y1.out (by simp), grownBy_block hgrow Y2.out (by simp; omega), hB.grown hgrow hB.size (by intro k hk; cases hk; omega)⟩
        rw [List.take_succ_eq_append_getElem (by rw [keyList_len]; exact hlt), HKY.out, keysD_snoc]
        exact hown2
      case measure => simp [intOf]; omega
    · go_wp2
      go_ret
      refine ⟨_, rfl, ⟨_, b1, b2, b3, b4, _, rfl, Y1.out, below_block hB (by omega) I1.out, below_block hB (by omega) I2.out, below_block hB (by omega) I3.out, below_block hB (by omega) H4.out, ?_⟩, bthen C hB⟩
      have h33 : k = 33 := by omega
      subst h33
      have := hown1.out
      rwa [List.take_of_length_le (by rw [keyList_len]; omega)] at this
end Go.Proofs.YtkieeaajhomdoaaDoor
