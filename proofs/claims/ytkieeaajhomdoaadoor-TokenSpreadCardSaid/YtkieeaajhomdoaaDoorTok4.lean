import Derived.Test.YtkieeaajhomdoaaDoorNum
import Derived.Deep.RegionWith
import Derived.BigRegion
set_option linter.unusedVariables false
set_option linter.unusedSimpArgs false
namespace Go.Proofs.YtkieeaajhomdoaaDoor
open Go.RowKit Go.Maps Go.MapKept
/-- What is asked of the library's own variables. -/
structure Vars (w : World) : Prop where
  space : Lib.TabIs Tryd.prog w "strings.asciiSpace" .u8 Lib.asciiSpaceTab
  range : ∃ ev, w.cell? ⟨4, 0, none⟩ = some ev ∧ (ev = .nilIface ∨ ∃ te pe, ev = .iface te pe)
theorem Vars.stays {w w' : World} (h : Vars w) (hb : Below w.heap.size w w') : Vars w' :=
  ⟨Joins.tab_stays (g := 0) (by kernel_rfl) h.space hb (Nat.le_refl _), by
    obtain ⟨ev, h1, h2⟩ := h.range
    exact ⟨ev, (hb.cell (World.block_lt_of_cell? w _ h1)).trans h1, h2⟩⟩
/-- A number, or some error. -/
def AtNumE (ok : Prop) (v : Nat) (w : World) (e : Ending) (w' : World) : Prop := Below w.heap.size w w' ∧
  ((ok ∧ e = .returned (.tuple #[.int .u64 v, .nilIface])) ∨ (¬ ok ∧ ∃ t x, ∃ M : Int, 0 ≤ M ∧ M ≤ 4294967295 ∧ e = .returned (.tuple #[.int .u64 M, .iface t x])))
set_option maxRecDepth 100000 in
set_option maxHeartbeats 800000 in
theorem parse_of (s : ByteArray) (base bits : Int) (hs : s.size ≤ 140737488351232) (w : World) (hv : Vars w) (ok : Prop) (v m : Nat) (hm : m ≤ 4294967295) (h : Calls Tryd.prog 94 #[.string s, .int .i64 base, .int .i64 bits] w (AtNum ok v m w)) :
    Calls Tryd.prog 71 #[.string s, .int .i64 base, .int .i64 bits] w (AtNumE ok v w) := by
  have H := Lib.hid h
  have HV := Lib.hid hv
  clear h hv
  go_enter Tryd.func71, Tryd.ntmps71
  go_wp2_with fail
  refine H.out.mono ?_
  rintro e w1 ⟨B1, ⟨hok, rfl⟩ | ⟨hno, rfl⟩⟩
  · have HOK := Lib.hid hok
    clear hok
    go_wp2_with fail
    go_ret2
    exact ⟨B1, .inl ⟨HOK.out, rfl⟩⟩
  · have HNO := Lib.hid hno
    clear hno
    obtain ⟨ev, hc, hev⟩ := (HV.out.stays B1).range
    have HC := Lib.hid hc
    have HE := Lib.hid hev
    clear hc hev
    go_wp2_with fail
    refine (Tryd.strconv_toError_range _ _ _ _ ev _ (by omega) HC.out HE.out).mono ?_
    rintro e w2 ⟨N, rfl, h1, h2, h3⟩
    clear h1 h2
    go_wp2_with fail
    go_ret2
    exact ⟨bthen B1 h3, .inr ⟨HNO.out, _, _, _, by omega, by omega, rfl⟩⟩
def tok0 : Array Value := #[.int .i64 0, .string ⟨#[]⟩, .int .i64 0, .int .i64 0]
theorem prefix_one (s : ByteArray) (n : Nat) (c : UInt8) (w : World) : Calls Tryd.prog 21 #[.string (s.extract n s.size), .string ⟨#[c]⟩] w fun e w' => e = .returned (.bool (decide (s.data.toList[n]? = some c))) ∧ w' = w := by
  refine (Tryd.strings_HasPrefix _ _ _).mono ?_
  rintro e w' ⟨rfl, rfl⟩
  refine ⟨?_, rfl⟩
  congr 2
  rw [Lib.extract_to_end]
  show Lib.hasPrefix (s.data.toList.drop n) [c] = _
  rw [← List.head?_drop]
  cases hd : s.data.toList.drop n with
  | nil => simp [Lib.hasPrefix]
  | cons d l =>
    show [c].isPrefixOf (d :: l) = _
    by_cases e : d = c
    · subst e; simp [List.isPrefixOf]
    · have : (c == d) = false := by simpa using fun h => e h.symm
      simp [List.isPrefixOf, this, e]
set_option maxRecDepth 100000 in
theorem prefix_two (s : ByteArray) (n : Nat) (c d : UInt8) (w : World) : Calls Tryd.prog 21 #[.string (s.extract n s.size), .string ⟨#[c, d]⟩] w fun e w' => e = .returned (.bool (decide (s.data.toList[n]? = some c ∧ s.data.toList[n + 1]? = some d))) ∧ w' = w := by
  refine (Tryd.strings_HasPrefix _ _ _).mono ?_
  rintro e w' ⟨rfl, rfl⟩
  refine ⟨?_, rfl⟩
  congr 2
  rw [Lib.extract_to_end]
  show Lib.hasPrefix (s.data.toList.drop n) [c, d] = _
  have e0 : s.data.toList[n]? = (s.data.toList.drop n)[0]? := by rw [List.getElem?_drop]; rfl
  have e1 : s.data.toList[n + 1]? = (s.data.toList.drop n)[1]? := by rw [List.getElem?_drop]
  rw [e0, e1]
  generalize s.data.toList.drop n = l
  match l with
  | [] => rfl
  | [x] =>
    show ([c, d] : List UInt8).isPrefixOf [x] = _
    rw [Bool.eq_iff_iff]
    simp [List.isPrefixOf]
  | x :: y :: l =>
    show ((c == x) && ((d == y) && true)) = decide (some x = some c ∧ some y = some d)
    by_cases h1 : x = c
    · by_cases h2 : y = d
      · subst h1; subst h2; simp
      · have e : (d == y) = false := by simpa using fun h => h2 h.symm
        have f : ¬ (some x = some c ∧ some y = some d) := fun h => h2 (by injection h.2)
        rw [e, decide_eq_false f]; simp
    · have e : (c == x) = false := by simpa using fun h => h1 h.symm
      have f : ¬ (some x = some c ∧ some y = some d) := fun h => h1 (by injection h.1)
      rw [e, decide_eq_false f]; rfl
set_option maxRecDepth 100000 in
set_option maxHeartbeats 4000000 in
theorem number_any (x : Value) (s : ByteArray) (w : World) (hx : IsLexer w x) (hv : Vars w) (hs : s.size ≤ 140737488351232) (h1 : 1 ≤ run isHex s.data.toList) (r : Except Int (Tok × Nat)) (hres : numTok s.data.toList = r) :
    Calls Tryd.prog 43 #[x, .string s] w (AtTok r w) := by
  obtain ⟨a, b1, b2, b3, b4, m, rfl, ha, i1, i2, i3, i4, hown⟩ := hx
  obtain ⟨n, hn⟩ : ∃ n, run isHex s.data.toList = n := ⟨_, rfl⟩
  have hns : n ≤ s.size := by rw [← hn, ← len_list]; exact run_le _ _
  rw [hn] at h1
  have hc3 : w.cell? ⟨a, 3, none⟩ = some (.pointer (some ⟨b4, 0, none⟩)) := by rw [cell_of_block ha]; rfl
  have hc2 : w.cell? ⟨a, 2, none⟩ = some (.pointer (some ⟨b3, 0, none⟩)) := by rw [cell_of_block ha]; rfl
  have hal : a < w.heap.size := block_lt ha
  have HRES := Lib.hid hres
  have HV := Lib.hid hv
  have I3 := Lib.hid i3
  have I4 := Lib.hid i4
  have HA := Lib.hid ha
  clear i1 i2 i3 i4 hown hres hv ha
  go_enter Tryd.func43, Tryd.ntmps43
  go_wp2_with fail
  refine (run_any s b4 _ isHex tab_hex _ hs (alloc_old I4.out)).mono ?_
  rintro e w1 ⟨rfl, B1⟩
  rw [hn]
  have HN := Lib.hid hn
  clear hn
  obtain ⟨c1, f1⟩ := bcell B1
  have hz1 : w.heap.size < w1.heap.size := by have := B1.size; simp at this; omega
  go_wp2_with fail
  refine (prefix_one s n 72 _).mono ?_
  rintro e w2 ⟨rfl, rfl⟩
  have hd : (s.extract 0 n).data.toList = s.data.toList.take n := by rw [extract_list]; rfl
  have HD := Lib.hid hd
  clear hd
  have hal1 : a < w1.heap.size := by omega
  have hbel : Below w.heap.size w w1 := ((Below.refl _ _).alloc (Nat.le_refl _) _).trans (B1.mono (by simp))
  by_cases h72 : s.data.toList[n]? = some 72
  · rw [decide_eq_true h72]
    have H72 := Lib.hid h72
    clear h72
    go_wp2_with fail
    refine (parse_of _ 16 32 (by rw [ByteArray.size_extract]; omega) _ (HV.out.stays (hbel.alloc hbel.size _)) _ _ _ (by decide) (pu_16_32 _ (by rw [ByteArray.size_extract]; omega) (by rw [ByteArray.size_extract]; omega) (by rw [HD.out, ← HN.out]; exact run_take_all) _)).mono ?_
    rw [HD.out]
    rintro e w3 ⟨B3, ⟨hok, rfl⟩ | ⟨hno, t, x, M, m0, m1, rfl⟩⟩
    · have hbel3 : Below w.heap.size w w3 := bthen (hbel.alloc hbel.size _) B3
      obtain ⟨V, hV⟩ : ∃ V, V = numVal 16 (s.data.toList.take n) := ⟨_, rfl⟩
      rw [← hV]
      have hvb : (V : Int) ≤ 4294967295 := by omega
      have HVV := Lib.hid hV
      clear hV hok
      obtain ⟨NV, hNV⟩ : ∃ NV : Int, NV = if V < 2147483648 then (V : Int) else (V : Int) - 4294967296 := ⟨_, rfl⟩
      have hw : wrap64 (wrap32 V) = NV := by unfold wrap64 wrap32; rw [hNV]; split <;> omega
      have HNV := Lib.hid hNV
      clear hNV
      have fin : r = .ok (⟨3, [], NV, 0⟩, n + 1) := by
        rw [← HRES.out, numTok]
        simp only [HN.out, H72.out, if_true]
        rw [if_pos (by rw [← HVV.out]; omega), ← HVV.out, ← HNV.out]
      have FIN := Lib.hid fin
      clear fin
      have hnw : IntKind.i64.wrap ((n : Int) + 1) = n + 1 := IntWalk.i64_in _ (by omega)
      have k0 : w3.heap[w.heap.size]? = some (.cells tok0 34 (0, 0)) := below_block B3 (by simp; omega) (alloc_old (below_block B1 (by simp) (alloc_block _ _)))
      have k1 : w3.heap[w1.heap.size]? = some (.cells #[.int .i64 3, .string ⟨#[]⟩, .int .i64 0, .int .i64 0] 34 (0, 0)) := below_block B3 (by simp) (alloc_block _ _)
      have q0 : w3.cell? ⟨w.heap.size, 0, none⟩ = some (.int .i64 0) := by rw [cell_of_block k0]; rfl
      have q1 : w3.cell? ⟨w.heap.size, 1, none⟩ = some (.string ⟨#[]⟩) := by rw [cell_of_block k0]; rfl
      have q2 : w3.cell? ⟨w.heap.size, 2, none⟩ = some (.int .i64 0) := by rw [cell_of_block k0]; rfl
      have q3 : w3.cell? ⟨w.heap.size, 3, none⟩ = some (.int .i64 0) := by rw [cell_of_block k0]; rfl
      have qf : ∀ j, w3.frozen? ⟨w.heap.size, j, none⟩ = false := frozen_of_block k0
      have p0 : w3.cell? ⟨w1.heap.size, 0, none⟩ = some (.int .i64 3) := by rw [cell_of_block k1]; rfl
      have p1 : w3.cell? ⟨w1.heap.size, 1, none⟩ = some (.string ⟨#[]⟩) := by rw [cell_of_block k1]; rfl
      have p2 : w3.cell? ⟨w1.heap.size, 2, none⟩ = some (.int .i64 0) := by rw [cell_of_block k1]; rfl
      have p3 : w3.cell? ⟨w1.heap.size, 3, none⟩ = some (.int .i64 0) := by rw [cell_of_block k1]; rfl
      have pf : ∀ j, w3.frozen? ⟨w1.heap.size, j, none⟩ = false := frozen_of_block k1
      have hne : ¬ w.heap.size = w1.heap.size := by omega
      have hne' : ¬ w1.heap.size = w.heap.size := by omega
      clear c1 f1 k0 k1
      have hz3 : w1.heap.size < w3.heap.size := by have := B3.size; simp at this; omega
      go_wp2_with fail
      go_region_with (go_at_call 72; refine (ranged_any _ _).mono ?_; rintro e w' ⟨rfl, rfl⟩)
      all_goals go_wp2_with fail
      all_goals refine bodyPost_ret (v := .tuple #[.agg #[.int .i64 3, .string ⟨#[]⟩, .int .i64 NV, .int .i64 0], .int .i64 (n + 1), .int .i64 0]) (by simp [results, Tryd.results43, go_sem, q0, q1, q2, q3, hne, hne']) rfl ⟨(((((hbel3.setCell (by exact Nat.le_of_lt hz1) _).setCell (Nat.le_refl _) _).setCell (Nat.le_refl _) _).setCell (Nat.le_refl _) _).setCell (Nat.le_refl _) _).drew, ?_⟩
      all_goals (rw [FIN.out]; rfl)
    · have hbel3 : Below w.heap.size w w3 := bthen (hbel.alloc hbel.size _) B3
      have hv0 : 4294967295 < numVal 16 (s.data.toList.take n) := by omega
      have fin : r = .error 91 := by
        rw [← HRES.out, numTok]
        simp only [HN.out, H72.out, if_true]
        rw [if_neg (by omega)]
      have FIN := Lib.hid fin
      clear fin hv0 hno
      have hnw : IntKind.i64.wrap ((n : Int) + 1) = n + 1 := IntWalk.i64_in _ (by omega)
      have k0 : w3.heap[w.heap.size]? = some (.cells tok0 34 (0, 0)) := below_block B3 (by simp; omega) (alloc_old (below_block B1 (by simp) (alloc_block _ _)))
      have k1 : w3.heap[w1.heap.size]? = some (.cells #[.int .i64 3, .string ⟨#[]⟩, .int .i64 0, .int .i64 0] 34 (0, 0)) := below_block B3 (by simp) (alloc_block _ _)
      have q0 : w3.cell? ⟨w.heap.size, 0, none⟩ = some (.int .i64 0) := by rw [cell_of_block k0]; rfl
      have q1 : w3.cell? ⟨w.heap.size, 1, none⟩ = some (.string ⟨#[]⟩) := by rw [cell_of_block k0]; rfl
      have q2 : w3.cell? ⟨w.heap.size, 2, none⟩ = some (.int .i64 0) := by rw [cell_of_block k0]; rfl
      have q3 : w3.cell? ⟨w.heap.size, 3, none⟩ = some (.int .i64 0) := by rw [cell_of_block k0]; rfl
      have qf : ∀ j, w3.frozen? ⟨w.heap.size, j, none⟩ = false := frozen_of_block k0
      have p0 : w3.cell? ⟨w1.heap.size, 0, none⟩ = some (.int .i64 3) := by rw [cell_of_block k1]; rfl
      have p1 : w3.cell? ⟨w1.heap.size, 1, none⟩ = some (.string ⟨#[]⟩) := by rw [cell_of_block k1]; rfl
      have p2 : w3.cell? ⟨w1.heap.size, 2, none⟩ = some (.int .i64 0) := by rw [cell_of_block k1]; rfl
      have p3 : w3.cell? ⟨w1.heap.size, 3, none⟩ = some (.int .i64 0) := by rw [cell_of_block k1]; rfl
      have pf : ∀ j, w3.frozen? ⟨w1.heap.size, j, none⟩ = false := frozen_of_block k1
      have hne : ¬ w.heap.size = w1.heap.size := by omega
      have hne' : ¬ w1.heap.size = w.heap.size := by omega
      clear c1 f1 k0 k1
      have hz3 : w1.heap.size < w3.heap.size := by have := B3.size; simp at this; omega
      go_wp2_with fail
      go_region_with (go_at_call 72; refine (ranged_any _ _).mono ?_; rintro e w' ⟨rfl, rfl⟩)
      all_goals go_wp2_with fail
      all_goals refine bodyPost_ret (v := .tuple #[.agg #[.int .i64 3, .string ⟨#[]⟩, .int .i64 (wrap64 (wrap32 M)), .int .i64 0], .int .i64 (n + 1), .int .i64 91]) (by simp [results, Tryd.results43, go_sem, q0, q1, q2, q3, hne, hne']) rfl ⟨(((((hbel3.setCell (by exact Nat.le_of_lt hz1) _).setCell (Nat.le_refl _) _).setCell (Nat.le_refl _) _).setCell (Nat.le_refl _) _).setCell (Nat.le_refl _) _).drew, ?_⟩
      all_goals (rw [FIN.out]; exact ⟨_, _, _, _, _, rfl⟩)
  · rw [decide_eq_false h72]
    have H72 := Lib.hid h72
    clear h72
    go_wp2_with fail
    refine (prefix_one s n 88 _).mono ?_
    rintro e w2 ⟨rfl, rfl⟩
    by_cases h88 : s.data.toList[n]? = some 88
    · rw [decide_eq_true h88]
      have H88 := Lib.hid h88
      clear h88
      go_wp2_with fail
      refine (parse_of _ 16 8 (by rw [ByteArray.size_extract]; omega) _ (HV.out.stays (hbel.alloc hbel.size _)) _ _ _ (by decide) (pu_16_8 _ (by rw [ByteArray.size_extract]; omega) (by rw [ByteArray.size_extract]; omega) (by rw [HD.out, ← HN.out]; exact run_take_all) _)).mono ?_
      rw [HD.out]
      rintro e w3 ⟨B3, ⟨hok, rfl⟩ | ⟨hno, t, x, M, m0, m1, rfl⟩⟩
      · have hbel3 : Below w.heap.size w w3 := bthen (hbel.alloc hbel.size _) B3
        obtain ⟨V, hV⟩ : ∃ V, V = numVal 16 (s.data.toList.take n) := ⟨_, rfl⟩
        rw [← hV]
        have hvb : (V : Int) ≤ 255 := by omega
        have HVV := Lib.hid hV
        clear hV hok
        have fin : r = .ok (⟨4, [], V, 0⟩, n + 1) := by
          rw [← HRES.out, numTok]
          simp only [HN.out]
          rw [if_neg H72.out, if_pos H88.out]
          rw [if_pos (by rw [← HVV.out]; omega), ← HVV.out]
        have FIN := Lib.hid fin
        clear fin
        have hnw : IntKind.i64.wrap ((n : Int) + 1) = n + 1 := IntWalk.i64_in _ (by omega)
        have k0 : w3.heap[w.heap.size]? = some (.cells tok0 34 (0, 0)) := below_block B3 (by simp; omega) (alloc_old (below_block B1 (by simp) (alloc_block _ _)))
        have k1 : w3.heap[w1.heap.size]? = some (.cells #[.int .i64 3, .string ⟨#[]⟩, .int .i64 0, .int .i64 0] 34 (0, 0)) := below_block B3 (by simp) (alloc_block _ _)
        have q0 : w3.cell? ⟨w.heap.size, 0, none⟩ = some (.int .i64 0) := by rw [cell_of_block k0]; rfl
        have q1 : w3.cell? ⟨w.heap.size, 1, none⟩ = some (.string ⟨#[]⟩) := by rw [cell_of_block k0]; rfl
        have q2 : w3.cell? ⟨w.heap.size, 2, none⟩ = some (.int .i64 0) := by rw [cell_of_block k0]; rfl
        have q3 : w3.cell? ⟨w.heap.size, 3, none⟩ = some (.int .i64 0) := by rw [cell_of_block k0]; rfl
        have qf : ∀ j, w3.frozen? ⟨w.heap.size, j, none⟩ = false := frozen_of_block k0
        have p0 : w3.cell? ⟨w1.heap.size, 0, none⟩ = some (.int .i64 3) := by rw [cell_of_block k1]; rfl
        have p1 : w3.cell? ⟨w1.heap.size, 1, none⟩ = some (.string ⟨#[]⟩) := by rw [cell_of_block k1]; rfl
        have p2 : w3.cell? ⟨w1.heap.size, 2, none⟩ = some (.int .i64 0) := by rw [cell_of_block k1]; rfl
        have p3 : w3.cell? ⟨w1.heap.size, 3, none⟩ = some (.int .i64 0) := by rw [cell_of_block k1]; rfl
        have pf : ∀ j, w3.frozen? ⟨w1.heap.size, j, none⟩ = false := frozen_of_block k1
        have hne : ¬ w.heap.size = w1.heap.size := by omega
        have hne' : ¬ w1.heap.size = w.heap.size := by omega
        clear c1 f1 k0 k1
        have hz3 : w1.heap.size < w3.heap.size := by have := B3.size; simp at this; omega
        go_wp2_with fail
        go_region_with (go_at_call 72; refine (ranged_any _ _).mono ?_; rintro e w' ⟨rfl, rfl⟩)
        all_goals go_wp2_with fail
        all_goals refine bodyPost_ret (v := .tuple #[.agg #[.int .i64 4, .string ⟨#[]⟩, .int .i64 V, .int .i64 0], .int .i64 (n + 1), .int .i64 0]) (by simp [results, Tryd.results43, go_sem, q0, q1, q2, q3, hne, hne']) rfl ⟨((((((hbel3.setCell (by exact Nat.le_of_lt hz1) _).setCell (by exact Nat.le_of_lt hz1) _).setCell (Nat.le_refl _) _).setCell (Nat.le_refl _) _).setCell (Nat.le_refl _) _).setCell (Nat.le_refl _) _).drew, ?_⟩
        all_goals (rw [FIN.out]; rfl)
      · have hbel3 : Below w.heap.size w w3 := bthen (hbel.alloc hbel.size _) B3
        have hv0 : 255 < numVal 16 (s.data.toList.take n) := by omega
        have fin : r = .error 91 := by
          rw [← HRES.out, numTok]
          simp only [HN.out]
          rw [if_neg H72.out, if_pos H88.out]
          rw [if_neg (by omega)]
        have FIN := Lib.hid fin
        clear fin hv0 hno
        have hnw : IntKind.i64.wrap ((n : Int) + 1) = n + 1 := IntWalk.i64_in _ (by omega)
        have k0 : w3.heap[w.heap.size]? = some (.cells tok0 34 (0, 0)) := below_block B3 (by simp; omega) (alloc_old (below_block B1 (by simp) (alloc_block _ _)))
        have k1 : w3.heap[w1.heap.size]? = some (.cells #[.int .i64 3, .string ⟨#[]⟩, .int .i64 0, .int .i64 0] 34 (0, 0)) := below_block B3 (by simp) (alloc_block _ _)
        have q0 : w3.cell? ⟨w.heap.size, 0, none⟩ = some (.int .i64 0) := by rw [cell_of_block k0]; rfl
        have q1 : w3.cell? ⟨w.heap.size, 1, none⟩ = some (.string ⟨#[]⟩) := by rw [cell_of_block k0]; rfl
        have q2 : w3.cell? ⟨w.heap.size, 2, none⟩ = some (.int .i64 0) := by rw [cell_of_block k0]; rfl
        have q3 : w3.cell? ⟨w.heap.size, 3, none⟩ = some (.int .i64 0) := by rw [cell_of_block k0]; rfl
        have qf : ∀ j, w3.frozen? ⟨w.heap.size, j, none⟩ = false := frozen_of_block k0
        have p0 : w3.cell? ⟨w1.heap.size, 0, none⟩ = some (.int .i64 3) := by rw [cell_of_block k1]; rfl
        have p1 : w3.cell? ⟨w1.heap.size, 1, none⟩ = some (.string ⟨#[]⟩) := by rw [cell_of_block k1]; rfl
        have p2 : w3.cell? ⟨w1.heap.size, 2, none⟩ = some (.int .i64 0) := by rw [cell_of_block k1]; rfl
        have p3 : w3.cell? ⟨w1.heap.size, 3, none⟩ = some (.int .i64 0) := by rw [cell_of_block k1]; rfl
        have pf : ∀ j, w3.frozen? ⟨w1.heap.size, j, none⟩ = false := frozen_of_block k1
        have hne : ¬ w.heap.size = w1.heap.size := by omega
        have hne' : ¬ w1.heap.size = w.heap.size := by omega
        clear c1 f1 k0 k1
        have hz3 : w1.heap.size < w3.heap.size := by have := B3.size; simp at this; omega
        go_wp2_with fail
        go_region_with (go_at_call 72; refine (ranged_any _ _).mono ?_; rintro e w' ⟨rfl, rfl⟩)
        all_goals go_wp2_with fail
        all_goals refine bodyPost_ret (v := .tuple #[.agg #[.int .i64 4, .string ⟨#[]⟩, .int .i64 M, .int .i64 0], .int .i64 (n + 1), .int .i64 91]) (by simp [results, Tryd.results43, go_sem, q0, q1, q2, q3, hne, hne']) rfl ⟨((((((hbel3.setCell (by exact Nat.le_of_lt hz1) _).setCell (by exact Nat.le_of_lt hz1) _).setCell (Nat.le_refl _) _).setCell (Nat.le_refl _) _).setCell (Nat.le_refl _) _).setCell (Nat.le_refl _) _).drew, ?_⟩
        all_goals (rw [FIN.out]; exact ⟨_, _, _, _, _, rfl⟩)
    · rw [decide_eq_false h88]
      have H88 := Lib.hid h88
      clear h88
      have hdl : (s.extract 0 n).size = n := by rw [ByteArray.size_extract]; omega
      go_wp2_with fail
      refine (run_any (s.extract 0 n) b3 _ isDigit tab_digit _ (by omega) (below_block (hbel.alloc hbel.size _) (block_lt I3.out) I3.out)).mono ?_
      rw [HD.out]
      rintro e w3 ⟨rfl, B3⟩
      obtain ⟨g, hg⟩ : ∃ g, run isDigit (s.data.toList.take n) = g := ⟨_, rfl⟩
      have hgn : g ≤ n := by rw [← hg]; exact Nat.le_trans (run_le _ _) (by simp; omega)
      rw [hg]
      have hbel3 : Below w.heap.size w w3 := bthen (hbel.alloc hbel.size _) B3
      have k0 : w3.heap[w.heap.size]? = some (.cells tok0 34 (0, 0)) := below_block B3 (by simp; omega) (alloc_old (below_block B1 (by simp) (alloc_block _ _)))
      have k1 : w3.heap[w1.heap.size]? = some (.cells #[.int .i64 3, .string ⟨#[]⟩, .int .i64 0, .int .i64 0] 34 (0, 0)) := below_block B3 (by simp) (alloc_block _ _)
      have q0 : w3.cell? ⟨w.heap.size, 0, none⟩ = some (.int .i64 0) := by rw [cell_of_block k0]; rfl
      have q1 : w3.cell? ⟨w.heap.size, 1, none⟩ = some (.string ⟨#[]⟩) := by rw [cell_of_block k0]; rfl
      have q2 : w3.cell? ⟨w.heap.size, 2, none⟩ = some (.int .i64 0) := by rw [cell_of_block k0]; rfl
      have q3 : w3.cell? ⟨w.heap.size, 3, none⟩ = some (.int .i64 0) := by rw [cell_of_block k0]; rfl
      have qf : ∀ j, w3.frozen? ⟨w.heap.size, j, none⟩ = false := frozen_of_block k0
      have p0 : w3.cell? ⟨w1.heap.size, 0, none⟩ = some (.int .i64 3) := by rw [cell_of_block k1]; rfl
      have p1 : w3.cell? ⟨w1.heap.size, 1, none⟩ = some (.string ⟨#[]⟩) := by rw [cell_of_block k1]; rfl
      have p2 : w3.cell? ⟨w1.heap.size, 2, none⟩ = some (.int .i64 0) := by rw [cell_of_block k1]; rfl
      have p3 : w3.cell? ⟨w1.heap.size, 3, none⟩ = some (.int .i64 0) := by rw [cell_of_block k1]; rfl
      have pf : ∀ j, w3.frozen? ⟨w1.heap.size, j, none⟩ = false := frozen_of_block k1
      have hne : ¬ w.heap.size = w1.heap.size := by omega
      have hne' : ¬ w1.heap.size = w.heap.size := by omega
      have K0 := Lib.hid k0
      have K1 := Lib.hid k1
      clear c1 f1 k0 k1
      have hz3 : w1.heap.size < w3.heap.size := by have := B3.size; simp at this; omega
      by_cases hlt : (g : Int) < n
      · have fin : r = .error 90 := by
          rw [← HRES.out, numTok]
          simp only [HN.out]
          rw [if_neg H72.out, if_neg H88.out, if_pos (.inl (by rw [hg]; omega))]
        have FIN := Lib.hid fin
        clear fin hg
        go_wp2_with fail
        refine bodyPost_ret (v := .tuple #[.agg #[.int .i64 3, .string ⟨#[]⟩, .int .i64 0, .int .i64 0], .int .i64 0, .int .i64 90]) (by simp [results, Tryd.results43, go_sem, q0, q1, q2, q3, hne, hne']) rfl ⟨(((hbel3.setCell (Nat.le_refl _) _).setCell (Nat.le_refl _) _).setCell (Nat.le_refl _) _).setCell (Nat.le_refl _) _, ?_⟩
        rw [FIN.out]; exact ⟨_, _, _, _, _, rfl⟩
      · have hgn2 : g = n := by omega
        have HG := Lib.hid (hg.trans hgn2)
        clear hg hgn2
        go_wp2_with fail
        refine (prefix_one s n 46 _).mono ?_
        rintro e w4 ⟨rfl, rfl⟩
        by_cases h46 : s.data.toList[n]? = some 46
        · rw [decide_eq_true h46]
          have H46 := Lib.hid h46
          clear h46
          go_wp2_with fail
          refine (prefix_two s n 46 46 _).mono ?_
          rintro e w4 ⟨rfl, rfl⟩
          by_cases h47 : s.data.toList[n]? = some 46 ∧ s.data.toList[n + 1]? = some 46
          · rw [decide_eq_true h47]
            have hcond : ¬ (run isDigit (s.data.toList.take n) < n ∨ (s.data.toList[n]? = some 46 ∧ s.data.toList[n + 1]? ≠ some 46)) := by
              rw [HG.out]; rintro (h | h); · omega
              exact h.2 h47.2
            have HCOND := Lib.hid hcond
            clear h47 hcond
            go_wp2_with fail
            have hall : ∀ c ∈ (s.extract 0 n).data.toList, isDigit c = true := by
              rw [HD.out]
              have := @run_take_all isDigit (s.data.toList.take n)
              rw [HG.out] at this
              rwa [List.take_take, Nat.min_self] at this
            refine (parse_of _ 10 31 (by omega) _ (HV.out.stays hbel3) _ _ _ (by decide) (pu_10_31 _ (by omega) (by omega) hall _)).mono ?_
            rw [HD.out]
            rintro e w4 ⟨B4, ⟨hok, rfl⟩ | ⟨hno, t, x, M, m0, m1, rfl⟩⟩
            · have hbel4 : Below w.heap.size w w4 := bthen hbel3 B4
              have j0 : w4.heap[w.heap.size]? = some (.cells tok0 34 (0, 0)) := below_block B4 (by omega) K0.out
              have j1 : w4.heap[w1.heap.size]? = some (.cells #[.int .i64 3, .string ⟨#[]⟩, .int .i64 0, .int .i64 0] 34 (0, 0)) := below_block B4 (by omega) K1.out
              have zs0 : w4.cell? ⟨w.heap.size, 0, none⟩ = some (.int .i64 0) := by rw [cell_of_block j0]; rfl
              have zs1 : w4.cell? ⟨w.heap.size, 1, none⟩ = some (.string ⟨#[]⟩) := by rw [cell_of_block j0]; rfl
              have zs2 : w4.cell? ⟨w.heap.size, 2, none⟩ = some (.int .i64 0) := by rw [cell_of_block j0]; rfl
              have zs3 : w4.cell? ⟨w.heap.size, 3, none⟩ = some (.int .i64 0) := by rw [cell_of_block j0]; rfl
              have zsf : ∀ j, w4.frozen? ⟨w.heap.size, j, none⟩ = false := frozen_of_block j0
              have zt0 : w4.cell? ⟨w1.heap.size, 0, none⟩ = some (.int .i64 3) := by rw [cell_of_block j1]; rfl
              have zt1 : w4.cell? ⟨w1.heap.size, 1, none⟩ = some (.string ⟨#[]⟩) := by rw [cell_of_block j1]; rfl
              have zt2 : w4.cell? ⟨w1.heap.size, 2, none⟩ = some (.int .i64 0) := by rw [cell_of_block j1]; rfl
              have zt3 : w4.cell? ⟨w1.heap.size, 3, none⟩ = some (.int .i64 0) := by rw [cell_of_block j1]; rfl
              have ztf : ∀ j, w4.frozen? ⟨w1.heap.size, j, none⟩ = false := frozen_of_block j1
              clear j0 j1 q0 q1 q2 q3 qf p0 p1 p2 p3 pf hall
              have hz4 : w1.heap.size < w4.heap.size := by have := B4.size; omega
              obtain ⟨V, hV⟩ : ∃ V, V = numVal 10 (s.data.toList.take n) := ⟨_, rfl⟩
              rw [← hV]
              have hvb : (V : Int) ≤ 2147483647 := by omega
              have HVV := Lib.hid hV
              clear hV hok
              have fin : r = .ok (⟨3, [], V, 0⟩, n) := by
                rw [← HRES.out, numTok]
                simp only [HN.out]
                rw [if_neg H72.out, if_neg H88.out, if_neg HCOND.out, if_pos (by rw [← HVV.out]; omega), ← HVV.out]
              have FIN := Lib.hid fin
              clear fin
              go_wp2_with fail
              go_region_with (go_at_call 72; refine (ranged_any _ _).mono ?_; rintro e w' ⟨rfl, rfl⟩)
              all_goals go_wp2_with fail
              all_goals refine bodyPost_ret (v := .tuple #[.agg #[.int .i64 3, .string ⟨#[]⟩, .int .i64 V, .int .i64 0], .int .i64 n, .int .i64 0]) (by simp [results, Tryd.results43, go_sem, zs0, zs1, zs2, zs3, hne, hne']) rfl ⟨(((((hbel4.setCell (by exact Nat.le_of_lt hz1) _).setCell (Nat.le_refl _) _).setCell (Nat.le_refl _) _).setCell (Nat.le_refl _) _).setCell (Nat.le_refl _) _).drew, ?_⟩
              all_goals rw [FIN.out]
            · have hbel4 : Below w.heap.size w w4 := bthen hbel3 B4
              have j0 : w4.heap[w.heap.size]? = some (.cells tok0 34 (0, 0)) := below_block B4 (by omega) K0.out
              have j1 : w4.heap[w1.heap.size]? = some (.cells #[.int .i64 3, .string ⟨#[]⟩, .int .i64 0, .int .i64 0] 34 (0, 0)) := below_block B4 (by omega) K1.out
              have zs0 : w4.cell? ⟨w.heap.size, 0, none⟩ = some (.int .i64 0) := by rw [cell_of_block j0]; rfl
              have zs1 : w4.cell? ⟨w.heap.size, 1, none⟩ = some (.string ⟨#[]⟩) := by rw [cell_of_block j0]; rfl
              have zs2 : w4.cell? ⟨w.heap.size, 2, none⟩ = some (.int .i64 0) := by rw [cell_of_block j0]; rfl
              have zs3 : w4.cell? ⟨w.heap.size, 3, none⟩ = some (.int .i64 0) := by rw [cell_of_block j0]; rfl
              have zsf : ∀ j, w4.frozen? ⟨w.heap.size, j, none⟩ = false := frozen_of_block j0
              have zt0 : w4.cell? ⟨w1.heap.size, 0, none⟩ = some (.int .i64 3) := by rw [cell_of_block j1]; rfl
              have zt1 : w4.cell? ⟨w1.heap.size, 1, none⟩ = some (.string ⟨#[]⟩) := by rw [cell_of_block j1]; rfl
              have zt2 : w4.cell? ⟨w1.heap.size, 2, none⟩ = some (.int .i64 0) := by rw [cell_of_block j1]; rfl
              have zt3 : w4.cell? ⟨w1.heap.size, 3, none⟩ = some (.int .i64 0) := by rw [cell_of_block j1]; rfl
              have ztf : ∀ j, w4.frozen? ⟨w1.heap.size, j, none⟩ = false := frozen_of_block j1
              clear j0 j1 q0 q1 q2 q3 qf p0 p1 p2 p3 pf hall
              have hz4 : w1.heap.size < w4.heap.size := by have := B4.size; omega
              have fin : r = .error 91 := by
                rw [← HRES.out, numTok]
                simp only [HN.out]
                rw [if_neg H72.out, if_neg H88.out, if_neg HCOND.out, if_neg (by omega)]
              have FIN := Lib.hid fin
              clear fin hno
              go_wp2_with fail
              go_region_with (go_at_call 72; refine (ranged_any _ _).mono ?_; rintro e w' ⟨rfl, rfl⟩)
              all_goals go_wp2_with fail
              all_goals refine bodyPost_ret (v := .tuple #[.agg #[.int .i64 3, .string ⟨#[]⟩, .int .i64 M, .int .i64 0], .int .i64 n, .int .i64 91]) (by simp [results, Tryd.results43, go_sem, zs0, zs1, zs2, zs3, hne, hne']) rfl ⟨(((((hbel4.setCell (by exact Nat.le_of_lt hz1) _).setCell (Nat.le_refl _) _).setCell (Nat.le_refl _) _).setCell (Nat.le_refl _) _).setCell (Nat.le_refl _) _).drew, ?_⟩
              all_goals (rw [FIN.out]; exact ⟨_, _, _, _, _, rfl⟩)
          · rw [decide_eq_false h47]
            have hcond : (run isDigit (s.data.toList.take n) < n ∨ (s.data.toList[n]? = some 46 ∧ s.data.toList[n + 1]? ≠ some 46)) := .inr ⟨H46.out, fun h => h47 ⟨H46.out, h⟩⟩
            have fin : r = .error 90 := by
              rw [← HRES.out, numTok]
              simp only [HN.out]
              rw [if_neg H72.out, if_neg H88.out, if_pos hcond]
            have FIN := Lib.hid fin
            clear fin h47 hcond
            go_wp2_with fail
            refine bodyPost_ret (v := .tuple #[.agg #[.int .i64 3, .string ⟨#[]⟩, .int .i64 0, .int .i64 0], .int .i64 0, .int .i64 90]) (by simp [results, Tryd.results43, go_sem, q0, q1, q2, q3, hne, hne']) rfl ⟨(((hbel3.setCell (Nat.le_refl _) _).setCell (Nat.le_refl _) _).setCell (Nat.le_refl _) _).setCell (Nat.le_refl _) _, ?_⟩
            rw [FIN.out]; exact ⟨_, _, _, _, _, rfl⟩
        · rw [decide_eq_false h46]
          have hcond : ¬ (run isDigit (s.data.toList.take n) < n ∨ (s.data.toList[n]? = some 46 ∧ s.data.toList[n + 1]? ≠ some 46)) := by
            rw [HG.out]; rintro (h | h); · omega
            exact h46 h.1
          have HCOND := Lib.hid hcond
          clear h46 hcond
          go_wp2_with fail
          have hall : ∀ c ∈ (s.extract 0 n).data.toList, isDigit c = true := by
            rw [HD.out]
            have := @run_take_all isDigit (s.data.toList.take n)
            rw [HG.out] at this
            rwa [List.take_take, Nat.min_self] at this
          refine (parse_of _ 10 31 (by omega) _ (HV.out.stays hbel3) _ _ _ (by decide) (pu_10_31 _ (by omega) (by omega) hall _)).mono ?_
          rw [HD.out]
          rintro e w4 ⟨B4, ⟨hok, rfl⟩ | ⟨hno, t, x, M, m0, m1, rfl⟩⟩
          · have hbel4 : Below w.heap.size w w4 := bthen hbel3 B4
            have j0 : w4.heap[w.heap.size]? = some (.cells tok0 34 (0, 0)) := below_block B4 (by omega) K0.out
            have j1 : w4.heap[w1.heap.size]? = some (.cells #[.int .i64 3, .string ⟨#[]⟩, .int .i64 0, .int .i64 0] 34 (0, 0)) := below_block B4 (by omega) K1.out
            have zs0 : w4.cell? ⟨w.heap.size, 0, none⟩ = some (.int .i64 0) := by rw [cell_of_block j0]; rfl
            have zs1 : w4.cell? ⟨w.heap.size, 1, none⟩ = some (.string ⟨#[]⟩) := by rw [cell_of_block j0]; rfl
            have zs2 : w4.cell? ⟨w.heap.size, 2, none⟩ = some (.int .i64 0) := by rw [cell_of_block j0]; rfl
            have zs3 : w4.cell? ⟨w.heap.size, 3, none⟩ = some (.int .i64 0) := by rw [cell_of_block j0]; rfl
            have zsf : ∀ j, w4.frozen? ⟨w.heap.size, j, none⟩ = false := frozen_of_block j0
            have zt0 : w4.cell? ⟨w1.heap.size, 0, none⟩ = some (.int .i64 3) := by rw [cell_of_block j1]; rfl
            have zt1 : w4.cell? ⟨w1.heap.size, 1, none⟩ = some (.string ⟨#[]⟩) := by rw [cell_of_block j1]; rfl
            have zt2 : w4.cell? ⟨w1.heap.size, 2, none⟩ = some (.int .i64 0) := by rw [cell_of_block j1]; rfl
            have zt3 : w4.cell? ⟨w1.heap.size, 3, none⟩ = some (.int .i64 0) := by rw [cell_of_block j1]; rfl
            have ztf : ∀ j, w4.frozen? ⟨w1.heap.size, j, none⟩ = false := frozen_of_block j1
            clear j0 j1 q0 q1 q2 q3 qf p0 p1 p2 p3 pf hall
            have hz4 : w1.heap.size < w4.heap.size := by have := B4.size; omega
            obtain ⟨V, hV⟩ : ∃ V, V = numVal 10 (s.data.toList.take n) := ⟨_, rfl⟩
            rw [← hV]
            have hvb : (V : Int) ≤ 2147483647 := by omega
            have HVV := Lib.hid hV
            clear hV hok
            have fin : r = .ok (⟨3, [], V, 0⟩, n) := by
              rw [← HRES.out, numTok]
              simp only [HN.out]
              rw [if_neg H72.out, if_neg H88.out, if_neg HCOND.out, if_pos (by rw [← HVV.out]; omega), ← HVV.out]
            have FIN := Lib.hid fin
            clear fin
            go_wp2_with fail
            go_region_with (go_at_call 72; refine (ranged_any _ _).mono ?_; rintro e w' ⟨rfl, rfl⟩)
            all_goals go_wp2_with fail
            all_goals refine bodyPost_ret (v := .tuple #[.agg #[.int .i64 3, .string ⟨#[]⟩, .int .i64 V, .int .i64 0], .int .i64 n, .int .i64 0]) (by simp [results, Tryd.results43, go_sem, zs0, zs1, zs2, zs3, hne, hne']) rfl ⟨(((((hbel4.setCell (by exact Nat.le_of_lt hz1) _).setCell (Nat.le_refl _) _).setCell (Nat.le_refl _) _).setCell (Nat.le_refl _) _).setCell (Nat.le_refl _) _).drew, ?_⟩
            all_goals rw [FIN.out]
          · have hbel4 : Below w.heap.size w w4 := bthen hbel3 B4
            have j0 : w4.heap[w.heap.size]? = some (.cells tok0 34 (0, 0)) := below_block B4 (by omega) K0.out
            have j1 : w4.heap[w1.heap.size]? = some (.cells #[.int .i64 3, .string ⟨#[]⟩, .int .i64 0, .int .i64 0] 34 (0, 0)) := below_block B4 (by omega) K1.out
            have zs0 : w4.cell? ⟨w.heap.size, 0, none⟩ = some (.int .i64 0) := by rw [cell_of_block j0]; rfl
            have zs1 : w4.cell? ⟨w.heap.size, 1, none⟩ = some (.string ⟨#[]⟩) := by rw [cell_of_block j0]; rfl
            have zs2 : w4.cell? ⟨w.heap.size, 2, none⟩ = some (.int .i64 0) := by rw [cell_of_block j0]; rfl
            have zs3 : w4.cell? ⟨w.heap.size, 3, none⟩ = some (.int .i64 0) := by rw [cell_of_block j0]; rfl
            have zsf : ∀ j, w4.frozen? ⟨w.heap.size, j, none⟩ = false := frozen_of_block j0
            have zt0 : w4.cell? ⟨w1.heap.size, 0, none⟩ = some (.int .i64 3) := by rw [cell_of_block j1]; rfl
            have zt1 : w4.cell? ⟨w1.heap.size, 1, none⟩ = some (.string ⟨#[]⟩) := by rw [cell_of_block j1]; rfl
            have zt2 : w4.cell? ⟨w1.heap.size, 2, none⟩ = some (.int .i64 0) := by rw [cell_of_block j1]; rfl
            have zt3 : w4.cell? ⟨w1.heap.size, 3, none⟩ = some (.int .i64 0) := by rw [cell_of_block j1]; rfl
            have ztf : ∀ j, w4.frozen? ⟨w1.heap.size, j, none⟩ = false := frozen_of_block j1
            clear j0 j1 q0 q1 q2 q3 qf p0 p1 p2 p3 pf hall
            have hz4 : w1.heap.size < w4.heap.size := by have := B4.size; omega
            have fin : r = .error 91 := by
              rw [← HRES.out, numTok]
              simp only [HN.out]
              rw [if_neg H72.out, if_neg H88.out, if_neg HCOND.out, if_neg (by omega)]
            have FIN := Lib.hid fin
            clear fin hno
            go_wp2_with fail
            go_region_with (go_at_call 72; refine (ranged_any _ _).mono ?_; rintro e w' ⟨rfl, rfl⟩)
            all_goals go_wp2_with fail
            all_goals refine bodyPost_ret (v := .tuple #[.agg #[.int .i64 3, .string ⟨#[]⟩, .int .i64 M, .int .i64 0], .int .i64 n, .int .i64 91]) (by simp [results, Tryd.results43, go_sem, zs0, zs1, zs2, zs3, hne, hne']) rfl ⟨(((((hbel4.setCell (by exact Nat.le_of_lt hz1) _).setCell (Nat.le_refl _) _).setCell (Nat.le_refl _) _).setCell (Nat.le_refl _) _).setCell (Nat.le_refl _) _).drew, ?_⟩
            all_goals (rw [FIN.out]; exact ⟨_, _, _, _, _, rfl⟩)
end Go.Proofs.YtkieeaajhomdoaaDoor
