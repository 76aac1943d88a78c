import Derived.Test.YtjjgjadfnongfaaGreatDoorAWd0
import Derived.Outline
set_option linter.unusedVariables false
set_option linter.unusedSimpArgs false
namespace Go.Proofs.YtjjgjadfnongfaaGreatDoor
open Go.RowKit Go.Maps Go.MapKept Go.ChangeMaps
def AtWordP (s : List UInt8) (w : World) (e : Ending) (w' : World) : Prop := e = .returned (.tuple #[.int .u32 (wordOf (parseP s) s).1, .int .i64 (wordOf (parseP s) s).2]) ∧ Below w.heap.size w w'
theorem cut_len (s sep : List UInt8) : (Lib.cut s sep).1.length ≤ s.length ∧ (Lib.cut s sep).2.1.length ≤ s.length := by
  unfold Lib.cut
  split <;> simp <;> omega
theorem word_none {s : List UInt8} {p : Option Ins} (h : p = none) : wordOf p s = (0, 60) := by rw [h]; rfl
theorem find_none {nm : List UInt8} (h : findP nm = none) : strV nm ∉ keysN tableP := by
  intro hm
  simp only [findP, Option.map_eq_none_iff, List.find?_eq_none] at h
  obtain ⟨p, hp, he⟩ := List.mem_map.1 hm
  exact h p hp (by simp [strV_inj he])
theorem find_some {nm : List UInt8} {k : Shp} (h : findP nm = some k) : ∃ i : Nat, i < 84 ∧ tableP[i]? = some (k, nm) := by
  simp only [findP, Option.map_eq_some_iff] at h
  obtain ⟨p, hp, rfl⟩ := h
  obtain ⟨i, hi⟩ := List.getElem?_of_mem (List.mem_of_find?_eq_some hp)
  have h2 : p.2 = nm := by simpa using List.find?_some hp
  refine ⟨i, ?_, by rw [hi, ← h2]⟩
  have := (List.getElem?_eq_some_iff.1 hi).1
  rwa [table_len] at this
theorem shapes_cell {i : Nat} {k : Shp} {nm : List UInt8} (h : tableP[i]? = some (k, nm)) : ∀ r : Nat, r < 4 → (tableP.flatMap fun p => shpC p.1)[i * 4 + r]? = (shpC k)[r]? := by
  have key : ∀ (T : List (Shp × List UInt8)) (i : Nat), T[i]? = some (k, nm) → ∀ r : Nat, r < 4 → (T.flatMap fun p => shpC p.1)[i * 4 + r]? = (shpC k)[r]? := by
    intro T
    induction T with
    | nil => intro i h; cases h
    | cons p T ih =>
      intro i h r hr
      rw [List.flatMap_cons]
      have hl : (shpC p.1).length = 4 := rfl
      cases i with
      | zero =>
        simp only [List.getElem?_cons_zero, Option.some.injEq] at h
        subst h
        rw [List.getElem?_append_left (by rw [hl]; omega)]
        simp
      | succ i =>
        rw [List.getElem?_append_right (by rw [hl]; omega), hl, show (i + 1) * 4 + r - 4 = i * 4 + r by omega]
        exact ih i (by simpa using h) r hr
  exact key _ i h
theorem look_N {i : Nat} {k : Shp} {nm : List UInt8} (h : tableP[i]? = some (k, nm)) (hl : nm.length ≤ 1000) (Bn : Nat) {S : ByteArray} (hS : (⟨nm.toArray⟩ : ByteArray) = S) : ∀ w : World, w.heap[Bn]? = some (.map (entsOf (keysN tableP)) 84) → (Instr.lookup 68 (.map (some Bn)) (.string S) true).run Tryz.prog w = .ok (.tuple #[.int .i64 i, .bool true]) w := by
  intro w hw
  have := run_look_ents law_string Tryz.underlying68 hw (keyed_str nm hl) hes_N nd_N keysN_ne (i := i) (by simp [keysN, h]) true
  rw [← hS]
  exact this
theorem look_no {nm : List UInt8} (h : findP nm = none) (hl : nm.length ≤ 1000) (Bn : Nat) {S : ByteArray} (hS : (⟨nm.toArray⟩ : ByteArray) = S) : ∀ w : World, w.heap[Bn]? = some (.map (entsOf (keysN tableP)) 84) → (Instr.lookup 68 (.map (some Bn)) (.string S) true).run Tryz.prog w = .ok (.tuple #[.int .i64 0, .bool false]) w := by
  intro w hw
  have := run_look_none law_string Tryz.underlying68 hw (fun u => by kernel_rfl) (keyed_str nm hl) hes_N (find_none h)
  rw [← hS]
  exact this
theorem table_forms : ∀ p ∈ tableP, p.1.form = 0 ∨ p.1.form = 2 ∨ p.1.form = 3 := by decide +kernel
theorem atoi_range {l : List UInt8} {v : Int} (h : Lib.atoiAll l = .ok v) : InR v := by
  unfold Lib.atoiAll at h
  split at h
  · cases h
  · simp only at h
    split at h
    · cases h
    · cases h
    · rename_i u hu
      split at h
      · cases h
      · split at h
        · cases h
        · rename_i h1 h2
          injection h with h
          unfold InR
          split at h <;> omega
theorem opnd_range (s : List UInt8) : InR (opnd s).1 := by
  unfold opnd
  split
  · rename_i v h; exact atoi_range h
  · exact ⟨by omega, by omega⟩
theorem split_len (s sep : List UInt8) (h : sep ≠ []) : (Lib.split s sep).length = Lib.count s sep + 1 := by
  unfold Lib.split
  have key : ∀ (n : Nat) (s : List UInt8), s.length ≤ n → (Lib.splitK sep 0 (Lib.count s sep) s).length = Lib.count s sep + 1 := by
    intro n
    induction n with
    | zero =>
      intro s hs
      have : s = [] := List.eq_nil_of_length_eq_zero (by omega)
      subst this
      rcases Lib.index_spec [] sep with ⟨h1, -⟩ | ⟨i, h1, h2, h3, -⟩
      · rw [Lib.count_miss h1]; rfl
      · exfalso
        rcases Lib.occAt_room h3 with h4 | h4
        · exact h (List.eq_nil_of_length_eq_zero (by simp only [List.length_nil] at h4; omega))
        · exact h h4
    | succ n ih =>
      intro s hs
      rcases Lib.index_spec s sep with ⟨h1, -⟩ | ⟨i, h1, h2, h3, -⟩
      · rw [Lib.count_miss h1]; rfl
      · have hroom : i + sep.length ≤ s.length := by
          rcases Lib.occAt_room h3 with h4 | h4
          · exact h4
          · exact absurd h4 h
        have hpos : 1 ≤ sep.length := by
          cases sep with
          | nil => exact absurd rfl h
          | cons => simp
        rw [Lib.count_hit h h1, Nat.add_comm 1, Lib.splitK, if_neg (by rw [h1]; simp), List.length_cons, h1, Int.toNat_natCast]
        rw [ih _ (by rw [List.length_drop]; omega)]
  exact key _ s (Nat.le_refl _)
theorem split_row (R : ByteArray) : ((Lib.splitB (⟨#[44, 32]⟩ : ByteArray) 0 (Lib.countB R ⟨#[44, 32]⟩) R).map Value.string).toArray = textsRow (Lib.split R.data.toList [44, 32]) := by
  unfold textsRow Lib.split
  have := Lib.splitB_data (⟨#[44, 32]⟩ : ByteArray) 0 (Lib.countB R ⟨#[44, 32]⟩) R
  have e : Lib.countB R ⟨#[44, 32]⟩ = Lib.count R.data.toList [44, 32] := rfl
  rw [e] at this
  rw [e]
  rw [show ([44, 32] : List UInt8) = (⟨#[44, 32]⟩ : ByteArray).data.toList from rfl, ← this]
  simp [List.map_map, Function.comp_def]
theorem split_mem_len (s sep : List UInt8) : ∀ p ∈ Lib.split s sep, p.length ≤ s.length := by
  have key : ∀ (k : Nat) (s : List UInt8), ∀ p ∈ Lib.splitK sep 0 k s, p.length ≤ s.length := by
    intro k
    induction k with
    | zero => intro s p hp; rw [Lib.splitK, List.mem_singleton] at hp; rw [hp]; exact Nat.le_refl _
    | succ k ih =>
      intro s p hp
      rw [Lib.splitK] at hp
      split at hp
      · rw [List.mem_singleton] at hp; rw [hp]; exact Nat.le_refl _
      · rcases List.mem_cons.1 hp with rfl | hp
        · rw [List.length_take]; omega
        · have := ih _ p hp
          rw [List.length_drop] at this
          omega
  exact key _ s
theorem p_split (RB : ByteArray) (RS : List UInt8) (PL : List (List UInt8)) (hR : RB.data.toList = RS) (hP : Lib.split RS [44, 32] = PL) (m : Int) (w : World) (hz : RB.size < 4294967281) (hm : w.cell? ⟨1, 0, none⟩ = some (.int .i64 m)) :
    Calls Tryz.prog 35 #[.string RB, .string ⟨#[44, 32]⟩] w (fun e w' => e = .returned (.slice (some ⟨w.heap.size, 0, none⟩) PL.length PL.length) ∧ w' = w.alloc (.cells (textsRow PL) 9)) := by
  refine (Tryz.strings_Split RB ⟨#[44, 32]⟩ m w hz hm (by decide)).mono ?_
  rintro e w' ⟨rfl, rfl⟩
  have hl : Lib.countB RB ⟨#[44, 32]⟩ + 1 = PL.length := by
    rw [← hP, split_len RS [44, 32] (by simp), ← hR]
    first | done | rfl
  exact ⟨by rw [hl], by rw [split_row, hR, hP]⟩
def lastB (L : List (List UInt8)) : Bool := (L.map fun p => (opnd p).2.1).getLastD false
def intsV (L : List (List UInt8)) : List Value := L.map fun p => Value.int .i64 (opnd p).1
theorem lastB_snoc (L : List (List UInt8)) (p : List UInt8) : lastB (L ++ [p]) = (opnd p).2.1 := by simp [lastB]
theorem intsV_snoc (L : List (List UInt8)) (p : List UInt8) : intsV (L ++ [p]) = intsV L ++ [.int .i64 (opnd p).1] := by simp [intsV]
theorem info_int : (Tryz.prog.info? 3).map (fun i => (i.zero, i.size, i.bytes)) = some (some (.int .i64 0), 1, 8) := by kernel_rfl
theorem new_cells {w w1 : World} {x : Value} {t : TypeId} (h : w1 = w.alloc (.cells #[x] t)) : ∀ (j : Nat) (u : Value), [x][j]? = some u → w1.cell? ((⟨w.heap.size, 0, none⟩ : Addr).add j) = some u := by
  subst h
  exact cell_one_new w x t
theorem own_base {w : World} {base : Nat} {e : TypeId} {size : Nat} {v : Value} {n : Nat} {xs : List Value} (h : w.ownsRow base e size v n xs) (b : Nat) (hb : v.ownBlock = some b) : base ≤ b := (h.lt b hb).1
theorem own_below {w w' : World} {base : Nat} {e : TypeId} {size : Nat} {v : Value} {n : Nat} {xs : List Value} (h : w.ownsRow base e size v n xs) (hb : Below w.heap.size w w') : w'.ownsRow base e size v n xs := by
  refine ⟨h.1, ?_⟩
  rcases h.2 with hn | ⟨g, cap, cur, rfl, hb', hg, rest⟩
  · exact .inl hn
  · exact .inr ⟨g, cap, cur, rfl, hb', b_below hg hb, rest⟩
theorem own_some {w : World} {base : Nat} {e : TypeId} {A : Option Addr} {n C : Nat} {xs : List Value} (h : w.ownsRow base e 1 (.slice A n C) n xs) (hn : 0 < n) : ∃ g, A = some ⟨g, 0, none⟩ ∧ n ≤ C ∧ C ≤ 9223372036854775807 ∧ ∀ (j : Nat) (u : Value), xs[j]? = some u → w.cell? ⟨g, j, none⟩ = some u := by
  have hc := h.2
  rcases hc with ⟨-, h0⟩ | ⟨g, cap, cur, hv, -, -, k1, k2, -⟩
  · omega
  · injection hv with h1 h2 h3
    subst h1 h3
    refine ⟨g, rfl, k1, by unfold maxLen at k2; omega, fun j u hu => ?_⟩
    have := h.cells (g := g) rfl j u hu
    rwa [add_nil] at this
theorem restP_bad {k : Shp} {L : List (List UInt8)} {p : List UInt8} (hp : p ∈ L) (h : (opnd p).2.2 = false) : restP k L = none := by
  unfold restP
  rw [if_neg]
  intro ha
  have := List.all_eq_true.1 ha p hp
  rw [h] at this
  cases this
theorem restP_good {k : Shp} {L : List (List UInt8)} (h : ∀ p ∈ L, (opnd p).2.2 = true) : restP k L = finP k (L.map fun p => (opnd p).1) (lastB L) := by
  unfold restP
  rw [if_pos (List.all_eq_true.2 h)]
  rfl
theorem encW_cases {x : Ins} {a b : Int} (h : encW x = (a, b)) : 0 ≤ a ∧ a ≤ 4294967295 ∧ (b = 0 ∨ b = 20) := by
  unfold encW at h
  split at h
  · rename_i hg
    injection h with h1 h2
    obtain ⟨r1, r2⟩ := encI_range hg
    exact ⟨by omega, by omega, .inl h2.symm⟩
  · injection h with h1 h2
    exact ⟨by omega, by omega, .inr h2.symm⟩
theorem lineW_cases {x : Int} {a : List UInt8} {b : Int} (h : lineW x = (a, b)) : b = 0 ∨ b = 20 := by
  unfold lineW at h
  split at h
  · injection h with h1 h2; exact .inl h2.symm
  · injection h with h1 h2; exact .inr h2.symm
theorem word_bad1 {x : Ins} {s : List UInt8} {ew : Int} (h : encW x = (ew, 20)) : wordOf (some x) s = (0, 60) := by
  unfold wordOf
  simp only [h]
  rw [if_neg (by simp)]
theorem word_bad2 {x : Ins} {s ls : List UInt8} {ew : Int} (h : encW x = (ew, 0)) (hl : lineW ew = (ls, 20)) : wordOf (some x) s = (0, 60) := by
  unfold wordOf
  simp only [h, hl]
  rw [if_neg (by simp)]
theorem word_bad3 {x : Ins} {s ls : List UInt8} {ew : Int} (h : encW x = (ew, 0)) (hl : lineW ew = (ls, 0)) (hne : ls ≠ s) : wordOf (some x) s = (0, 60) := by
  unfold wordOf
  simp only [h, hl]
  rw [if_neg (by simp [hne])]
theorem word_good {x : Ins} {s : List UInt8} {ew : Int} (h : encW x = (ew, 0)) (hl : lineW ew = (s, 0)) : wordOf (some x) s = (ew, 0) := by
  unfold wordOf
  simp only [h, hl]
  rw [if_pos (by simp)]
theorem fin_none {k : Shp} {l : List Int} {b : Bool} (h : finP k l b = none) : finP k l b = none := h
theorem inR0 : InR 0 := ⟨by omega, by omega⟩
theorem len3 {α : Type} {l : List α} (h : l.length = 3) : ∃ a b c, l = [a, b, c] := by
  match l, h with
  | [a, b, c], _ => exact ⟨a, b, c, rfl⟩
theorem keep_cell {l : List Nat} {w wl : World} (hL : KeepsBs l w wl) {b i : Nat} (hb : b ∈ l) {v : Value} (h : w.cell? ⟨b, i, none⟩ = some v) : wl.cell? ⟨b, i, none⟩ = some v := (World.cell?_of_block (hL b hb)).trans h
set_option maxRecDepth 100000 in
theorem p_word_long (v : Value) (s : List UInt8) (w : World) (hs : s.length ≤ 140737488351232) (hlong : 40 < s.length) : Calls Tryz.prog 16 #[v, .string ⟨s.toArray⟩] w (AtWordP s w) := by
  have hp : parseP s = none := by unfold parseP; rw [if_pos hlong]
  have hw := word_none (s := s) hp
  obtain ⟨S, hS⟩ : ∃ S : ByteArray, (⟨s.toArray⟩ : ByteArray) = S := ⟨_, rfl⟩
  have hz : (40 : Int) < S.size := by rw [← hS, size_mk]; omega
  have hz2 : S.size ≤ 140737488351232 := by rw [← hS, size_mk]; exact hs
  rw [hS]
  have HW := Lib.hid hw
  clear hw hp hS
  go_enter Tryz.func16, Tryz.ntmps16
  go_wp2_with fail
  go_ret2
  exact ⟨by rw [HW.out]; rfl, Below.refl _ _⟩
set_option maxRecDepth 100000 in
theorem p_word_noname (v : Value) (s : List UInt8) (w : World) (hn : IsNamer w v) (hv : VarsA w) (hs : ¬ 40 < s.length) (hf : findP (Lib.cut s [32]).1 = none) : Calls Tryz.prog 16 #[v, .string ⟨s.toArray⟩] w (AtWordP s w) := by
  have hp : parseP s = none := by unfold parseP; rw [if_neg hs, hf]
  have hw := word_none (s := s) hp
  obtain ⟨P, Bs, Bn, g1, C1, g2, C2, rfl, hm⟩ := namer_of hn
  obtain ⟨S, hS⟩ : ∃ S : ByteArray, (⟨s.toArray⟩ : ByteArray) = S := ⟨_, rfl⟩
  have hSl : S.data.toList = s := by rw [← hS]
  have hz : ¬ (40 : Int) < S.size := by rw [← hS, size_mk]; omega
  have hcl := cut_len s [32]
  obtain ⟨NM, hNM⟩ : ∃ S : ByteArray, (⟨(Lib.cut s [32]).1.toArray⟩ : ByteArray) = S := ⟨_, rfl⟩
  have hlk := look_no hf (by omega) Bn hNM
  rw [hS]
  obtain ⟨m, hmost⟩ := hv.most
  have HW := Lib.hid hw
  have HNM := Lib.hid hNM
  have HLK := Aside.mk hlk
  have HM := Aside.mk hm
  have HMO := Lib.hid hmost
  have HSL := Lib.hid hSl
  have hz2 : S.size < 4294967281 := by omega
  clear hw hp hS hn hf hNM hlk hm hmost hv hSl
  go_enter Tryz.func16, Tryz.ntmps16
  go_wp2_with fail
  refine (Tryz.strings_Cut S _ m _ hz2 HMO.out).mono ?_
  rintro e w1 ⟨rfl, nd, rfl⟩
  rw [show (⟨(Lib.cut S.data.toList (⟨#[32]⟩ : ByteArray).data.toList).1.toArray⟩ : ByteArray) = NM by rw [HSL.out]; exact HNM.out]
  have hM1 : Nmr P Bs Bn g1 C1 g2 C2 (w.drewN nd) := HM.out.stays (bdrew _ _ _)
  have p3 : (w.drewN nd).cell? ⟨P, 3, none⟩ = some (.map (some Bn)) := by (rw [cell_of_block hM1.str]; rfl)
  have hlk := HLK.out _ hM1.byN
  clear hM1
  go_wp2_with fail
  go_ret2
  exact ⟨by rw [HW.out]; rfl, bdrew _ _ _⟩
set_option maxRecDepth 100000 in
set_option maxHeartbeats 4000000 in
theorem p_word_named (v : Value) (s : List UInt8) (w : World) (hn : IsNamer w v) (hv : VarsA w) (hs : ¬ 40 < s.length) (f o : Int) (u uv : Bool) (hf : findP (Lib.cut s [32]).1 = some ⟨f, o, u, uv⟩) : Calls Tryz.prog 16 #[v, .string ⟨s.toArray⟩] w (AtWordP s w) := by
  obtain ⟨i, hi, hti⟩ := find_some hf
  obtain ⟨RS, hRS⟩ : ∃ r, (Lib.cut s [32]).2.1 = r := ⟨_, rfl⟩
  obtain ⟨PL, hPL⟩ : ∃ l, Lib.split RS [44, 32] = l := ⟨_, rfl⟩
  have hp : parseP s = restP ⟨f, o, u, uv⟩ PL := by unfold parseP; rw [if_neg hs, hf, hRS, hPL]
  obtain ⟨P, Bs, Bn, g1, C1, g2, C2, rfl, hm⟩ := namer_of hn
  obtain ⟨S, hS⟩ : ∃ S : ByteArray, (⟨s.toArray⟩ : ByteArray) = S := ⟨_, rfl⟩
  have hSl : S.data.toList = s := by rw [← hS]
  have hz : ¬ (40 : Int) < S.size := by rw [← hS, size_mk]; omega
  have hcl := cut_len s [32]
  obtain ⟨NM, hNM⟩ : ∃ S : ByteArray, (⟨(Lib.cut s [32]).1.toArray⟩ : ByteArray) = S := ⟨_, rfl⟩
  obtain ⟨RB, hRB⟩ : ∃ S : ByteArray, (⟨RS.toArray⟩ : ByteArray) = S := ⟨_, rfl⟩
  have hRl : RB.data.toList = RS := by rw [← hRB]
  have hRz : RB.size ≤ 40 := by rw [← hRB, size_mk, ← hRS]; omega
  have hlk := look_N hti (by omega) Bn hNM
  have hsc := shapes_cell hti
  have hform := table_forms _ (List.mem_of_getElem? hti)
  simp only at hform
  rw [hS]
  obtain ⟨m, hmost⟩ := hv.most
  have HNM := Lib.hid hNM
  have HRB : Hid ((⟨(Lib.cut s [32]).2.1.toArray⟩ : ByteArray) = RB) := Lib.hid (by rw [hRS]; exact hRB)
  have HLK := Aside.mk hlk
  have HM := Aside.mk hm
  have HMO := Lib.hid hmost
  have HSL := Lib.hid hSl
  have HV := Aside.mk hv
  have HSC := Aside.mk hsc
  have HPL := Lib.hid hPL
  have HRL := Lib.hid hRl
  have HP := Lib.hid hp
  have HRS := Lib.hid hRS
  have HF := Lib.hid hform
  have hcap := hm.cap
  obtain ⟨-, -, cp1, cp2⟩ := hcap
  unfold maxLen at cp2
  have hi84 : (i : Int) < 84 := by omega
  have hz2 : S.size < 4294967281 := by omega
  clear hp hS hn hf hNM hlk hm hmost hv hSl hsc hPL hRl hRB hRS hform hti hcl
  go_enter Tryz.func16, Tryz.ntmps16
  go_wp2_with fail
  refine (Tryz.strings_Cut S _ m _ hz2 HMO.out).mono ?_
  rintro e w1 ⟨rfl, nd, hw1⟩
  rw [show (⟨(Lib.cut S.data.toList (⟨#[32]⟩ : ByteArray).data.toList).1.toArray⟩ : ByteArray) = NM by rw [HSL.out]; exact HNM.out, show (⟨(Lib.cut S.data.toList (⟨#[32]⟩ : ByteArray).data.toList).2.1.toArray⟩ : ByteArray) = RB by rw [HSL.out]; exact HRB.out]
  generalize (Lib.cut S.data.toList (⟨#[32]⟩ : ByteArray).data.toList).2.2 = fnd
  have hB1 : Below w.heap.size w w1 := by rw [hw1]; exact bdrew _ _ _
  have hM1 : Nmr P Bs Bn g1 C1 g2 C2 w1 := HM.out.stays hB1
  have p1 : w1.cell? ⟨P, 1, none⟩ = some (.slice (some ⟨g2, 0, none⟩) 84 C2) := by (rw [cell_of_block hM1.str]; rfl)
  have p3 : w1.cell? ⟨P, 3, none⟩ = some (.map (some Bn)) := by (rw [cell_of_block hM1.str]; rfl)
  have hlk := HLK.out _ hM1.byN
  have k0 : w1.cell? ⟨g2, i * 4, none⟩ = some (.int .i64 f) := hM1.shapes _ _ ((HSC.out 0 (by omega)).trans rfl)
  have k1 : w1.cell? ⟨g2, i * 4 + 1, none⟩ = some (.int .i64 o) := hM1.shapes _ _ ((HSC.out 1 (by omega)).trans rfl)
  have k2 : w1.cell? ⟨g2, i * 4 + 2, none⟩ = some (.bool u) := hM1.shapes _ _ ((HSC.out 2 (by omega)).trans rfl)
  have k3 : w1.cell? ⟨g2, i * 4 + 3, none⟩ = some (.bool uv) := hM1.shapes _ _ ((HSC.out 3 (by omega)).trans rfl)
  have HM1 := Aside.mk hM1
  clear hM1 hw1
  go_wp2_with fail
  refine (p_split RB RS PL HRL.out HPL.out m _ (by omega) (a_keep (ablow _ _) (a_keep hB1 HMO.out))).mono ?_
  rintro e w2 ⟨rfl, rfl⟩
  obtain ⟨n, hn⟩ : ∃ n, PL.length = n := ⟨_, rfl⟩
  have hn42 : n ≤ 42 := by
    have := split_len RS [44, 32] (by simp)
    have h2 := Lib.count_le RS [44, 32]
    have h3 : RS.length ≤ 40 := by rw [← HRL.out, len_list]; exact hRz
    rw [HPL.out, hn] at this
    omega
  obtain ⟨SH, hSH⟩ : ∃ b, w1.heap.size = b := ⟨_, rfl⟩
  have hFz : (w1.alloc (.cells #[.int .i64 f, .int .i64 o, .bool u, .bool uv] 74)).heap.size = SH + 1 := by simp [hSH]
  rw [hn, hSH, hFz]
  generalize hW : World.alloc _ _ = W3
  have fSH : W3.heap[SH]? = some (.cells #[.int .i64 f, .int .i64 o, .bool u, .bool uv] 74 (0, 0)) := by rw [← hW]; exact b_alloc (b_at hSH _) _
  have fF : W3.heap[SH + 1]? = some (.cells (textsRow PL) 9 (0, 0)) := by rw [← hW]; exact b_at hFz _
  have hB3 : Below w.heap.size w W3 := by rw [← hW]; exact bthen (bthen hB1 (ablow _ _)) (ablow _ _)
  have hz3 : W3.heap.size = SH + 1 + 1 := by rw [← hW]; simp [hSH]
  have HN := Lib.hid hn
  have FSH := Lib.hid fSH
  have FF := Lib.hid fF
  have HZ3 := Lib.hid hz3
  clear hW hn hSH hFz fSH fF hz3 p1 p3 hlk k0 k1 k2 k3
  obtain ⟨i0, hi, hz0, hz1, hz2⟩ := info_parts info_int
  have HI := Lib.hid hi
  have HZ0 := Lib.hid hz0
  have HZ1 := Lib.hid hz1
  have HZ2 := Lib.hid hz2
  clear hi hz0 hz1 hz2
  go_wp2_with fail
  go_loopw [12, 13, 54] (fun l la i wr => ∃ (k : Nat) (A : Option Addr) (C : Nat), l = .slice A k C ∧ k ≤ n ∧ i = .int .i64 k ∧ la = .bool (lastB (PL.take k)) ∧ Aside (wr.ownsRow W3.heap.size 3 1 (.slice A k C) k (intsV (PL.take k))) ∧ Aside (∀ p ∈ PL.take k, (opnd p).2.2 = true) ∧ Below W3.heap.size W3 wr) (fun _ _ i _ => n - (intOf i).toNat)
  case atStart => exact ⟨0, none, 0, rfl, by omega, rfl, rfl, ⟨World.ownsRow_nil _ _ _ _⟩, ⟨by simp⟩, Below.refl _ _⟩
  case round =>
    obtain ⟨k, A, C, rfl, hk, rfl, rfl, hown, hall, hBk⟩ := hrel
    have hNm : Nmr P Bs Bn g1 C1 g2 C2 wr := HM.out.stays (bthen hB3 hBk)
    have HNm := Aside.mk hNm
    have hVr : VarsA wr := HV.out.stays (bthen hB3 hBk)
    have HVr := Aside.mk hVr
    clear hNm hVr
    by_cases hlt : k < n
    · obtain ⟨p, hp⟩ : ∃ p, PL[k]? = some p := ⟨PL[k]'(by rw [HN.out]; exact hlt), List.getElem?_eq_getElem _⟩
      obtain ⟨PB, hPB⟩ : ∃ S : ByteArray, (⟨p.toArray⟩ : ByteArray) = S := ⟨_, rfl⟩
      have hcell : wr.cell? ⟨SH + 1, k, none⟩ = some (.string PB) := by
        rw [cell_of_block (below_block hBk (by rw [HZ3.out]; omega) FF.out), ← hPB]
        simp [textsRow, hp]
      have hpl : p.length ≤ 1000 := by
        have h1 := split_mem_len RS [44, 32] p (by rw [HPL.out]; exact List.mem_of_getElem? hp)
        have h3 : RS.length ≤ 40 := by rw [← HRL.out, len_list]; exact hRz
        omega
      have hsn : PL.take (k + 1) = PL.take k ++ [p] := by
        rw [List.take_add_one, hp]; rfl
      have hpm : p ∈ PL := List.mem_of_getElem? hp
      have hki : (k : Int) < n := by omega
      obtain ⟨rg, hrg⟩ : ∃ r, (opnd p).2.1 = r := ⟨_, rfl⟩
      obtain ⟨ok, hok⟩ : ∃ r, (opnd p).2.2 = r := ⟨_, rfl⟩
      have HSN := Lib.hid hsn
      have HPB := Lib.hid hPB
      have HRG := Lib.hid hrg
      have HOK := Lib.hid hok
      clear hsn hPB hrg hok hp
      go_wp2_with fail
      rw [← HPB.out]
      refine (p_operand p _ HVr.out hpl).mono ?_
      rintro e w4 ⟨nn, rfl, hnn, hB4⟩
      rw [HRG.out, HOK.out]
      have HNN := Aside.mk hnn
      clear hnn hcell
      cases ok
      · go_wp2_with fail
        go_ret2
        refine ⟨?_, bthen (bthen hB3 hBk) hB4⟩
        rw [word_none (by rw [HP.out]; exact restP_bad hpm HOK.out)]
        rfl
      · have hown4 : Aside (w4.ownsRow W3.heap.size 3 1 (.slice A k C) k (intsV (PL.take k))) := ⟨own_below hown.out hB4⟩
        have hb34 : Below W3.heap.size W3 w4 := bthen hBk hB4
        have hz4 : W3.heap.size ≤ w4.heap.size := hb34.size
        clear hown hBk hB4
        go_wp2_with (at_builtin; refine wpList_append_own _ rfl _ _ 77 rfl W3.heap.size 3 i0 _ 1 8 Tryz.underlying77 HI.out HZ0.out HZ1.out HZ2.out rfl (by decide) _ k _ rfl (hown4.out.alloc _) ⟨w4.heap.size, 0, none⟩ 1 1 [.int .i64 nn] rfl rfl ?c1 ?c2 ?c3 ?c4 ?c5 ?_)
        case c1 => exact new_cells rfl
        case c2 => intro u hu; simp at hu; subst hu; rfl
        case c3 => unfold maxLen; omega
        case c4 => omega
        case c5 => simp; omega
        intro v3 w5 hown5 hgrow hiff
        have hB5 : Below W3.heap.size W3 w5 := by
          refine Below.grown ?_ hgrow ?_ (fun b hb => own_base hown4.out b hb)
          · exact hb34.alloc hz4 _
          · simp; omega
        obtain ⟨A5, C5, rfl⟩ := own_slice hown5
        have HOWN := Aside.mk hown5
        clear hown5 hgrow hiff hown4 hb34
        go_wp2_with fail
        go_roundw
        case rel =>
          refine ⟨k + 1, A5, C5, rfl, by omega, by go_num, by rw [HSN.out, lastB_snoc, HRG.out], ⟨?_⟩, ⟨?_⟩, hB5⟩
          · rw [HSN.out, intsV_snoc, ← HNN.out HOK.out]; exact HOWN.out
          · rw [HSN.out]
            intro q hq
            rcases List.mem_append.1 hq with hq | hq
            · exact hall.out q hq
            · rw [List.mem_singleton.1 hq]; exact HOK.out
        case measure => simp [intOf]; omega
    · have hkn : k = n := by omega
      subst hkn
      have htk : PL.take k = PL := List.take_of_length_le (Nat.le_of_eq HN.out)
      rw [htk] at hown hall ⊢
      obtain ⟨b, hb⟩ : ∃ b, lastB PL = b := ⟨_, rfl⟩
      rw [hb]
      have hpr : parseP s = finP ⟨f, o, u, uv⟩ (PL.map fun p => (opnd p).1) b := by rw [HP.out, restP_good hall.out, hb]
      have hsh := below_block hBk (by rw [HZ3.out]; omega) FSH.out
      have s0 : wr.cell? ⟨SH, 0, none⟩ = some (.int .i64 f) := by (rw [cell_of_block hsh]; rfl)
      have s1 : wr.cell? ⟨SH, 1, none⟩ = some (.int .i64 o) := by (rw [cell_of_block hsh]; rfl)
      have s2 : wr.cell? ⟨SH, 2, none⟩ = some (.bool u) := by (rw [cell_of_block hsh]; rfl)
      have s3 : wr.cell? ⟨SH, 3, none⟩ = some (.bool uv) := by (rw [cell_of_block hsh]; rfl)
      have hltS : SH < wr.heap.size := block_lt hsh
      have HPR := Lib.hid hpr
      have HB := Lib.hid hb
      clear hpr hsh hb htk hk hlt
      rcases HF.out with rfl | rfl | rfl
      · by_cases h1 : k = 3
        · subst h1
          obtain ⟨p0, p1, p2, rfl⟩ := len3 HN.out
          obtain ⟨g, rfl, gc1, gc2, hcells⟩ := own_some hown.out (by omega)
          obtain ⟨v0, hv0⟩ : ∃ v, (opnd p0).1 = v := ⟨_, rfl⟩
          obtain ⟨v1, hv1⟩ : ∃ v, (opnd p1).1 = v := ⟨_, rfl⟩
          obtain ⟨v2, hv2⟩ : ∃ v, (opnd p2).1 = v := ⟨_, rfl⟩
          have c0 : wr.cell? ⟨g, 0, none⟩ = some (.int .i64 v0) := hcells 0 _ (by simp [intsV, hv0])
          have c1 : wr.cell? ⟨g, 1, none⟩ = some (.int .i64 v1) := hcells 1 _ (by simp [intsV, hv1])
          have c2 : wr.cell? ⟨g, 2, none⟩ = some (.int .i64 v2) := hcells 2 _ (by simp [intsV, hv2])
          have hglt : g < wr.heap.size := World.block_lt_of_cell? wr _ c0
          have rv2 : InR v2 := hv2 ▸ opnd_range p2
          have hx : parseP s = finP ⟨0, o, u, uv⟩ [v0, v1, v2] b := by rw [HPR.out]; simp [hv0, hv1, hv2]
          have HX := Lib.hid hx
          clear hcells hx hv0 hv1 hv2
          cases b
          · go_wp2_with fail
            refine any_begin (keepsBs_goes [g, SH]) (by kernel_rfl) ?_
            generalize hW : World.drew _ = V0
            have fX : V0.heap[wr.heap.size]? = some (.cells #[.int .i64 0, .bool u, .bool uv, .int .i64 0, .int .i64 0, .int .i64 0, .int .i64 0, .int .i64 0] 45 (0, 0)) := by rw [← hW]; exact b_new _ _
            have hB4 : Below wr.heap.size wr V0 := by rw [← hW]; exact (ablow _ _).drew
            replace c0 := a_keep hB4 c0
            replace c1 := a_keep hB4 c1
            replace c2 := a_keep hB4 c2
            replace s0 := a_keep hB4 s0
            replace s1 := a_keep hB4 s1
            replace s2 := a_keep hB4 s2
            replace s3 := a_keep hB4 s3
            clear hW
            refine any_take (keepsBs_goes [g, SH]) 0 ?_ ?_ (by simp only [List.getElem?_toArray, List.getElem?_cons_succ, List.getElem?_cons_zero]; exact rfl) (by kernel_rfl) (by kernel_rfl) (by kernel_rfl) (fun _ _ _ _ _ h => h) (by rfl) ?_ ?_
            rotate_left
            · intro wl hL
              have lg0 := keep_cell hL (b := g) (by simp) c0; have lg1 := keep_cell hL (b := g) (by simp) c1; have ls1 := keep_cell hL (b := SH) (by simp) s1
              go_simp
              try with_reducible rfl
            try simp only [Act.put, List.setIfInBounds_toArray, List.set_cons_zero, List.set_cons_succ]
            refine any_take (keepsBs_goes [g, SH]) 1 ?_ ?_ (by simp only [List.getElem?_toArray, List.getElem?_cons_succ, List.getElem?_cons_zero]; exact rfl) (by kernel_rfl) (by kernel_rfl) (by kernel_rfl) (fun _ _ _ _ _ h => h) (by rfl) ?_ ?_
            rotate_left
            · intro wl hL
              have lg0 := keep_cell hL (b := g) (by simp) c0; have lg1 := keep_cell hL (b := g) (by simp) c1; have ls1 := keep_cell hL (b := SH) (by simp) s1
              go_simp
              try with_reducible rfl
            try simp only [Act.put, List.setIfInBounds_toArray, List.set_cons_zero, List.set_cons_succ]
            refine any_take (keepsBs_goes [g, SH]) 2 ?_ ?_ (by simp only [List.getElem?_toArray, List.getElem?_cons_succ, List.getElem?_cons_zero]; exact rfl) (by kernel_rfl) (by kernel_rfl) (by kernel_rfl) (fun _ _ _ _ _ h => h) (by rfl) ?_ ?_
            rotate_left
            · intro wl hL
              have lg0 := keep_cell hL (b := g) (by simp) c0; have lg1 := keep_cell hL (b := g) (by simp) c1; have ls1 := keep_cell hL (b := SH) (by simp) s1
              go_simp
              try with_reducible rfl
            try simp only [Act.put, List.setIfInBounds_toArray, List.set_cons_zero, List.set_cons_succ]
            refine any_take (keepsBs_goes [g, SH]) 3 ?_ ?_ (by simp only [List.getElem?_toArray, List.getElem?_cons_succ, List.getElem?_cons_zero]; exact rfl) (by kernel_rfl) (by kernel_rfl) (by kernel_rfl) (fun _ _ _ _ _ h => h) (by rfl) ?_ ?_
            rotate_left
            · intro wl hL
              have lg0 := keep_cell hL (b := g) (by simp) c0; have lg1 := keep_cell hL (b := g) (by simp) c1; have ls1 := keep_cell hL (b := SH) (by simp) s1
              go_simp
              try with_reducible rfl
            try simp only [Act.put, List.setIfInBounds_toArray, List.set_cons_zero, List.set_cons_succ]
            refine any_take (keepsBs_goes [g, SH]) 4 ?_ ?_ (by simp only [List.getElem?_toArray, List.getElem?_cons_succ, List.getElem?_cons_zero]; exact rfl) (by kernel_rfl) (by kernel_rfl) (by kernel_rfl) (fun _ _ _ _ _ h => h) (by rfl) ?_ ?_
            rotate_left
            · intro wl hL
              have lg0 := keep_cell hL (b := g) (by simp) c0; have lg1 := keep_cell hL (b := g) (by simp) c1; have ls1 := keep_cell hL (b := SH) (by simp) s1
              go_simp
              try with_reducible rfl
            try simp only [Act.put, List.setIfInBounds_toArray, List.set_cons_zero, List.set_cons_succ]
            refine any_take (keepsBs_goes [g, SH]) 5 ?_ ?_ (by simp only [List.getElem?_toArray, List.getElem?_cons_succ, List.getElem?_cons_zero]; exact rfl) (by kernel_rfl) (by kernel_rfl) (by kernel_rfl) (fun _ _ _ _ _ h => h) (by rfl) ?_ ?_
            rotate_left
            · intro wl hL
              have lg0 := keep_cell hL (b := g) (by simp) c0; have lg1 := keep_cell hL (b := g) (by simp) c1; have ls1 := keep_cell hL (b := SH) (by simp) s1
              go_simp
              try with_reducible rfl
            try simp only [Act.put, List.setIfInBounds_toArray, List.set_cons_zero, List.set_cons_succ]
            refine any_take (keepsBs_goes [g, SH]) 6 ?_ ?_ (by simp only [List.getElem?_toArray, List.getElem?_cons_succ, List.getElem?_cons_zero]; exact rfl) (by kernel_rfl) (by kernel_rfl) (by kernel_rfl) (fun _ _ _ _ _ h => h) (by rfl) ?_ ?_
            rotate_left
            · intro wl hL
              have lg0 := keep_cell hL (b := g) (by simp) c0; have lg1 := keep_cell hL (b := g) (by simp) c1; have ls1 := keep_cell hL (b := SH) (by simp) s1
              go_simp
              try with_reducible rfl
            try simp only [Act.put, List.setIfInBounds_toArray, List.set_cons_zero, List.set_cons_succ]
            refine any_take (keepsBs_goes [g, SH]) 7 ?_ ?_ (by simp only [List.getElem?_toArray, List.getElem?_cons_succ, List.getElem?_cons_zero]; exact rfl) (by kernel_rfl) (by kernel_rfl) (by kernel_rfl) (fun _ _ _ _ _ h => h) (by rfl) ?_ ?_
            rotate_left
            · intro wl hL
              have lg0 := keep_cell hL (b := g) (by simp) c0; have lg1 := keep_cell hL (b := g) (by simp) c1; have ls1 := keep_cell hL (b := SH) (by simp) s1
              go_simp
              try with_reducible rfl
            try simp only [Act.put, List.setIfInBounds_toArray, List.set_cons_zero, List.set_cons_succ]
            refine any_take (keepsBs_goes [g, SH]) 8 ?_ ?_ (by simp only [List.getElem?_toArray, List.getElem?_cons_succ, List.getElem?_cons_zero]; exact rfl) (by kernel_rfl) (by kernel_rfl) (by kernel_rfl) (fun _ _ _ _ _ h => h) (by rfl) ?_ ?_
            rotate_left
            · intro wl hL
              have lg0 := keep_cell hL (b := g) (by simp) c0; have lg1 := keep_cell hL (b := g) (by simp) c1; have ls1 := keep_cell hL (b := SH) (by simp) s1
              go_simp
              try with_reducible rfl
            try simp only [Act.put, List.setIfInBounds_toArray, List.set_cons_zero, List.set_cons_succ]
            have pc := cell_of_block fX 3
            have pf := frozen_of_block fX 3
            refine any_one 9 _ (by kernel_rfl) (by simp only [List.getElem?_toArray, List.getElem?_cons_succ, List.getElem?_cons_zero]; exact rfl) (fun K hK => ?_)
            go_simp
            refine hK.out _ _ (keeps_setCell (by intro b hb; simp only [List.mem_cons, List.not_mem_nil, or_false] at hb; rcases hb with rfl | rfl <;> omega)) ?_
            clear hK K pc pf
            try simp only [Act.put, List.setIfInBounds_toArray, List.set_cons_zero, List.set_cons_succ]
            generalize hW : World.setCell _ _ _ = V1
            replace hB4 : Below wr.heap.size wr V1 := by rw [← hW]; exact hB4.setCell (Nat.le_refl _) _
            replace fX : V1.heap[wr.heap.size]? = some (.cells #[.int .i64 0, .bool u, .bool uv, .int .i64 v0, .int .i64 0, .int .i64 0, .int .i64 0, .int .i64 0] 45 (0, 0)) := by rw [← hW]; exact b_put fX 3 _ rfl
            replace c0 := (show V1.cell? ⟨g, 0, none⟩ = some (.int .i64 v0) by rw [← hW, World.cell?_setCell_far _ _ _ _ (show wr.heap.size ≠ g by omega)]; exact c0)
            replace c1 := (show V1.cell? ⟨g, 1, none⟩ = some (.int .i64 v1) by rw [← hW, World.cell?_setCell_far _ _ _ _ (show wr.heap.size ≠ g by omega)]; exact c1)
            replace c2 := (show V1.cell? ⟨g, 2, none⟩ = some (.int .i64 v2) by rw [← hW, World.cell?_setCell_far _ _ _ _ (show wr.heap.size ≠ g by omega)]; exact c2)
            replace s0 := (show V1.cell? ⟨SH, 0, none⟩ = some _ by rw [← hW, World.cell?_setCell_far _ _ _ _ (show wr.heap.size ≠ SH by omega)]; exact s0)
            replace s1 := (show V1.cell? ⟨SH, 1, none⟩ = some _ by rw [← hW, World.cell?_setCell_far _ _ _ _ (show wr.heap.size ≠ SH by omega)]; exact s1)
            replace s2 := (show V1.cell? ⟨SH, 2, none⟩ = some _ by rw [← hW, World.cell?_setCell_far _ _ _ _ (show wr.heap.size ≠ SH by omega)]; exact s2)
            replace s3 := (show V1.cell? ⟨SH, 3, none⟩ = some _ by rw [← hW, World.cell?_setCell_far _ _ _ _ (show wr.heap.size ≠ SH by omega)]; exact s3)
            clear hW
            refine any_take (keepsBs_goes [g, SH]) 10 ?_ ?_ (by simp only [List.getElem?_toArray, List.getElem?_cons_succ, List.getElem?_cons_zero]; exact rfl) (by kernel_rfl) (by kernel_rfl) (by kernel_rfl) (fun _ _ _ _ _ h => h) (by rfl) ?_ ?_
            rotate_left
            · intro wl hL
              skip
              go_simp
              try with_reducible rfl
            try simp only [Act.put, List.setIfInBounds_toArray, List.set_cons_zero, List.set_cons_succ]
            have pc := cell_of_block fX 4
            have pf := frozen_of_block fX 4
            refine any_one 11 _ (by kernel_rfl) (by simp only [List.getElem?_toArray, List.getElem?_cons_succ, List.getElem?_cons_zero]; exact rfl) (fun K hK => ?_)
            go_simp
            refine hK.out _ _ (keeps_setCell (by intro b hb; simp only [List.mem_cons, List.not_mem_nil, or_false] at hb; rcases hb with rfl | rfl <;> omega)) ?_
            clear hK K pc pf
            try simp only [Act.put, List.setIfInBounds_toArray, List.set_cons_zero, List.set_cons_succ]
            generalize hW : World.setCell _ _ _ = V2
            replace hB4 : Below wr.heap.size wr V2 := by rw [← hW]; exact hB4.setCell (Nat.le_refl _) _
            replace fX : V2.heap[wr.heap.size]? = some (.cells #[.int .i64 0, .bool u, .bool uv, .int .i64 v0, .int .i64 v1, .int .i64 0, .int .i64 0, .int .i64 0] 45 (0, 0)) := by rw [← hW]; exact b_put fX 4 _ rfl
            replace c0 := (show V2.cell? ⟨g, 0, none⟩ = some (.int .i64 v0) by rw [← hW, World.cell?_setCell_far _ _ _ _ (show wr.heap.size ≠ g by omega)]; exact c0)
            replace c1 := (show V2.cell? ⟨g, 1, none⟩ = some (.int .i64 v1) by rw [← hW, World.cell?_setCell_far _ _ _ _ (show wr.heap.size ≠ g by omega)]; exact c1)
            replace c2 := (show V2.cell? ⟨g, 2, none⟩ = some (.int .i64 v2) by rw [← hW, World.cell?_setCell_far _ _ _ _ (show wr.heap.size ≠ g by omega)]; exact c2)
            replace s0 := (show V2.cell? ⟨SH, 0, none⟩ = some _ by rw [← hW, World.cell?_setCell_far _ _ _ _ (show wr.heap.size ≠ SH by omega)]; exact s0)
            replace s1 := (show V2.cell? ⟨SH, 1, none⟩ = some _ by rw [← hW, World.cell?_setCell_far _ _ _ _ (show wr.heap.size ≠ SH by omega)]; exact s1)
            replace s2 := (show V2.cell? ⟨SH, 2, none⟩ = some _ by rw [← hW, World.cell?_setCell_far _ _ _ _ (show wr.heap.size ≠ SH by omega)]; exact s2)
            replace s3 := (show V2.cell? ⟨SH, 3, none⟩ = some _ by rw [← hW, World.cell?_setCell_far _ _ _ _ (show wr.heap.size ≠ SH by omega)]; exact s3)
            clear hW
            refine any_take (keepsBs_goes [g, SH]) 12 ?_ ?_ (by simp only [List.getElem?_toArray, List.getElem?_cons_succ, List.getElem?_cons_zero]; exact rfl) (by kernel_rfl) (by kernel_rfl) (by kernel_rfl) (fun _ _ _ _ _ h => h) (by rfl) ?_ ?_
            rotate_left
            · intro wl hL
              skip
              go_simp
              try with_reducible rfl
            try simp only [Act.put, List.setIfInBounds_toArray, List.set_cons_zero, List.set_cons_succ]
            have pc := cell_of_block fX 6
            have pf := frozen_of_block fX 6
            refine any_one 13 _ (by kernel_rfl) (by simp only [List.getElem?_toArray, List.getElem?_cons_succ, List.getElem?_cons_zero]; exact rfl) (fun K hK => ?_)
            go_simp
            refine hK.out _ _ (keeps_setCell (by intro b hb; simp only [List.mem_cons, List.not_mem_nil, or_false] at hb; rcases hb with rfl | rfl <;> omega)) ?_
            clear hK K pc pf
            try simp only [Act.put, List.setIfInBounds_toArray, List.set_cons_zero, List.set_cons_succ]
            generalize hW : World.setCell _ _ _ = V3
            replace hB4 : Below wr.heap.size wr V3 := by rw [← hW]; exact hB4.setCell (Nat.le_refl _) _
            replace fX : V3.heap[wr.heap.size]? = some (.cells #[.int .i64 0, .bool u, .bool uv, .int .i64 v0, .int .i64 v1, .int .i64 0, .int .i64 o, .int .i64 0] 45 (0, 0)) := by rw [← hW]; exact b_put fX 6 _ rfl
            replace c0 := (show V3.cell? ⟨g, 0, none⟩ = some (.int .i64 v0) by rw [← hW, World.cell?_setCell_far _ _ _ _ (show wr.heap.size ≠ g by omega)]; exact c0)
            replace c1 := (show V3.cell? ⟨g, 1, none⟩ = some (.int .i64 v1) by rw [← hW, World.cell?_setCell_far _ _ _ _ (show wr.heap.size ≠ g by omega)]; exact c1)
            replace c2 := (show V3.cell? ⟨g, 2, none⟩ = some (.int .i64 v2) by rw [← hW, World.cell?_setCell_far _ _ _ _ (show wr.heap.size ≠ g by omega)]; exact c2)
            replace s0 := (show V3.cell? ⟨SH, 0, none⟩ = some _ by rw [← hW, World.cell?_setCell_far _ _ _ _ (show wr.heap.size ≠ SH by omega)]; exact s0)
            replace s1 := (show V3.cell? ⟨SH, 1, none⟩ = some _ by rw [← hW, World.cell?_setCell_far _ _ _ _ (show wr.heap.size ≠ SH by omega)]; exact s1)
            replace s2 := (show V3.cell? ⟨SH, 2, none⟩ = some _ by rw [← hW, World.cell?_setCell_far _ _ _ _ (show wr.heap.size ≠ SH by omega)]; exact s2)
            replace s3 := (show V3.cell? ⟨SH, 3, none⟩ = some _ by rw [← hW, World.cell?_setCell_far _ _ _ _ (show wr.heap.size ≠ SH by omega)]; exact s3)
            clear hW
            refine any_done (by kernel_rfl) ?_ _
            obtain ⟨x0, x1, x2, x3, x4, x5, x6, x7⟩ := b_cells8 fX
            have z0 := b_free fX 0
            have z5 := b_free fX 5
            have z7 := b_free fX 7
            go_wp2_with fail
            refine (p_Encode ⟨1, u, uv, v0, v1, 0, o, v2⟩ _ rv2).mono ?_
            rintro e w5 ⟨rfl, hB5⟩
            obtain ⟨ew, ee, hE⟩ : ∃ a b, encW ⟨1, u, uv, v0, v1, 0, o, v2⟩ = (a, b) := ⟨_, _, rfl⟩
            rw [hE]
            obtain ⟨e0, e1, he⟩ := encW_cases hE
            have hB05 : Below w.heap.size w w5 := bthen (bthen hB3 (hBk.trans (((hB4.setCell (Nat.le_refl _) _).setCell (Nat.le_refl _) _).mono hBk.size))) hB5
            have HN5 := Aside.mk (HM.out.stays hB05)
            have HE := Lib.hid hE
            have HX : Hid (parseP s = some ⟨1, u, uv, v0, v1, 0, o, v2⟩) := Lib.hid (by rw [HX.out]; rfl)
            clear hE hB5
            rcases he with rfl | rfl
            · go_wp2_with fail
              refine (p_lineM P Bs Bn g1 C1 g2 C2 ew _ HN5.out (HV.out.stays hB05) e0 e1).mono ?_
              rintro e w6 ⟨rfl, hB6⟩
              obtain ⟨ls, le, hL⟩ : ∃ a b, lineW ew = (a, b) := ⟨_, _, rfl⟩
              rw [hL]
              have hle := lineW_cases hL
              have HL := Lib.hid hL
              clear hL
              rcases hle with rfl | rfl
              · by_cases hls : ls = s
                · have q : (!ls == S.toList) = false := by rw [ByteArray.toList_eq, HSL.out, hls]; simp
                  have HLS := Lib.hid hls
                  clear hls
                  go_wp2_with fail
                  go_ret2
                  refine ⟨?_, bthen hB05 hB6⟩
                  rw [HX.out, word_good HE.out (HLS.out ▸ HL.out)]
                  rfl
                · have q : (!ls == S.toList) = true := by rw [ByteArray.toList_eq, HSL.out]; simp [hls]
                  go_wp2_with fail
                  go_ret2
                  refine ⟨?_, bthen hB05 hB6⟩
                  rw [HX.out, word_bad3 HE.out HL.out hls]
                  rfl
              · go_wp2_with fail
                go_ret2
                refine ⟨?_, bthen hB05 hB6⟩
                rw [HX.out, word_bad2 HE.out HL.out]
                rfl
            · go_wp2_with fail
              refine (p_lineM P Bs Bn g1 C1 g2 C2 ew _ HN5.out (HV.out.stays hB05) e0 e1).mono ?_
              rintro e w6 ⟨rfl, hB6⟩
              obtain ⟨ls, le, hL⟩ : ∃ a b, lineW ew = (a, b) := ⟨_, _, rfl⟩
              rw [hL]
              clear hL
              go_wp2_with fail
              go_ret2
              refine ⟨?_, bthen hB05 hB6⟩
              rw [HX.out, word_bad1 HE.out]
              rfl
          · go_wp2_with fail
            refine any_begin (keepsBs_goes [g, SH]) (by kernel_rfl) ?_
            generalize hW : World.drew _ = V0
            have fX : V0.heap[wr.heap.size]? = some (.cells #[.int .i64 0, .bool u, .bool uv, .int .i64 0, .int .i64 0, .int .i64 0, .int .i64 0, .int .i64 0] 45 (0, 0)) := by rw [← hW]; exact b_new _ _
            have hB4 : Below wr.heap.size wr V0 := by rw [← hW]; exact (ablow _ _).drew
            replace c0 := a_keep hB4 c0
            replace c1 := a_keep hB4 c1
            replace c2 := a_keep hB4 c2
            replace s0 := a_keep hB4 s0
            replace s1 := a_keep hB4 s1
            replace s2 := a_keep hB4 s2
            replace s3 := a_keep hB4 s3
            clear hW
            refine any_take (keepsBs_goes [g, SH]) 0 ?_ ?_ (by simp only [List.getElem?_toArray, List.getElem?_cons_succ, List.getElem?_cons_zero]; exact rfl) (by kernel_rfl) (by kernel_rfl) (by kernel_rfl) (fun _ _ _ _ _ h => h) (by rfl) ?_ ?_
            rotate_left
            · intro wl hL
              have lg0 := keep_cell hL (b := g) (by simp) c0; have lg1 := keep_cell hL (b := g) (by simp) c1; have ls1 := keep_cell hL (b := SH) (by simp) s1
              go_simp
              try with_reducible rfl
            try simp only [Act.put, List.setIfInBounds_toArray, List.set_cons_zero, List.set_cons_succ]
            refine any_take (keepsBs_goes [g, SH]) 1 ?_ ?_ (by simp only [List.getElem?_toArray, List.getElem?_cons_succ, List.getElem?_cons_zero]; exact rfl) (by kernel_rfl) (by kernel_rfl) (by kernel_rfl) (fun _ _ _ _ _ h => h) (by rfl) ?_ ?_
            rotate_left
            · intro wl hL
              have lg0 := keep_cell hL (b := g) (by simp) c0; have lg1 := keep_cell hL (b := g) (by simp) c1; have ls1 := keep_cell hL (b := SH) (by simp) s1
              go_simp
              try with_reducible rfl
            try simp only [Act.put, List.setIfInBounds_toArray, List.set_cons_zero, List.set_cons_succ]
            refine any_take (keepsBs_goes [g, SH]) 2 ?_ ?_ (by simp only [List.getElem?_toArray, List.getElem?_cons_succ, List.getElem?_cons_zero]; exact rfl) (by kernel_rfl) (by kernel_rfl) (by kernel_rfl) (fun _ _ _ _ _ h => h) (by rfl) ?_ ?_
            rotate_left
            · intro wl hL
              have lg0 := keep_cell hL (b := g) (by simp) c0; have lg1 := keep_cell hL (b := g) (by simp) c1; have ls1 := keep_cell hL (b := SH) (by simp) s1
              go_simp
              try with_reducible rfl
            try simp only [Act.put, List.setIfInBounds_toArray, List.set_cons_zero, List.set_cons_succ]
            refine any_take (keepsBs_goes [g, SH]) 3 ?_ ?_ (by simp only [List.getElem?_toArray, List.getElem?_cons_succ, List.getElem?_cons_zero]; exact rfl) (by kernel_rfl) (by kernel_rfl) (by kernel_rfl) (fun _ _ _ _ _ h => h) (by rfl) ?_ ?_
            rotate_left
            · intro wl hL
              have lg0 := keep_cell hL (b := g) (by simp) c0; have lg1 := keep_cell hL (b := g) (by simp) c1; have ls1 := keep_cell hL (b := SH) (by simp) s1
              go_simp
              try with_reducible rfl
            try simp only [Act.put, List.setIfInBounds_toArray, List.set_cons_zero, List.set_cons_succ]
            refine any_take (keepsBs_goes [g, SH]) 4 ?_ ?_ (by simp only [List.getElem?_toArray, List.getElem?_cons_succ, List.getElem?_cons_zero]; exact rfl) (by kernel_rfl) (by kernel_rfl) (by kernel_rfl) (fun _ _ _ _ _ h => h) (by rfl) ?_ ?_
            rotate_left
            · intro wl hL
              have lg0 := keep_cell hL (b := g) (by simp) c0; have lg1 := keep_cell hL (b := g) (by simp) c1; have ls1 := keep_cell hL (b := SH) (by simp) s1
              go_simp
              try with_reducible rfl
            try simp only [Act.put, List.setIfInBounds_toArray, List.set_cons_zero, List.set_cons_succ]
            refine any_take (keepsBs_goes [g, SH]) 5 ?_ ?_ (by simp only [List.getElem?_toArray, List.getElem?_cons_succ, List.getElem?_cons_zero]; exact rfl) (by kernel_rfl) (by kernel_rfl) (by kernel_rfl) (fun _ _ _ _ _ h => h) (by rfl) ?_ ?_
            rotate_left
            · intro wl hL
              have lg0 := keep_cell hL (b := g) (by simp) c0; have lg1 := keep_cell hL (b := g) (by simp) c1; have ls1 := keep_cell hL (b := SH) (by simp) s1
              go_simp
              try with_reducible rfl
            try simp only [Act.put, List.setIfInBounds_toArray, List.set_cons_zero, List.set_cons_succ]
            refine any_take (keepsBs_goes [g, SH]) 6 ?_ ?_ (by simp only [List.getElem?_toArray, List.getElem?_cons_succ, List.getElem?_cons_zero]; exact rfl) (by kernel_rfl) (by kernel_rfl) (by kernel_rfl) (fun _ _ _ _ _ h => h) (by rfl) ?_ ?_
            rotate_left
            · intro wl hL
              have lg0 := keep_cell hL (b := g) (by simp) c0; have lg1 := keep_cell hL (b := g) (by simp) c1; have ls1 := keep_cell hL (b := SH) (by simp) s1
              go_simp
              try with_reducible rfl
            try simp only [Act.put, List.setIfInBounds_toArray, List.set_cons_zero, List.set_cons_succ]
            refine any_take (keepsBs_goes [g, SH]) 7 ?_ ?_ (by simp only [List.getElem?_toArray, List.getElem?_cons_succ, List.getElem?_cons_zero]; exact rfl) (by kernel_rfl) (by kernel_rfl) (by kernel_rfl) (fun _ _ _ _ _ h => h) (by rfl) ?_ ?_
            rotate_left
            · intro wl hL
              have lg0 := keep_cell hL (b := g) (by simp) c0; have lg1 := keep_cell hL (b := g) (by simp) c1; have ls1 := keep_cell hL (b := SH) (by simp) s1
              go_simp
              try with_reducible rfl
            try simp only [Act.put, List.setIfInBounds_toArray, List.set_cons_zero, List.set_cons_succ]
            refine any_take (keepsBs_goes [g, SH]) 8 ?_ ?_ (by simp only [List.getElem?_toArray, List.getElem?_cons_succ, List.getElem?_cons_zero]; exact rfl) (by kernel_rfl) (by kernel_rfl) (by kernel_rfl) (fun _ _ _ _ _ h => h) (by rfl) ?_ ?_
            rotate_left
            · intro wl hL
              have lg0 := keep_cell hL (b := g) (by simp) c0; have lg1 := keep_cell hL (b := g) (by simp) c1; have ls1 := keep_cell hL (b := SH) (by simp) s1
              go_simp
              try with_reducible rfl
            try simp only [Act.put, List.setIfInBounds_toArray, List.set_cons_zero, List.set_cons_succ]
            have pc := cell_of_block fX 3
            have pf := frozen_of_block fX 3
            refine any_one 9 _ (by kernel_rfl) (by simp only [List.getElem?_toArray, List.getElem?_cons_succ, List.getElem?_cons_zero]; exact rfl) (fun K hK => ?_)
            go_simp
            refine hK.out _ _ (keeps_setCell (by intro b hb; simp only [List.mem_cons, List.not_mem_nil, or_false] at hb; rcases hb with rfl | rfl <;> omega)) ?_
            clear hK K pc pf
            try simp only [Act.put, List.setIfInBounds_toArray, List.set_cons_zero, List.set_cons_succ]
            generalize hW : World.setCell _ _ _ = V1
            replace hB4 : Below wr.heap.size wr V1 := by rw [← hW]; exact hB4.setCell (Nat.le_refl _) _
            replace fX : V1.heap[wr.heap.size]? = some (.cells #[.int .i64 0, .bool u, .bool uv, .int .i64 v0, .int .i64 0, .int .i64 0, .int .i64 0, .int .i64 0] 45 (0, 0)) := by rw [← hW]; exact b_put fX 3 _ rfl
            replace c0 := (show V1.cell? ⟨g, 0, none⟩ = some (.int .i64 v0) by rw [← hW, World.cell?_setCell_far _ _ _ _ (show wr.heap.size ≠ g by omega)]; exact c0)
            replace c1 := (show V1.cell? ⟨g, 1, none⟩ = some (.int .i64 v1) by rw [← hW, World.cell?_setCell_far _ _ _ _ (show wr.heap.size ≠ g by omega)]; exact c1)
            replace c2 := (show V1.cell? ⟨g, 2, none⟩ = some (.int .i64 v2) by rw [← hW, World.cell?_setCell_far _ _ _ _ (show wr.heap.size ≠ g by omega)]; exact c2)
            replace s0 := (show V1.cell? ⟨SH, 0, none⟩ = some _ by rw [← hW, World.cell?_setCell_far _ _ _ _ (show wr.heap.size ≠ SH by omega)]; exact s0)
            replace s1 := (show V1.cell? ⟨SH, 1, none⟩ = some _ by rw [← hW, World.cell?_setCell_far _ _ _ _ (show wr.heap.size ≠ SH by omega)]; exact s1)
            replace s2 := (show V1.cell? ⟨SH, 2, none⟩ = some _ by rw [← hW, World.cell?_setCell_far _ _ _ _ (show wr.heap.size ≠ SH by omega)]; exact s2)
            replace s3 := (show V1.cell? ⟨SH, 3, none⟩ = some _ by rw [← hW, World.cell?_setCell_far _ _ _ _ (show wr.heap.size ≠ SH by omega)]; exact s3)
            clear hW
            refine any_take (keepsBs_goes [g, SH]) 10 ?_ ?_ (by simp only [List.getElem?_toArray, List.getElem?_cons_succ, List.getElem?_cons_zero]; exact rfl) (by kernel_rfl) (by kernel_rfl) (by kernel_rfl) (fun _ _ _ _ _ h => h) (by rfl) ?_ ?_
            rotate_left
            · intro wl hL
              skip
              go_simp
              try with_reducible rfl
            try simp only [Act.put, List.setIfInBounds_toArray, List.set_cons_zero, List.set_cons_succ]
            have pc := cell_of_block fX 4
            have pf := frozen_of_block fX 4
            refine any_one 11 _ (by kernel_rfl) (by simp only [List.getElem?_toArray, List.getElem?_cons_succ, List.getElem?_cons_zero]; exact rfl) (fun K hK => ?_)
            go_simp
            refine hK.out _ _ (keeps_setCell (by intro b hb; simp only [List.mem_cons, List.not_mem_nil, or_false] at hb; rcases hb with rfl | rfl <;> omega)) ?_
            clear hK K pc pf
            try simp only [Act.put, List.setIfInBounds_toArray, List.set_cons_zero, List.set_cons_succ]
            generalize hW : World.setCell _ _ _ = V2
            replace hB4 : Below wr.heap.size wr V2 := by rw [← hW]; exact hB4.setCell (Nat.le_refl _) _
            replace fX : V2.heap[wr.heap.size]? = some (.cells #[.int .i64 0, .bool u, .bool uv, .int .i64 v0, .int .i64 v1, .int .i64 0, .int .i64 0, .int .i64 0] 45 (0, 0)) := by rw [← hW]; exact b_put fX 4 _ rfl
            replace c0 := (show V2.cell? ⟨g, 0, none⟩ = some (.int .i64 v0) by rw [← hW, World.cell?_setCell_far _ _ _ _ (show wr.heap.size ≠ g by omega)]; exact c0)
            replace c1 := (show V2.cell? ⟨g, 1, none⟩ = some (.int .i64 v1) by rw [← hW, World.cell?_setCell_far _ _ _ _ (show wr.heap.size ≠ g by omega)]; exact c1)
            replace c2 := (show V2.cell? ⟨g, 2, none⟩ = some (.int .i64 v2) by rw [← hW, World.cell?_setCell_far _ _ _ _ (show wr.heap.size ≠ g by omega)]; exact c2)
            replace s0 := (show V2.cell? ⟨SH, 0, none⟩ = some _ by rw [← hW, World.cell?_setCell_far _ _ _ _ (show wr.heap.size ≠ SH by omega)]; exact s0)
            replace s1 := (show V2.cell? ⟨SH, 1, none⟩ = some _ by rw [← hW, World.cell?_setCell_far _ _ _ _ (show wr.heap.size ≠ SH by omega)]; exact s1)
            replace s2 := (show V2.cell? ⟨SH, 2, none⟩ = some _ by rw [← hW, World.cell?_setCell_far _ _ _ _ (show wr.heap.size ≠ SH by omega)]; exact s2)
            replace s3 := (show V2.cell? ⟨SH, 3, none⟩ = some _ by rw [← hW, World.cell?_setCell_far _ _ _ _ (show wr.heap.size ≠ SH by omega)]; exact s3)
            clear hW
            refine any_take (keepsBs_goes [g, SH]) 12 ?_ ?_ (by simp only [List.getElem?_toArray, List.getElem?_cons_succ, List.getElem?_cons_zero]; exact rfl) (by kernel_rfl) (by kernel_rfl) (by kernel_rfl) (fun _ _ _ _ _ h => h) (by rfl) ?_ ?_
            rotate_left
            · intro wl hL
              skip
              go_simp
              try with_reducible rfl
            try simp only [Act.put, List.setIfInBounds_toArray, List.set_cons_zero, List.set_cons_succ]
            have pc := cell_of_block fX 6
            have pf := frozen_of_block fX 6
            refine any_one 13 _ (by kernel_rfl) (by simp only [List.getElem?_toArray, List.getElem?_cons_succ, List.getElem?_cons_zero]; exact rfl) (fun K hK => ?_)
            go_simp
            refine hK.out _ _ (keeps_setCell (by intro b hb; simp only [List.mem_cons, List.not_mem_nil, or_false] at hb; rcases hb with rfl | rfl <;> omega)) ?_
            clear hK K pc pf
            try simp only [Act.put, List.setIfInBounds_toArray, List.set_cons_zero, List.set_cons_succ]
            generalize hW : World.setCell _ _ _ = V3
            replace hB4 : Below wr.heap.size wr V3 := by rw [← hW]; exact hB4.setCell (Nat.le_refl _) _
            replace fX : V3.heap[wr.heap.size]? = some (.cells #[.int .i64 0, .bool u, .bool uv, .int .i64 v0, .int .i64 v1, .int .i64 0, .int .i64 o, .int .i64 0] 45 (0, 0)) := by rw [← hW]; exact b_put fX 6 _ rfl
            replace c0 := (show V3.cell? ⟨g, 0, none⟩ = some (.int .i64 v0) by rw [← hW, World.cell?_setCell_far _ _ _ _ (show wr.heap.size ≠ g by omega)]; exact c0)
            replace c1 := (show V3.cell? ⟨g, 1, none⟩ = some (.int .i64 v1) by rw [← hW, World.cell?_setCell_far _ _ _ _ (show wr.heap.size ≠ g by omega)]; exact c1)
            replace c2 := (show V3.cell? ⟨g, 2, none⟩ = some (.int .i64 v2) by rw [← hW, World.cell?_setCell_far _ _ _ _ (show wr.heap.size ≠ g by omega)]; exact c2)
            replace s0 := (show V3.cell? ⟨SH, 0, none⟩ = some _ by rw [← hW, World.cell?_setCell_far _ _ _ _ (show wr.heap.size ≠ SH by omega)]; exact s0)
            replace s1 := (show V3.cell? ⟨SH, 1, none⟩ = some _ by rw [← hW, World.cell?_setCell_far _ _ _ _ (show wr.heap.size ≠ SH by omega)]; exact s1)
            replace s2 := (show V3.cell? ⟨SH, 2, none⟩ = some _ by rw [← hW, World.cell?_setCell_far _ _ _ _ (show wr.heap.size ≠ SH by omega)]; exact s2)
            replace s3 := (show V3.cell? ⟨SH, 3, none⟩ = some _ by rw [← hW, World.cell?_setCell_far _ _ _ _ (show wr.heap.size ≠ SH by omega)]; exact s3)
            clear hW
            refine any_done (by kernel_rfl) ?_ _
            obtain ⟨x0, x1, x2, x3, x4, x5, x6, x7⟩ := b_cells8 fX
            have z0 := b_free fX 0
            have z5 := b_free fX 5
            have z7 := b_free fX 7
            go_wp2_with fail
            refine (p_Encode ⟨0, u, uv, v0, v1, v2, o, 0⟩ _ inR0).mono ?_
            rintro e w5 ⟨rfl, hB5⟩
            obtain ⟨ew, ee, hE⟩ : ∃ a b, encW ⟨0, u, uv, v0, v1, v2, o, 0⟩ = (a, b) := ⟨_, _, rfl⟩
            rw [hE]
            obtain ⟨e0, e1, he⟩ := encW_cases hE
            have hB05 : Below w.heap.size w w5 := bthen (bthen hB3 (hBk.trans ((hB4.setCell (Nat.le_refl _) _).mono hBk.size))) hB5
            have HN5 := Aside.mk (HM.out.stays hB05)
            have HE := Lib.hid hE
            have HX : Hid (parseP s = some ⟨0, u, uv, v0, v1, v2, o, 0⟩) := Lib.hid (by rw [HX.out]; rfl)
            clear hE hB5
            rcases he with rfl | rfl
            · go_wp2_with fail
              refine (p_lineM P Bs Bn g1 C1 g2 C2 ew _ HN5.out (HV.out.stays hB05) e0 e1).mono ?_
              rintro e w6 ⟨rfl, hB6⟩
              obtain ⟨ls, le, hL⟩ : ∃ a b, lineW ew = (a, b) := ⟨_, _, rfl⟩
              rw [hL]
              have hle := lineW_cases hL
              have HL := Lib.hid hL
              clear hL
              rcases hle with rfl | rfl
              · by_cases hls : ls = s
                · have q : (!ls == S.toList) = false := by rw [ByteArray.toList_eq, HSL.out, hls]; simp
                  have HLS := Lib.hid hls
                  clear hls
                  go_wp2_with fail
                  go_ret2
                  refine ⟨?_, bthen hB05 hB6⟩
                  rw [HX.out, word_good HE.out (HLS.out ▸ HL.out)]
                  rfl
                · have q : (!ls == S.toList) = true := by rw [ByteArray.toList_eq, HSL.out]; simp [hls]
                  go_wp2_with fail
                  go_ret2
                  refine ⟨?_, bthen hB05 hB6⟩
                  rw [HX.out, word_bad3 HE.out HL.out hls]
                  rfl
              · go_wp2_with fail
                go_ret2
                refine ⟨?_, bthen hB05 hB6⟩
                rw [HX.out, word_bad2 HE.out HL.out]
                rfl
            · go_wp2_with fail
              refine (p_lineM P Bs Bn g1 C1 g2 C2 ew _ HN5.out (HV.out.stays hB05) e0 e1).mono ?_
              rintro e w6 ⟨rfl, hB6⟩
              obtain ⟨ls, le, hL⟩ : ∃ a b, lineW ew = (a, b) := ⟨_, _, rfl⟩
              rw [hL]
              clear hL
              go_wp2_with fail
              go_ret2
              refine ⟨?_, bthen hB05 hB6⟩
              rw [HX.out, word_bad1 HE.out]
              rfl
        · have q1 : ((k : Int) == 3) = false := by simp; omega
          go_wp2_with fail
          go_ret2
          refine ⟨?_, bthen (bthen hB3 hBk) (ablow _ _)⟩
          rw [word_none (by rw [HPR.out]; exact fin_none (by simp [finP, HN.out]; omega))]
          rfl
      · by_cases h1 : k = 3
        · subst h1
          obtain ⟨p0, p1, p2, rfl⟩ := len3 HN.out
          obtain ⟨g, rfl, gc1, gc2, hcells⟩ := own_some hown.out (by omega)
          obtain ⟨v0, hv0⟩ : ∃ v, (opnd p0).1 = v := ⟨_, rfl⟩
          obtain ⟨v1, hv1⟩ : ∃ v, (opnd p1).1 = v := ⟨_, rfl⟩
          obtain ⟨v2, hv2⟩ : ∃ v, (opnd p2).1 = v := ⟨_, rfl⟩
          have c0 : wr.cell? ⟨g, 0, none⟩ = some (.int .i64 v0) := hcells 0 _ (by simp [intsV, hv0])
          have c1 : wr.cell? ⟨g, 1, none⟩ = some (.int .i64 v1) := hcells 1 _ (by simp [intsV, hv1])
          have c2 : wr.cell? ⟨g, 2, none⟩ = some (.int .i64 v2) := hcells 2 _ (by simp [intsV, hv2])
          have hglt : g < wr.heap.size := World.block_lt_of_cell? wr _ c0
          have rv2 : InR v2 := hv2 ▸ opnd_range p2
          have hx : parseP s = finP ⟨2, o, u, uv⟩ [v0, v1, v2] b := by rw [HPR.out]; simp [hv0, hv1, hv2]
          have HX := Lib.hid hx
          clear hcells hx hv0 hv1 hv2
          cases b
          · go_wp2_with fail
            refine any_begin (keepsBs_goes [g, SH]) (by kernel_rfl) ?_
            generalize hW : World.drew _ = V0
            have fX : V0.heap[wr.heap.size]? = some (.cells #[.int .i64 2, .bool u, .bool uv, .int .i64 0, .int .i64 0, .int .i64 0, .int .i64 0, .int .i64 0] 45 (0, 0)) := by rw [← hW]; exact b_new _ _
            have hB4 : Below wr.heap.size wr V0 := by rw [← hW]; exact (ablow _ _).drew
            replace c0 := a_keep hB4 c0
            replace c1 := a_keep hB4 c1
            replace c2 := a_keep hB4 c2
            replace s0 := a_keep hB4 s0
            replace s1 := a_keep hB4 s1
            replace s2 := a_keep hB4 s2
            replace s3 := a_keep hB4 s3
            clear hW
            refine any_take (keepsBs_goes [g, SH]) 0 ?_ ?_ (by simp only [List.getElem?_toArray, List.getElem?_cons_succ, List.getElem?_cons_zero]; exact rfl) (by kernel_rfl) (by kernel_rfl) (by kernel_rfl) (fun _ _ _ _ _ h => h) (by rfl) ?_ ?_
            rotate_left
            · intro wl hL
              have lg0 := keep_cell hL (b := g) (by simp) c0; have lg1 := keep_cell hL (b := g) (by simp) c1; have ls1 := keep_cell hL (b := SH) (by simp) s1
              go_simp
              try with_reducible rfl
            try simp only [Act.put, List.setIfInBounds_toArray, List.set_cons_zero, List.set_cons_succ]
            refine any_take (keepsBs_goes [g, SH]) 1 ?_ ?_ (by simp only [List.getElem?_toArray, List.getElem?_cons_succ, List.getElem?_cons_zero]; exact rfl) (by kernel_rfl) (by kernel_rfl) (by kernel_rfl) (fun _ _ _ _ _ h => h) (by rfl) ?_ ?_
            rotate_left
            · intro wl hL
              have lg0 := keep_cell hL (b := g) (by simp) c0; have lg1 := keep_cell hL (b := g) (by simp) c1; have ls1 := keep_cell hL (b := SH) (by simp) s1
              go_simp
              try with_reducible rfl
            try simp only [Act.put, List.setIfInBounds_toArray, List.set_cons_zero, List.set_cons_succ]
            refine any_take (keepsBs_goes [g, SH]) 2 ?_ ?_ (by simp only [List.getElem?_toArray, List.getElem?_cons_succ, List.getElem?_cons_zero]; exact rfl) (by kernel_rfl) (by kernel_rfl) (by kernel_rfl) (fun _ _ _ _ _ h => h) (by rfl) ?_ ?_
            rotate_left
            · intro wl hL
              have lg0 := keep_cell hL (b := g) (by simp) c0; have lg1 := keep_cell hL (b := g) (by simp) c1; have ls1 := keep_cell hL (b := SH) (by simp) s1
              go_simp
              try with_reducible rfl
            try simp only [Act.put, List.setIfInBounds_toArray, List.set_cons_zero, List.set_cons_succ]
            refine any_take (keepsBs_goes [g, SH]) 3 ?_ ?_ (by simp only [List.getElem?_toArray, List.getElem?_cons_succ, List.getElem?_cons_zero]; exact rfl) (by kernel_rfl) (by kernel_rfl) (by kernel_rfl) (fun _ _ _ _ _ h => h) (by rfl) ?_ ?_
            rotate_left
            · intro wl hL
              have lg0 := keep_cell hL (b := g) (by simp) c0; have lg1 := keep_cell hL (b := g) (by simp) c1; have ls1 := keep_cell hL (b := SH) (by simp) s1
              go_simp
              try with_reducible rfl
            try simp only [Act.put, List.setIfInBounds_toArray, List.set_cons_zero, List.set_cons_succ]
            refine any_take (keepsBs_goes [g, SH]) 4 ?_ ?_ (by simp only [List.getElem?_toArray, List.getElem?_cons_succ, List.getElem?_cons_zero]; exact rfl) (by kernel_rfl) (by kernel_rfl) (by kernel_rfl) (fun _ _ _ _ _ h => h) (by rfl) ?_ ?_
            rotate_left
            · intro wl hL
              have lg0 := keep_cell hL (b := g) (by simp) c0; have lg1 := keep_cell hL (b := g) (by simp) c1; have ls1 := keep_cell hL (b := SH) (by simp) s1
              go_simp
              try with_reducible rfl
            try simp only [Act.put, List.setIfInBounds_toArray, List.set_cons_zero, List.set_cons_succ]
            refine any_take (keepsBs_goes [g, SH]) 5 ?_ ?_ (by simp only [List.getElem?_toArray, List.getElem?_cons_succ, List.getElem?_cons_zero]; exact rfl) (by kernel_rfl) (by kernel_rfl) (by kernel_rfl) (fun _ _ _ _ _ h => h) (by rfl) ?_ ?_
            rotate_left
            · intro wl hL
              have lg0 := keep_cell hL (b := g) (by simp) c0; have lg1 := keep_cell hL (b := g) (by simp) c1; have ls1 := keep_cell hL (b := SH) (by simp) s1
              go_simp
              try with_reducible rfl
            try simp only [Act.put, List.setIfInBounds_toArray, List.set_cons_zero, List.set_cons_succ]
            refine any_take (keepsBs_goes [g, SH]) 6 ?_ ?_ (by simp only [List.getElem?_toArray, List.getElem?_cons_succ, List.getElem?_cons_zero]; exact rfl) (by kernel_rfl) (by kernel_rfl) (by kernel_rfl) (fun _ _ _ _ _ h => h) (by rfl) ?_ ?_
            rotate_left
            · intro wl hL
              have lg0 := keep_cell hL (b := g) (by simp) c0; have lg1 := keep_cell hL (b := g) (by simp) c1; have ls1 := keep_cell hL (b := SH) (by simp) s1
              go_simp
              try with_reducible rfl
            try simp only [Act.put, List.setIfInBounds_toArray, List.set_cons_zero, List.set_cons_succ]
            refine any_take (keepsBs_goes [g, SH]) 7 ?_ ?_ (by simp only [List.getElem?_toArray, List.getElem?_cons_succ, List.getElem?_cons_zero]; exact rfl) (by kernel_rfl) (by kernel_rfl) (by kernel_rfl) (fun _ _ _ _ _ h => h) (by rfl) ?_ ?_
            rotate_left
            · intro wl hL
              have lg0 := keep_cell hL (b := g) (by simp) c0; have lg1 := keep_cell hL (b := g) (by simp) c1; have ls1 := keep_cell hL (b := SH) (by simp) s1
              go_simp
              try with_reducible rfl
            try simp only [Act.put, List.setIfInBounds_toArray, List.set_cons_zero, List.set_cons_succ]
            refine any_take (keepsBs_goes [g, SH]) 8 ?_ ?_ (by simp only [List.getElem?_toArray, List.getElem?_cons_succ, List.getElem?_cons_zero]; exact rfl) (by kernel_rfl) (by kernel_rfl) (by kernel_rfl) (fun _ _ _ _ _ h => h) (by rfl) ?_ ?_
            rotate_left
            · intro wl hL
              have lg0 := keep_cell hL (b := g) (by simp) c0; have lg1 := keep_cell hL (b := g) (by simp) c1; have ls1 := keep_cell hL (b := SH) (by simp) s1
              go_simp
              try with_reducible rfl
            try simp only [Act.put, List.setIfInBounds_toArray, List.set_cons_zero, List.set_cons_succ]
            have pc := cell_of_block fX 3
            have pf := frozen_of_block fX 3
            refine any_one 9 _ (by kernel_rfl) (by simp only [List.getElem?_toArray, List.getElem?_cons_succ, List.getElem?_cons_zero]; exact rfl) (fun K hK => ?_)
            go_simp
            refine hK.out _ _ (keeps_setCell (by intro b hb; simp only [List.mem_cons, List.not_mem_nil, or_false] at hb; rcases hb with rfl | rfl <;> omega)) ?_
            clear hK K pc pf
            try simp only [Act.put, List.setIfInBounds_toArray, List.set_cons_zero, List.set_cons_succ]
            generalize hW : World.setCell _ _ _ = V1
            replace hB4 : Below wr.heap.size wr V1 := by rw [← hW]; exact hB4.setCell (Nat.le_refl _) _
            replace fX : V1.heap[wr.heap.size]? = some (.cells #[.int .i64 2, .bool u, .bool uv, .int .i64 v0, .int .i64 0, .int .i64 0, .int .i64 0, .int .i64 0] 45 (0, 0)) := by rw [← hW]; exact b_put fX 3 _ rfl
            replace c0 := (show V1.cell? ⟨g, 0, none⟩ = some (.int .i64 v0) by rw [← hW, World.cell?_setCell_far _ _ _ _ (show wr.heap.size ≠ g by omega)]; exact c0)
            replace c1 := (show V1.cell? ⟨g, 1, none⟩ = some (.int .i64 v1) by rw [← hW, World.cell?_setCell_far _ _ _ _ (show wr.heap.size ≠ g by omega)]; exact c1)
            replace c2 := (show V1.cell? ⟨g, 2, none⟩ = some (.int .i64 v2) by rw [← hW, World.cell?_setCell_far _ _ _ _ (show wr.heap.size ≠ g by omega)]; exact c2)
            replace s0 := (show V1.cell? ⟨SH, 0, none⟩ = some _ by rw [← hW, World.cell?_setCell_far _ _ _ _ (show wr.heap.size ≠ SH by omega)]; exact s0)
            replace s1 := (show V1.cell? ⟨SH, 1, none⟩ = some _ by rw [← hW, World.cell?_setCell_far _ _ _ _ (show wr.heap.size ≠ SH by omega)]; exact s1)
            replace s2 := (show V1.cell? ⟨SH, 2, none⟩ = some _ by rw [← hW, World.cell?_setCell_far _ _ _ _ (show wr.heap.size ≠ SH by omega)]; exact s2)
            replace s3 := (show V1.cell? ⟨SH, 3, none⟩ = some _ by rw [← hW, World.cell?_setCell_far _ _ _ _ (show wr.heap.size ≠ SH by omega)]; exact s3)
            clear hW
            refine any_take (keepsBs_goes [g, SH]) 10 ?_ ?_ (by simp only [List.getElem?_toArray, List.getElem?_cons_succ, List.getElem?_cons_zero]; exact rfl) (by kernel_rfl) (by kernel_rfl) (by kernel_rfl) (fun _ _ _ _ _ h => h) (by rfl) ?_ ?_
            rotate_left
            · intro wl hL
              skip
              go_simp
              try with_reducible rfl
            try simp only [Act.put, List.setIfInBounds_toArray, List.set_cons_zero, List.set_cons_succ]
            have pc := cell_of_block fX 4
            have pf := frozen_of_block fX 4
            refine any_one 11 _ (by kernel_rfl) (by simp only [List.getElem?_toArray, List.getElem?_cons_succ, List.getElem?_cons_zero]; exact rfl) (fun K hK => ?_)
            go_simp
            refine hK.out _ _ (keeps_setCell (by intro b hb; simp only [List.mem_cons, List.not_mem_nil, or_false] at hb; rcases hb with rfl | rfl <;> omega)) ?_
            clear hK K pc pf
            try simp only [Act.put, List.setIfInBounds_toArray, List.set_cons_zero, List.set_cons_succ]
            generalize hW : World.setCell _ _ _ = V2
            replace hB4 : Below wr.heap.size wr V2 := by rw [← hW]; exact hB4.setCell (Nat.le_refl _) _
            replace fX : V2.heap[wr.heap.size]? = some (.cells #[.int .i64 2, .bool u, .bool uv, .int .i64 v0, .int .i64 v1, .int .i64 0, .int .i64 0, .int .i64 0] 45 (0, 0)) := by rw [← hW]; exact b_put fX 4 _ rfl
            replace c0 := (show V2.cell? ⟨g, 0, none⟩ = some (.int .i64 v0) by rw [← hW, World.cell?_setCell_far _ _ _ _ (show wr.heap.size ≠ g by omega)]; exact c0)
            replace c1 := (show V2.cell? ⟨g, 1, none⟩ = some (.int .i64 v1) by rw [← hW, World.cell?_setCell_far _ _ _ _ (show wr.heap.size ≠ g by omega)]; exact c1)
            replace c2 := (show V2.cell? ⟨g, 2, none⟩ = some (.int .i64 v2) by rw [← hW, World.cell?_setCell_far _ _ _ _ (show wr.heap.size ≠ g by omega)]; exact c2)
            replace s0 := (show V2.cell? ⟨SH, 0, none⟩ = some _ by rw [← hW, World.cell?_setCell_far _ _ _ _ (show wr.heap.size ≠ SH by omega)]; exact s0)
            replace s1 := (show V2.cell? ⟨SH, 1, none⟩ = some _ by rw [← hW, World.cell?_setCell_far _ _ _ _ (show wr.heap.size ≠ SH by omega)]; exact s1)
            replace s2 := (show V2.cell? ⟨SH, 2, none⟩ = some _ by rw [← hW, World.cell?_setCell_far _ _ _ _ (show wr.heap.size ≠ SH by omega)]; exact s2)
            replace s3 := (show V2.cell? ⟨SH, 3, none⟩ = some _ by rw [← hW, World.cell?_setCell_far _ _ _ _ (show wr.heap.size ≠ SH by omega)]; exact s3)
            clear hW
            refine any_take (keepsBs_goes [g, SH]) 12 ?_ ?_ (by simp only [List.getElem?_toArray, List.getElem?_cons_succ, List.getElem?_cons_zero]; exact rfl) (by kernel_rfl) (by kernel_rfl) (by kernel_rfl) (fun _ _ _ _ _ h => h) (by rfl) ?_ ?_
            rotate_left
            · intro wl hL
              skip
              go_simp
              try with_reducible rfl
            try simp only [Act.put, List.setIfInBounds_toArray, List.set_cons_zero, List.set_cons_succ]
            have pc := cell_of_block fX 6
            have pf := frozen_of_block fX 6
            refine any_one 13 _ (by kernel_rfl) (by simp only [List.getElem?_toArray, List.getElem?_cons_succ, List.getElem?_cons_zero]; exact rfl) (fun K hK => ?_)
            go_simp
            refine hK.out _ _ (keeps_setCell (by intro b hb; simp only [List.mem_cons, List.not_mem_nil, or_false] at hb; rcases hb with rfl | rfl <;> omega)) ?_
            clear hK K pc pf
            try simp only [Act.put, List.setIfInBounds_toArray, List.set_cons_zero, List.set_cons_succ]
            generalize hW : World.setCell _ _ _ = V3
            replace hB4 : Below wr.heap.size wr V3 := by rw [← hW]; exact hB4.setCell (Nat.le_refl _) _
            replace fX : V3.heap[wr.heap.size]? = some (.cells #[.int .i64 2, .bool u, .bool uv, .int .i64 v0, .int .i64 v1, .int .i64 0, .int .i64 o, .int .i64 0] 45 (0, 0)) := by rw [← hW]; exact b_put fX 6 _ rfl
            replace c0 := (show V3.cell? ⟨g, 0, none⟩ = some (.int .i64 v0) by rw [← hW, World.cell?_setCell_far _ _ _ _ (show wr.heap.size ≠ g by omega)]; exact c0)
            replace c1 := (show V3.cell? ⟨g, 1, none⟩ = some (.int .i64 v1) by rw [← hW, World.cell?_setCell_far _ _ _ _ (show wr.heap.size ≠ g by omega)]; exact c1)
            replace c2 := (show V3.cell? ⟨g, 2, none⟩ = some (.int .i64 v2) by rw [← hW, World.cell?_setCell_far _ _ _ _ (show wr.heap.size ≠ g by omega)]; exact c2)
            replace s0 := (show V3.cell? ⟨SH, 0, none⟩ = some _ by rw [← hW, World.cell?_setCell_far _ _ _ _ (show wr.heap.size ≠ SH by omega)]; exact s0)
            replace s1 := (show V3.cell? ⟨SH, 1, none⟩ = some _ by rw [← hW, World.cell?_setCell_far _ _ _ _ (show wr.heap.size ≠ SH by omega)]; exact s1)
            replace s2 := (show V3.cell? ⟨SH, 2, none⟩ = some _ by rw [← hW, World.cell?_setCell_far _ _ _ _ (show wr.heap.size ≠ SH by omega)]; exact s2)
            replace s3 := (show V3.cell? ⟨SH, 3, none⟩ = some _ by rw [← hW, World.cell?_setCell_far _ _ _ _ (show wr.heap.size ≠ SH by omega)]; exact s3)
            clear hW
            refine any_done (by kernel_rfl) ?_ _
            obtain ⟨x0, x1, x2, x3, x4, x5, x6, x7⟩ := b_cells8 fX
            have z0 := b_free fX 0
            have z5 := b_free fX 5
            have z7 := b_free fX 7
            go_wp2_with fail
            refine (p_Encode ⟨2, u, uv, v0, v1, 0, o, v2⟩ _ rv2).mono ?_
            rintro e w5 ⟨rfl, hB5⟩
            obtain ⟨ew, ee, hE⟩ : ∃ a b, encW ⟨2, u, uv, v0, v1, 0, o, v2⟩ = (a, b) := ⟨_, _, rfl⟩
            rw [hE]
            obtain ⟨e0, e1, he⟩ := encW_cases hE
            have hB05 : Below w.heap.size w w5 := bthen (bthen hB3 (hBk.trans ((hB4.setCell (Nat.le_refl _) _).mono hBk.size))) hB5
            have HN5 := Aside.mk (HM.out.stays hB05)
            have HE := Lib.hid hE
            have HX : Hid (parseP s = some ⟨2, u, uv, v0, v1, 0, o, v2⟩) := Lib.hid (by rw [HX.out]; rfl)
            clear hE hB5
            rcases he with rfl | rfl
            · go_wp2_with fail
              refine (p_lineM P Bs Bn g1 C1 g2 C2 ew _ HN5.out (HV.out.stays hB05) e0 e1).mono ?_
              rintro e w6 ⟨rfl, hB6⟩
              obtain ⟨ls, le, hL⟩ : ∃ a b, lineW ew = (a, b) := ⟨_, _, rfl⟩
              rw [hL]
              have hle := lineW_cases hL
              have HL := Lib.hid hL
              clear hL
              rcases hle with rfl | rfl
              · by_cases hls : ls = s
                · have q : (!ls == S.toList) = false := by rw [ByteArray.toList_eq, HSL.out, hls]; simp
                  have HLS := Lib.hid hls
                  clear hls
                  go_wp2_with fail
                  go_ret2
                  refine ⟨?_, bthen hB05 hB6⟩
                  rw [HX.out, word_good HE.out (HLS.out ▸ HL.out)]
                  rfl
                · have q : (!ls == S.toList) = true := by rw [ByteArray.toList_eq, HSL.out]; simp [hls]
                  go_wp2_with fail
                  go_ret2
                  refine ⟨?_, bthen hB05 hB6⟩
                  rw [HX.out, word_bad3 HE.out HL.out hls]
                  rfl
              · go_wp2_with fail
                go_ret2
                refine ⟨?_, bthen hB05 hB6⟩
                rw [HX.out, word_bad2 HE.out HL.out]
                rfl
            · go_wp2_with fail
              refine (p_lineM P Bs Bn g1 C1 g2 C2 ew _ HN5.out (HV.out.stays hB05) e0 e1).mono ?_
              rintro e w6 ⟨rfl, hB6⟩
              obtain ⟨ls, le, hL⟩ : ∃ a b, lineW ew = (a, b) := ⟨_, _, rfl⟩
              rw [hL]
              clear hL
              go_wp2_with fail
              go_ret2
              refine ⟨?_, bthen hB05 hB6⟩
              rw [HX.out, word_bad1 HE.out]
              rfl
          · go_wp2_with fail
            refine any_begin (keepsBs_goes [g, SH]) (by kernel_rfl) ?_
            generalize hW : World.drew _ = V0
            have fX : V0.heap[wr.heap.size]? = some (.cells #[.int .i64 2, .bool u, .bool uv, .int .i64 0, .int .i64 0, .int .i64 0, .int .i64 0, .int .i64 0] 45 (0, 0)) := by rw [← hW]; exact b_new _ _
            have hB4 : Below wr.heap.size wr V0 := by rw [← hW]; exact (ablow _ _).drew
            replace c0 := a_keep hB4 c0
            replace c1 := a_keep hB4 c1
            replace c2 := a_keep hB4 c2
            replace s0 := a_keep hB4 s0
            replace s1 := a_keep hB4 s1
            replace s2 := a_keep hB4 s2
            replace s3 := a_keep hB4 s3
            clear hW
            refine any_take (keepsBs_goes [g, SH]) 0 ?_ ?_ (by simp only [List.getElem?_toArray, List.getElem?_cons_succ, List.getElem?_cons_zero]; exact rfl) (by kernel_rfl) (by kernel_rfl) (by kernel_rfl) (fun _ _ _ _ _ h => h) (by rfl) ?_ ?_
            rotate_left
            · intro wl hL
              have lg0 := keep_cell hL (b := g) (by simp) c0; have lg1 := keep_cell hL (b := g) (by simp) c1; have ls1 := keep_cell hL (b := SH) (by simp) s1
              go_simp
              try with_reducible rfl
            try simp only [Act.put, List.setIfInBounds_toArray, List.set_cons_zero, List.set_cons_succ]
            refine any_take (keepsBs_goes [g, SH]) 1 ?_ ?_ (by simp only [List.getElem?_toArray, List.getElem?_cons_succ, List.getElem?_cons_zero]; exact rfl) (by kernel_rfl) (by kernel_rfl) (by kernel_rfl) (fun _ _ _ _ _ h => h) (by rfl) ?_ ?_
            rotate_left
            · intro wl hL
              have lg0 := keep_cell hL (b := g) (by simp) c0; have lg1 := keep_cell hL (b := g) (by simp) c1; have ls1 := keep_cell hL (b := SH) (by simp) s1
              go_simp
              try with_reducible rfl
            try simp only [Act.put, List.setIfInBounds_toArray, List.set_cons_zero, List.set_cons_succ]
            refine any_take (keepsBs_goes [g, SH]) 2 ?_ ?_ (by simp only [List.getElem?_toArray, List.getElem?_cons_succ, List.getElem?_cons_zero]; exact rfl) (by kernel_rfl) (by kernel_rfl) (by kernel_rfl) (fun _ _ _ _ _ h => h) (by rfl) ?_ ?_
            rotate_left
            · intro wl hL
              have lg0 := keep_cell hL (b := g) (by simp) c0; have lg1 := keep_cell hL (b := g) (by simp) c1; have ls1 := keep_cell hL (b := SH) (by simp) s1
              go_simp
              try with_reducible rfl
            try simp only [Act.put, List.setIfInBounds_toArray, List.set_cons_zero, List.set_cons_succ]
            refine any_take (keepsBs_goes [g, SH]) 3 ?_ ?_ (by simp only [List.getElem?_toArray, List.getElem?_cons_succ, List.getElem?_cons_zero]; exact rfl) (by kernel_rfl) (by kernel_rfl) (by kernel_rfl) (fun _ _ _ _ _ h => h) (by rfl) ?_ ?_
            rotate_left
            · intro wl hL
              have lg0 := keep_cell hL (b := g) (by simp) c0; have lg1 := keep_cell hL (b := g) (by simp) c1; have ls1 := keep_cell hL (b := SH) (by simp) s1
              go_simp
              try with_reducible rfl
            try simp only [Act.put, List.setIfInBounds_toArray, List.set_cons_zero, List.set_cons_succ]
            refine any_take (keepsBs_goes [g, SH]) 4 ?_ ?_ (by simp only [List.getElem?_toArray, List.getElem?_cons_succ, List.getElem?_cons_zero]; exact rfl) (by kernel_rfl) (by kernel_rfl) (by kernel_rfl) (fun _ _ _ _ _ h => h) (by rfl) ?_ ?_
            rotate_left
            · intro wl hL
              have lg0 := keep_cell hL (b := g) (by simp) c0; have lg1 := keep_cell hL (b := g) (by simp) c1; have ls1 := keep_cell hL (b := SH) (by simp) s1
              go_simp
              try with_reducible rfl
            try simp only [Act.put, List.setIfInBounds_toArray, List.set_cons_zero, List.set_cons_succ]
            refine any_take (keepsBs_goes [g, SH]) 5 ?_ ?_ (by simp only [List.getElem?_toArray, List.getElem?_cons_succ, List.getElem?_cons_zero]; exact rfl) (by kernel_rfl) (by kernel_rfl) (by kernel_rfl) (fun _ _ _ _ _ h => h) (by rfl) ?_ ?_
            rotate_left
            · intro wl hL
              have lg0 := keep_cell hL (b := g) (by simp) c0; have lg1 := keep_cell hL (b := g) (by simp) c1; have ls1 := keep_cell hL (b := SH) (by simp) s1
              go_simp
              try with_reducible rfl
            try simp only [Act.put, List.setIfInBounds_toArray, List.set_cons_zero, List.set_cons_succ]
            refine any_take (keepsBs_goes [g, SH]) 6 ?_ ?_ (by simp only [List.getElem?_toArray, List.getElem?_cons_succ, List.getElem?_cons_zero]; exact rfl) (by kernel_rfl) (by kernel_rfl) (by kernel_rfl) (fun _ _ _ _ _ h => h) (by rfl) ?_ ?_
            rotate_left
            · intro wl hL
              have lg0 := keep_cell hL (b := g) (by simp) c0; have lg1 := keep_cell hL (b := g) (by simp) c1; have ls1 := keep_cell hL (b := SH) (by simp) s1
              go_simp
              try with_reducible rfl
            try simp only [Act.put, List.setIfInBounds_toArray, List.set_cons_zero, List.set_cons_succ]
            refine any_take (keepsBs_goes [g, SH]) 7 ?_ ?_ (by simp only [List.getElem?_toArray, List.getElem?_cons_succ, List.getElem?_cons_zero]; exact rfl) (by kernel_rfl) (by kernel_rfl) (by kernel_rfl) (fun _ _ _ _ _ h => h) (by rfl) ?_ ?_
            rotate_left
            · intro wl hL
              have lg0 := keep_cell hL (b := g) (by simp) c0; have lg1 := keep_cell hL (b := g) (by simp) c1; have ls1 := keep_cell hL (b := SH) (by simp) s1
              go_simp
              try with_reducible rfl
            try simp only [Act.put, List.setIfInBounds_toArray, List.set_cons_zero, List.set_cons_succ]
            refine any_take (keepsBs_goes [g, SH]) 8 ?_ ?_ (by simp only [List.getElem?_toArray, List.getElem?_cons_succ, List.getElem?_cons_zero]; exact rfl) (by kernel_rfl) (by kernel_rfl) (by kernel_rfl) (fun _ _ _ _ _ h => h) (by rfl) ?_ ?_
            rotate_left
            · intro wl hL
              have lg0 := keep_cell hL (b := g) (by simp) c0; have lg1 := keep_cell hL (b := g) (by simp) c1; have ls1 := keep_cell hL (b := SH) (by simp) s1
              go_simp
              try with_reducible rfl
            try simp only [Act.put, List.setIfInBounds_toArray, List.set_cons_zero, List.set_cons_succ]
            have pc := cell_of_block fX 3
            have pf := frozen_of_block fX 3
            refine any_one 9 _ (by kernel_rfl) (by simp only [List.getElem?_toArray, List.getElem?_cons_succ, List.getElem?_cons_zero]; exact rfl) (fun K hK => ?_)
            go_simp
            refine hK.out _ _ (keeps_setCell (by intro b hb; simp only [List.mem_cons, List.not_mem_nil, or_false] at hb; rcases hb with rfl | rfl <;> omega)) ?_
            clear hK K pc pf
            try simp only [Act.put, List.setIfInBounds_toArray, List.set_cons_zero, List.set_cons_succ]
            generalize hW : World.setCell _ _ _ = V1
            replace hB4 : Below wr.heap.size wr V1 := by rw [← hW]; exact hB4.setCell (Nat.le_refl _) _
            replace fX : V1.heap[wr.heap.size]? = some (.cells #[.int .i64 2, .bool u, .bool uv, .int .i64 v0, .int .i64 0, .int .i64 0, .int .i64 0, .int .i64 0] 45 (0, 0)) := by rw [← hW]; exact b_put fX 3 _ rfl
            replace c0 := (show V1.cell? ⟨g, 0, none⟩ = some (.int .i64 v0) by rw [← hW, World.cell?_setCell_far _ _ _ _ (show wr.heap.size ≠ g by omega)]; exact c0)
            replace c1 := (show V1.cell? ⟨g, 1, none⟩ = some (.int .i64 v1) by rw [← hW, World.cell?_setCell_far _ _ _ _ (show wr.heap.size ≠ g by omega)]; exact c1)
            replace c2 := (show V1.cell? ⟨g, 2, none⟩ = some (.int .i64 v2) by rw [← hW, World.cell?_setCell_far _ _ _ _ (show wr.heap.size ≠ g by omega)]; exact c2)
            replace s0 := (show V1.cell? ⟨SH, 0, none⟩ = some _ by rw [← hW, World.cell?_setCell_far _ _ _ _ (show wr.heap.size ≠ SH by omega)]; exact s0)
            replace s1 := (show V1.cell? ⟨SH, 1, none⟩ = some _ by rw [← hW, World.cell?_setCell_far _ _ _ _ (show wr.heap.size ≠ SH by omega)]; exact s1)
            replace s2 := (show V1.cell? ⟨SH, 2, none⟩ = some _ by rw [← hW, World.cell?_setCell_far _ _ _ _ (show wr.heap.size ≠ SH by omega)]; exact s2)
            replace s3 := (show V1.cell? ⟨SH, 3, none⟩ = some _ by rw [← hW, World.cell?_setCell_far _ _ _ _ (show wr.heap.size ≠ SH by omega)]; exact s3)
            clear hW
            refine any_take (keepsBs_goes [g, SH]) 10 ?_ ?_ (by simp only [List.getElem?_toArray, List.getElem?_cons_succ, List.getElem?_cons_zero]; exact rfl) (by kernel_rfl) (by kernel_rfl) (by kernel_rfl) (fun _ _ _ _ _ h => h) (by rfl) ?_ ?_
            rotate_left
            · intro wl hL
              skip
              go_simp
              try with_reducible rfl
            try simp only [Act.put, List.setIfInBounds_toArray, List.set_cons_zero, List.set_cons_succ]
            have pc := cell_of_block fX 4
            have pf := frozen_of_block fX 4
            refine any_one 11 _ (by kernel_rfl) (by simp only [List.getElem?_toArray, List.getElem?_cons_succ, List.getElem?_cons_zero]; exact rfl) (fun K hK => ?_)
            go_simp
            refine hK.out _ _ (keeps_setCell (by intro b hb; simp only [List.mem_cons, List.not_mem_nil, or_false] at hb; rcases hb with rfl | rfl <;> omega)) ?_
            clear hK K pc pf
            try simp only [Act.put, List.setIfInBounds_toArray, List.set_cons_zero, List.set_cons_succ]
            generalize hW : World.setCell _ _ _ = V2
            replace hB4 : Below wr.heap.size wr V2 := by rw [← hW]; exact hB4.setCell (Nat.le_refl _) _
            replace fX : V2.heap[wr.heap.size]? = some (.cells #[.int .i64 2, .bool u, .bool uv, .int .i64 v0, .int .i64 v1, .int .i64 0, .int .i64 0, .int .i64 0] 45 (0, 0)) := by rw [← hW]; exact b_put fX 4 _ rfl
            replace c0 := (show V2.cell? ⟨g, 0, none⟩ = some (.int .i64 v0) by rw [← hW, World.cell?_setCell_far _ _ _ _ (show wr.heap.size ≠ g by omega)]; exact c0)
            replace c1 := (show V2.cell? ⟨g, 1, none⟩ = some (.int .i64 v1) by rw [← hW, World.cell?_setCell_far _ _ _ _ (show wr.heap.size ≠ g by omega)]; exact c1)
            replace c2 := (show V2.cell? ⟨g, 2, none⟩ = some (.int .i64 v2) by rw [← hW, World.cell?_setCell_far _ _ _ _ (show wr.heap.size ≠ g by omega)]; exact c2)
            replace s0 := (show V2.cell? ⟨SH, 0, none⟩ = some _ by rw [← hW, World.cell?_setCell_far _ _ _ _ (show wr.heap.size ≠ SH by omega)]; exact s0)
            replace s1 := (show V2.cell? ⟨SH, 1, none⟩ = some _ by rw [← hW, World.cell?_setCell_far _ _ _ _ (show wr.heap.size ≠ SH by omega)]; exact s1)
            replace s2 := (show V2.cell? ⟨SH, 2, none⟩ = some _ by rw [← hW, World.cell?_setCell_far _ _ _ _ (show wr.heap.size ≠ SH by omega)]; exact s2)
            replace s3 := (show V2.cell? ⟨SH, 3, none⟩ = some _ by rw [← hW, World.cell?_setCell_far _ _ _ _ (show wr.heap.size ≠ SH by omega)]; exact s3)
            clear hW
            refine any_take (keepsBs_goes [g, SH]) 12 ?_ ?_ (by simp only [List.getElem?_toArray, List.getElem?_cons_succ, List.getElem?_cons_zero]; exact rfl) (by kernel_rfl) (by kernel_rfl) (by kernel_rfl) (fun _ _ _ _ _ h => h) (by rfl) ?_ ?_
            rotate_left
            · intro wl hL
              skip
              go_simp
              try with_reducible rfl
            try simp only [Act.put, List.setIfInBounds_toArray, List.set_cons_zero, List.set_cons_succ]
            have pc := cell_of_block fX 6
            have pf := frozen_of_block fX 6
            refine any_one 13 _ (by kernel_rfl) (by simp only [List.getElem?_toArray, List.getElem?_cons_succ, List.getElem?_cons_zero]; exact rfl) (fun K hK => ?_)
            go_simp
            refine hK.out _ _ (keeps_setCell (by intro b hb; simp only [List.mem_cons, List.not_mem_nil, or_false] at hb; rcases hb with rfl | rfl <;> omega)) ?_
            clear hK K pc pf
            try simp only [Act.put, List.setIfInBounds_toArray, List.set_cons_zero, List.set_cons_succ]
            generalize hW : World.setCell _ _ _ = V3
            replace hB4 : Below wr.heap.size wr V3 := by rw [← hW]; exact hB4.setCell (Nat.le_refl _) _
            replace fX : V3.heap[wr.heap.size]? = some (.cells #[.int .i64 2, .bool u, .bool uv, .int .i64 v0, .int .i64 v1, .int .i64 0, .int .i64 o, .int .i64 0] 45 (0, 0)) := by rw [← hW]; exact b_put fX 6 _ rfl
            replace c0 := (show V3.cell? ⟨g, 0, none⟩ = some (.int .i64 v0) by rw [← hW, World.cell?_setCell_far _ _ _ _ (show wr.heap.size ≠ g by omega)]; exact c0)
            replace c1 := (show V3.cell? ⟨g, 1, none⟩ = some (.int .i64 v1) by rw [← hW, World.cell?_setCell_far _ _ _ _ (show wr.heap.size ≠ g by omega)]; exact c1)
            replace c2 := (show V3.cell? ⟨g, 2, none⟩ = some (.int .i64 v2) by rw [← hW, World.cell?_setCell_far _ _ _ _ (show wr.heap.size ≠ g by omega)]; exact c2)
            replace s0 := (show V3.cell? ⟨SH, 0, none⟩ = some _ by rw [← hW, World.cell?_setCell_far _ _ _ _ (show wr.heap.size ≠ SH by omega)]; exact s0)
            replace s1 := (show V3.cell? ⟨SH, 1, none⟩ = some _ by rw [← hW, World.cell?_setCell_far _ _ _ _ (show wr.heap.size ≠ SH by omega)]; exact s1)
            replace s2 := (show V3.cell? ⟨SH, 2, none⟩ = some _ by rw [← hW, World.cell?_setCell_far _ _ _ _ (show wr.heap.size ≠ SH by omega)]; exact s2)
            replace s3 := (show V3.cell? ⟨SH, 3, none⟩ = some _ by rw [← hW, World.cell?_setCell_far _ _ _ _ (show wr.heap.size ≠ SH by omega)]; exact s3)
            clear hW
            refine any_done (by kernel_rfl) ?_ _
            obtain ⟨x0, x1, x2, x3, x4, x5, x6, x7⟩ := b_cells8 fX
            have z0 := b_free fX 0
            have z5 := b_free fX 5
            have z7 := b_free fX 7
            go_wp2_with fail
            refine (p_Encode ⟨2, u, uv, v0, v1, v2, o, 0⟩ _ inR0).mono ?_
            rintro e w5 ⟨rfl, hB5⟩
            obtain ⟨ew, ee, hE⟩ : ∃ a b, encW ⟨2, u, uv, v0, v1, v2, o, 0⟩ = (a, b) := ⟨_, _, rfl⟩
            rw [hE]
            obtain ⟨e0, e1, he⟩ := encW_cases hE
            have hB05 : Below w.heap.size w w5 := bthen (bthen hB3 (hBk.trans ((hB4.setCell (Nat.le_refl _) _).mono hBk.size))) hB5
            have HN5 := Aside.mk (HM.out.stays hB05)
            have HE := Lib.hid hE
            have HX : Hid (parseP s = some ⟨2, u, uv, v0, v1, v2, o, 0⟩) := Lib.hid (by rw [HX.out]; rfl)
            clear hE hB5
            rcases he with rfl | rfl
            · go_wp2_with fail
              refine (p_lineM P Bs Bn g1 C1 g2 C2 ew _ HN5.out (HV.out.stays hB05) e0 e1).mono ?_
              rintro e w6 ⟨rfl, hB6⟩
              obtain ⟨ls, le, hL⟩ : ∃ a b, lineW ew = (a, b) := ⟨_, _, rfl⟩
              rw [hL]
              have hle := lineW_cases hL
              have HL := Lib.hid hL
              clear hL
              rcases hle with rfl | rfl
              · by_cases hls : ls = s
                · have q : (!ls == S.toList) = false := by rw [ByteArray.toList_eq, HSL.out, hls]; simp
                  have HLS := Lib.hid hls
                  clear hls
                  go_wp2_with fail
                  go_ret2
                  refine ⟨?_, bthen hB05 hB6⟩
                  rw [HX.out, word_good HE.out (HLS.out ▸ HL.out)]
                  rfl
                · have q : (!ls == S.toList) = true := by rw [ByteArray.toList_eq, HSL.out]; simp [hls]
                  go_wp2_with fail
                  go_ret2
                  refine ⟨?_, bthen hB05 hB6⟩
                  rw [HX.out, word_bad3 HE.out HL.out hls]
                  rfl
              · go_wp2_with fail
                go_ret2
                refine ⟨?_, bthen hB05 hB6⟩
                rw [HX.out, word_bad2 HE.out HL.out]
                rfl
            · go_wp2_with fail
              refine (p_lineM P Bs Bn g1 C1 g2 C2 ew _ HN5.out (HV.out.stays hB05) e0 e1).mono ?_
              rintro e w6 ⟨rfl, hB6⟩
              obtain ⟨ls, le, hL⟩ : ∃ a b, lineW ew = (a, b) := ⟨_, _, rfl⟩
              rw [hL]
              clear hL
              go_wp2_with fail
              go_ret2
              refine ⟨?_, bthen hB05 hB6⟩
              rw [HX.out, word_bad1 HE.out]
              rfl
        · have q1 : ((k : Int) == 3) = false := by simp; omega
          go_wp2_with fail
          go_ret2
          refine ⟨?_, bthen (bthen hB3 hBk) (ablow _ _)⟩
          rw [word_none (by rw [HPR.out]; exact fin_none (by simp [finP, HN.out]; omega))]
          rfl
      · by_cases h1 : k = 1
        · subst h1
          obtain ⟨p0, rfl⟩ := List.length_eq_one_iff.1 HN.out
          obtain ⟨g, rfl, gc1, gc2, hcells⟩ := own_some hown.out (by omega)
          obtain ⟨v0, hv0⟩ : ∃ v, (opnd p0).1 = v := ⟨_, rfl⟩
          have c0 : wr.cell? ⟨g, 0, none⟩ = some (.int .i64 v0) := hcells 0 _ (by simp [intsV, hv0])
          have hglt : g < wr.heap.size := World.block_lt_of_cell? wr _ c0
          have rv0 : InR v0 := hv0 ▸ opnd_range p0
          have hx : parseP s = finP ⟨3, o, u, uv⟩ [v0] b := by rw [HPR.out]; simp [hv0]
          have HX := Lib.hid hx
          clear hcells hx hv0
          cases b
          · go_wp2_with fail
            refine (p_Encode ⟨3, true, uv, o, 0, 0, 0, v0⟩ _ rv0).mono ?_
            rintro e w5 ⟨rfl, hB5⟩
            obtain ⟨ew, ee, hE⟩ : ∃ a b, encW ⟨3, true, uv, o, 0, 0, 0, v0⟩ = (a, b) := ⟨_, _, rfl⟩
            rw [hE]
            obtain ⟨e0, e1, he⟩ := encW_cases hE
            have hB05 : Below w.heap.size w w5 := bthen (bthen (bthen hB3 hBk) (ablow _ _)) hB5
            have HN5 := Aside.mk (HM.out.stays hB05)
            have HE := Lib.hid hE
            have HX : Hid (parseP s = some ⟨3, true, uv, o, 0, 0, 0, v0⟩) := Lib.hid (by rw [HX.out]; rfl)
            clear hE hB5
            rcases he with rfl | rfl
            · go_wp2_with fail
              refine (p_lineM P Bs Bn g1 C1 g2 C2 ew _ HN5.out (HV.out.stays hB05) e0 e1).mono ?_
              rintro e w6 ⟨rfl, hB6⟩
              obtain ⟨ls, le, hL⟩ : ∃ a b, lineW ew = (a, b) := ⟨_, _, rfl⟩
              rw [hL]
              have hle := lineW_cases hL
              have HL := Lib.hid hL
              clear hL
              rcases hle with rfl | rfl
              · by_cases hls : ls = s
                · have q : (!ls == S.toList) = false := by rw [ByteArray.toList_eq, HSL.out, hls]; simp
                  have HLS := Lib.hid hls
                  clear hls
                  go_wp2_with fail
                  go_ret2
                  refine ⟨?_, bthen hB05 hB6⟩
                  rw [HX.out, word_good HE.out (HLS.out ▸ HL.out)]
                  rfl
                · have q : (!ls == S.toList) = true := by rw [ByteArray.toList_eq, HSL.out]; simp [hls]
                  go_wp2_with fail
                  go_ret2
                  refine ⟨?_, bthen hB05 hB6⟩
                  rw [HX.out, word_bad3 HE.out HL.out hls]
                  rfl
              · go_wp2_with fail
                go_ret2
                refine ⟨?_, bthen hB05 hB6⟩
                rw [HX.out, word_bad2 HE.out HL.out]
                rfl
            · go_wp2_with fail
              refine (p_lineM P Bs Bn g1 C1 g2 C2 ew _ HN5.out (HV.out.stays hB05) e0 e1).mono ?_
              rintro e w6 ⟨rfl, hB6⟩
              obtain ⟨ls, le, hL⟩ : ∃ a b, lineW ew = (a, b) := ⟨_, _, rfl⟩
              rw [hL]
              clear hL
              go_wp2_with fail
              go_ret2
              refine ⟨?_, bthen hB05 hB6⟩
              rw [HX.out, word_bad1 HE.out]
              rfl
          · go_wp2_with fail
            refine (p_Encode ⟨3, false, uv, o, 0, v0, 0, 0⟩ _ inR0).mono ?_
            rintro e w5 ⟨rfl, hB5⟩
            obtain ⟨ew, ee, hE⟩ : ∃ a b, encW ⟨3, false, uv, o, 0, v0, 0, 0⟩ = (a, b) := ⟨_, _, rfl⟩
            rw [hE]
            obtain ⟨e0, e1, he⟩ := encW_cases hE
            have hB05 : Below w.heap.size w w5 := bthen (bthen (bthen hB3 hBk) (ablow _ _)) hB5
            have HN5 := Aside.mk (HM.out.stays hB05)
            have HE := Lib.hid hE
            have HX : Hid (parseP s = some ⟨3, false, uv, o, 0, v0, 0, 0⟩) := Lib.hid (by rw [HX.out]; rfl)
            clear hE hB5
            rcases he with rfl | rfl
            · go_wp2_with fail
              refine (p_lineM P Bs Bn g1 C1 g2 C2 ew _ HN5.out (HV.out.stays hB05) e0 e1).mono ?_
              rintro e w6 ⟨rfl, hB6⟩
              obtain ⟨ls, le, hL⟩ : ∃ a b, lineW ew = (a, b) := ⟨_, _, rfl⟩
              rw [hL]
              have hle := lineW_cases hL
              have HL := Lib.hid hL
              clear hL
              rcases hle with rfl | rfl
              · by_cases hls : ls = s
                · have q : (!ls == S.toList) = false := by rw [ByteArray.toList_eq, HSL.out, hls]; simp
                  have HLS := Lib.hid hls
                  clear hls
                  go_wp2_with fail
                  go_ret2
                  refine ⟨?_, bthen hB05 hB6⟩
                  rw [HX.out, word_good HE.out (HLS.out ▸ HL.out)]
                  rfl
                · have q : (!ls == S.toList) = true := by rw [ByteArray.toList_eq, HSL.out]; simp [hls]
                  go_wp2_with fail
                  go_ret2
                  refine ⟨?_, bthen hB05 hB6⟩
                  rw [HX.out, word_bad3 HE.out HL.out hls]
                  rfl
              · go_wp2_with fail
                go_ret2
                refine ⟨?_, bthen hB05 hB6⟩
                rw [HX.out, word_bad2 HE.out HL.out]
                rfl
            · go_wp2_with fail
              refine (p_lineM P Bs Bn g1 C1 g2 C2 ew _ HN5.out (HV.out.stays hB05) e0 e1).mono ?_
              rintro e w6 ⟨rfl, hB6⟩
              obtain ⟨ls, le, hL⟩ : ∃ a b, lineW ew = (a, b) := ⟨_, _, rfl⟩
              rw [hL]
              clear hL
              go_wp2_with fail
              go_ret2
              refine ⟨?_, bthen hB05 hB6⟩
              rw [HX.out, word_bad1 HE.out]
              rfl
        · have q1 : ((k : Int) == 1) = false := by simp; omega
          go_wp2_with fail
          go_ret2
          refine ⟨?_, bthen (bthen hB3 hBk) (ablow _ _)⟩
          rw [word_none (by rw [HPR.out]; exact fin_none (by simp [finP, HN.out]; omega))]
          rfl
/-- The word of a line, by the namer. -/
theorem p_word (v : Value) (s : List UInt8) (w : World) (hn : IsNamer w v) (hv : VarsA w) (hs : s.length ≤ 140737488351232) : Calls Tryz.prog 16 #[v, .string ⟨s.toArray⟩] w (AtWordP s w) := by
  by_cases hl : 40 < s.length
  · exact p_word_long v s w hs hl
  · cases hf : findP (Lib.cut s [32]).1 with
    | none => exact p_word_noname v s w hn hv hl hf
    | some k =>
      obtain ⟨f, o, u, uv⟩ := k
      exact p_word_named v s w hn hv hl f o u uv hf
/-- asm.Word. -/
theorem p_Word (s : List UInt8) (w : World) (hv : VarsA w) (hs : s.length ≤ 140737488351232) : Calls Tryz.prog 7 #[.string ⟨s.toArray⟩] w (AtWordP s w) := by
  have HV := Aside.mk hv
  clear hv
  go_enter Tryz.func7, Tryz.ntmps7
  go_wp2_with fail
  refine (named_any _ HV.out.space).mono ?_
  rintro e w1 ⟨v, rfl, hN, hB⟩
  have HN := Aside.mk hN
  clear hN
  go_wp2_with fail
  refine (p_word v s _ HN.out (HV.out.stays hB) hs).mono ?_
  rintro e w2 ⟨rfl, hB2⟩
  go_wp2_with fail
  go_ret2
  exact ⟨rfl, bthen hB hB2⟩
end Go.Proofs.YtjjgjadfnongfaaGreatDoor
