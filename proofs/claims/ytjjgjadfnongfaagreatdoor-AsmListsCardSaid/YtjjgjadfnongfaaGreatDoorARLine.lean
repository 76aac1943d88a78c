import Derived.Test.YtjjgjadfnongfaaGreatDoorALine
import Derived.Test.YtjjgjadfnongfaaGreatDoorAny
set_option linter.unusedVariables false
set_option linter.unusedSimpArgs false
namespace Go.Proofs.YtjjgjadfnongfaaGreatDoor
open Go.RowKit Go.Maps Go.MapKept
theorem strs_cell {w : World} {g : Nat} {L : List (List UInt8)} {S : ByteArray} (hg : w.heap[g]? = some (.cells (L.map fun s => Value.string ⟨s.toArray⟩).toArray 9 (0, 0))) (i : Int) (h0 : 0 ≤ i) {n : Nat} (hn : L.length = n) (h1 : i.toNat < n) (hS : (⟨(L.getD i.toNat []).toArray⟩ : ByteArray) = S) : w.cell? ⟨g, i.toNat, none⟩ = some (.string S) := by
  rw [cell_of_block hg, ← hS]
  simp [List.getD_eq_getElem?_getD, List.getElem?_eq_getElem (show i.toNat < L.length by omega)]
theorem opN_len (n : Int) : (opN n).length ≤ 3 := by
  unfold opN
  have : ∀ l ∈ opsL, l.length ≤ 3 := by decide
  rcases Nat.lt_or_ge n.toNat opsL.length with h | h
  · rw [List.getD_eq_getElem?_getD, List.getElem?_eq_getElem h]; exact this _ (List.getElem_mem h)
  · rw [List.getD_eq_getElem?_getD, List.getElem?_eq_none h]; simp
theorem condN_len (n : Int) : (condN n).length ≤ 2 := by
  unfold condN
  have : ∀ l ∈ condsL, l.length ≤ 2 := by decide
  rcases Nat.lt_or_ge n.toNat condsL.length with h | h
  · rw [List.getD_eq_getElem?_getD, List.getElem?_eq_getElem h]; exact this _ (List.getElem_mem h)
  · rw [List.getD_eq_getElem?_getD, List.getElem?_eq_none h]; simp
theorem sext_small (n m : Int) (h0 : 0 ≤ n) (h1 : n < m) (h2 : m ≤ 16777216) : -2147483648 < sext n m ∧ sext n m < 2147483648 := by
  unfold sext
  split <;> omega
theorem insOf_small (x : Int) (h0 : 0 ≤ x) (h1 : x ≤ 4294967295) : -2147483648 < (insOf x).im ∧ (insOf x).im < 2147483648 := by
  unfold insOf
  simp only
  split
  · omega
  · split
    · exact sext_small _ _ (by omega) (by omega) (by omega)
    · split
      · exact sext_small _ _ (by omega) (by omega) (by omega)
      · omega
def AtLine (x : Int) (w : World) (e : Ending) (w' : World) : Prop := e = .returned (.tuple #[.string ⟨(lineW x).1.toArray⟩, .int .i64 (lineW x).2]) ∧ Below w.heap.size w w'
theorem decW_cases (x : Int) : (goodW x = true ∧ decW x = (insOf x, 0) ∧ lineW x = (lineI (insOf x), 0)) ∨ (goodW x = false ∧ decW x = (zeroI, 20) ∧ lineW x = ([], 20)) := by
  cases h : goodW x <;> simp [decW, lineW, h]
theorem rlineN (x : Int) (w : World) (h0 : 0 ≤ x) (h1 : x ≤ 4294967295) (hd : decW x = (zeroI, 20)) (hl : lineW x = ([], 20)) : Calls Tryz.prog 22 #[.int .u32 x] w (AtLine x w) := by
  have HD := Lib.hid hd
  have HL := Lib.hid hl
  clear hd hl
  go_enter Tryz.func22, Tryz.ntmps22
  go_wp2_with fail
  refine (rr_Decode x _ h0 h1).mono ?_
  rintro e w1 ⟨rfl, hB⟩
  rw [HD.out]
  simp only [zeroI, insV_eq]
  go_wp2_with fail
  go_ret2
  exact ⟨by rw [HL.out]; rfl, bthen hB (ablow _ _)⟩
set_option maxRecDepth 100000 in
set_option maxHeartbeats 8000000 in
theorem rline000 (x a b c op im : Int) (w : World) (h0 : 0 ≤ x) (h1 : x ≤ 4294967295) (hd : decW x = (⟨0, false, false, a, b, c, op, im⟩, 0)) (hl : lineW x = (lineI ⟨0, false, false, a, b, c, op, im⟩, 0))
    (a0 : 0 ≤ a) (a1 : a ≤ 15) (b0 : 0 ≤ b) (b1 : b ≤ 15) (c0 : 0 ≤ c) (c1 : c ≤ 15) (o0 : 0 ≤ op) (o1 : op ≤ 11) (i0 : -2147483648 < im) (i1 : im < 2147483648) : Calls Tryz.prog 22 #[.int .u32 x] w (AtLine x w) := by
  obtain ⟨SO, hSO⟩ : ∃ S : ByteArray, (⟨(opN op).toArray⟩ : ByteArray) = S := ⟨_, rfl⟩
  have zO : SO.size ≤ 3 := by rw [← hSO, size_mk]; exact opN_len op
  obtain ⟨SA, hSA⟩ : ∃ S : ByteArray, (⟨(regL a).toArray⟩ : ByteArray) = S := ⟨_, rfl⟩
  have zA : SA.size ≤ 21 := by rw [← hSA, size_mk]; exact regL_len (by omega) (by omega)
  obtain ⟨SB, hSB⟩ : ∃ S : ByteArray, (⟨(regL b).toArray⟩ : ByteArray) = S := ⟨_, rfl⟩
  have zB : SB.size ≤ 21 := by rw [← hSB, size_mk]; exact regL_len (by omega) (by omega)
  obtain ⟨SC, hSC⟩ : ∃ S : ByteArray, (⟨(regL c).toArray⟩ : ByteArray) = S := ⟨_, rfl⟩
  have zC : SC.size ≤ 21 := by rw [← hSC, size_mk]; exact regL_len (by omega) (by omega)
  have y0 : ¬ (9223372036854775807 < SO.size + 1) := by omega
  have y1 : ¬ (9223372036854775807 < SO.size + 1 + SA.size) := by omega
  have y2 : ¬ (9223372036854775807 < SO.size + 1 + SA.size + 2) := by omega
  have y3 : ¬ (9223372036854775807 < SO.size + 1 + SA.size + 2 + SB.size) := by omega
  have y4 : ¬ (9223372036854775807 < SO.size + 1 + SA.size + 2 + SB.size + 2) := by omega
  have y5 : ¬ (9223372036854775807 < SO.size + 1 + SA.size + 2 + SB.size + 2 + SC.size) := by omega
  have y : ¬ (9223372036854775807 < SO.size) := by omega
  have hfin : SO ++ ((⟨#[]⟩ : ByteArray)) ++ (⟨#[32]⟩ : ByteArray) ++ SA ++ (⟨#[44, 32]⟩ : ByteArray) ++ SB ++ (⟨#[44, 32]⟩ : ByteArray) ++ SC = ⟨(lineI ⟨0, false, false, a, b, c, op, im⟩).toArray⟩ := by
    apply str_of
    rw [← hSO, ← hSA, ← hSB, ← hSC]
    simp [ByteArray.data_append, lineI, nameI, restI, markL, regL]
  have HSO := Lib.hid hSO
  have HSA := Lib.hid hSA
  have HSB := Lib.hid hSB
  have HSC := Lib.hid hSC
  have HF := Lib.hid hfin
  clear hfin hSO hSA hSB hSC
  have o2 : op < 12 := by omega
  have a2 : a < 16 := by omega
  have HD := Lib.hid hd
  have HL := Lib.hid hl
  clear hd hl
  go_enter Tryz.func22, Tryz.ntmps22
  go_wp2_with fail
  refine (rr_Decode x _ h0 h1).mono ?_
  rintro e w1 ⟨rfl, hB⟩
  rw [HD.out]
  simp only [insV_eq]
  go_wp2_with fail
  refine any_begin later_goes (by kernel_rfl) ?_
  generalize hW : World.drew _ = W0
  have hb : W0.heap[w1.heap.size]? = some (.cells #[.int .i64 0, .bool false, .bool false, .int .i64 a, .int .i64 b, .int .i64 c, .int .i64 op, .int .i64 im] 45 (0, 0)) := by rw [← hW]; exact b_new _ _
  obtain ⟨-, g1, -, f0, f1, f2, f3, f4⟩ := b_cells8 hb
  have hB0 : Below w.heap.size w W0 := by rw [← hW]; exact (bthen hB (ablow _ _)).drew
  clear hW hb
  refine any_take later_goes 1 ?_ ?_ (by simp only [List.getElem?_toArray, List.getElem?_cons_succ, List.getElem?_cons_zero]; exact rfl) (by kernel_rfl) (by kernel_rfl) (by kernel_rfl) (fun _ _ _ _ _ h => h) (by rfl) ?_ ?_
  rotate_left
  · intro wl hL
    have lf0 := a_keep hL f0; have lf1 := a_keep hL f1; have lf2 := a_keep hL f2; have lf3 := a_keep hL f3; have lf4 := a_keep hL f4
    go_simp
    try with_reducible rfl
  try simp only [Act.put, List.setIfInBounds_toArray, List.set_cons_zero, List.set_cons_succ]
  refine any_take later_goes 2 ?_ ?_ (by simp only [List.getElem?_toArray, List.getElem?_cons_succ, List.getElem?_cons_zero]; exact rfl) (by kernel_rfl) (by kernel_rfl) (by kernel_rfl) (fun _ _ _ _ _ h => h) (by rfl) ?_ ?_
  rotate_left
  · intro wl hL
    have lf0 := a_keep hL f0; have lf1 := a_keep hL f1; have lf2 := a_keep hL f2; have lf3 := a_keep hL f3; have lf4 := a_keep hL f4
    go_simp
    try with_reducible rfl
  try simp only [Act.put, List.setIfInBounds_toArray, List.set_cons_zero, List.set_cons_succ]
  refine any_take later_goes 5 ?_ ?_ (by simp only [List.getElem?_toArray, List.getElem?_cons_succ, List.getElem?_cons_zero]; exact rfl) (by kernel_rfl) (by kernel_rfl) (by kernel_rfl) (fun _ _ _ _ _ h => h) (by rfl) ?_ ?_
  rotate_left
  · intro wl hL
    have lf0 := a_keep hL f0; have lf1 := a_keep hL f1; have lf2 := a_keep hL f2; have lf3 := a_keep hL f3; have lf4 := a_keep hL f4
    go_simp
    try with_reducible rfl
  try simp only [Act.put, List.setIfInBounds_toArray, List.set_cons_zero, List.set_cons_succ]
  refine any_take later_goes 8 ?_ ?_ (by simp only [List.getElem?_toArray, List.getElem?_cons_succ, List.getElem?_cons_zero]; exact rfl) (by kernel_rfl) (by kernel_rfl) (by kernel_rfl) (fun _ _ _ _ _ h => h) (by rfl) ?_ ?_
  rotate_left
  · intro wl hL
    have lf0 := a_keep hL f0; have lf1 := a_keep hL f1; have lf2 := a_keep hL f2; have lf3 := a_keep hL f3; have lf4 := a_keep hL f4
    go_simp
    try with_reducible rfl
  try simp only [Act.put, List.setIfInBounds_toArray, List.set_cons_zero, List.set_cons_succ]
  refine any_take later_goes 9 ?_ ?_ (by simp only [List.getElem?_toArray, List.getElem?_cons_succ, List.getElem?_cons_zero]; exact rfl) (by kernel_rfl) (by kernel_rfl) (by kernel_rfl) (fun _ _ _ _ _ h => h) (by rfl) ?_ ?_
  rotate_left
  · intro wl hL
    have lf0 := a_keep hL f0; have lf1 := a_keep hL f1; have lf2 := a_keep hL f2; have lf3 := a_keep hL f3; have lf4 := a_keep hL f4
    go_simp
    try with_reducible rfl
  try simp only [Act.put, List.setIfInBounds_toArray, List.set_cons_zero, List.set_cons_succ]
  refine any_take later_goes 13 ?_ ?_ (by simp only [List.getElem?_toArray, List.getElem?_cons_succ, List.getElem?_cons_zero]; exact rfl) (by kernel_rfl) (by kernel_rfl) (by kernel_rfl) (fun _ _ _ _ _ h => h) (by rfl) ?_ ?_
  rotate_left
  · intro wl hL
    have lf0 := a_keep hL f0; have lf1 := a_keep hL f1; have lf2 := a_keep hL f2; have lf3 := a_keep hL f3; have lf4 := a_keep hL f4
    go_simp
    try with_reducible rfl
  try simp only [Act.put, List.setIfInBounds_toArray, List.set_cons_zero, List.set_cons_succ]
  refine any_take later_goes 14 ?_ ?_ (by simp only [List.getElem?_toArray, List.getElem?_cons_succ, List.getElem?_cons_zero]; exact rfl) (by kernel_rfl) (by kernel_rfl) (by kernel_rfl) (fun _ _ _ _ _ h => h) (by rfl) ?_ ?_
  rotate_left
  · intro wl hL
    have lf0 := a_keep hL f0; have lf1 := a_keep hL f1; have lf2 := a_keep hL f2; have lf3 := a_keep hL f3; have lf4 := a_keep hL f4
    go_simp
    try with_reducible rfl
  try simp only [Act.put, List.setIfInBounds_toArray, List.set_cons_zero, List.set_cons_succ]
  refine any_take later_goes 18 ?_ ?_ (by simp only [List.getElem?_toArray, List.getElem?_cons_succ, List.getElem?_cons_zero]; exact rfl) (by kernel_rfl) (by kernel_rfl) (by kernel_rfl) (fun _ _ _ _ _ h => h) (by rfl) ?_ ?_
  rotate_left
  · intro wl hL
    have lf0 := a_keep hL f0; have lf1 := a_keep hL f1; have lf2 := a_keep hL f2; have lf3 := a_keep hL f3; have lf4 := a_keep hL f4
    go_simp
    try with_reducible rfl
  try simp only [Act.put, List.setIfInBounds_toArray, List.set_cons_zero, List.set_cons_succ]
  refine any_take later_goes 19 ?_ ?_ (by simp only [List.getElem?_toArray, List.getElem?_cons_succ, List.getElem?_cons_zero]; exact rfl) (by kernel_rfl) (by kernel_rfl) (by kernel_rfl) (fun _ _ _ _ _ h => h) (by rfl) ?_ ?_
  rotate_left
  · intro wl hL
    have lf0 := a_keep hL f0; have lf1 := a_keep hL f1; have lf2 := a_keep hL f2; have lf3 := a_keep hL f3; have lf4 := a_keep hL f4
    go_simp
    try with_reducible rfl
  try simp only [Act.put, List.setIfInBounds_toArray, List.set_cons_zero, List.set_cons_succ]
  refine any_one 0 _ (by kernel_rfl) (by simp only [List.getElem?_toArray, List.getElem?_cons_succ, List.getElem?_cons_zero]; exact rfl) (fun K hK => ?_)
  go_simp
  refine (a_ops _).mono ?_
  rintro e wo ⟨g, rfl, hg, hgl, hBo⟩
  refine hK.out _ _ hBo ?_
  clear hK K
  try simp only [Act.put, List.setIfInBounds_toArray, List.set_cons_zero, List.set_cons_succ]
  have fg := strs_cell (n := 12) hg op o0 rfl (by omega) HSO.out
  replace hB0 := bthen hB0 hBo
  refine any_take later_goes 3 ?_ ?_ (by simp only [List.getElem?_toArray, List.getElem?_cons_succ, List.getElem?_cons_zero]; exact rfl) (by kernel_rfl) (by kernel_rfl) (by kernel_rfl) (fun _ _ _ _ _ h => h) (by rfl) ?_ ?_
  rotate_left
  · intro wl hL
    have lfg := a_keep hL fg
    go_simp
    try with_reducible rfl
  try simp only [Act.put, List.setIfInBounds_toArray, List.set_cons_zero, List.set_cons_succ]
  refine any_take later_goes 4 ?_ ?_ (by simp only [List.getElem?_toArray, List.getElem?_cons_succ, List.getElem?_cons_zero]; exact rfl) (by kernel_rfl) (by kernel_rfl) (by kernel_rfl) (fun _ _ _ _ _ h => h) (by rfl) ?_ ?_
  rotate_left
  · intro wl hL
    have lfg := a_keep hL fg
    go_simp
    try with_reducible rfl
  try simp only [Act.put, List.setIfInBounds_toArray, List.set_cons_zero, List.set_cons_succ]
  refine any_take later_goes 6 ?_ ?_ (by simp only [List.getElem?_toArray, List.getElem?_cons_succ, List.getElem?_cons_zero]; exact rfl) (by kernel_rfl) (by kernel_rfl) (by kernel_rfl) (fun _ _ _ _ _ h => h) (by rfl) ?_ ?_
  rotate_left
  · intro wl hL
    have lfg := a_keep hL fg
    go_simp
    try with_reducible rfl
  try simp only [Act.put, List.setIfInBounds_toArray, List.set_cons_zero, List.set_cons_succ]
  refine any_take later_goes 7 ?_ ?_ (by simp only [List.getElem?_toArray, List.getElem?_cons_succ, List.getElem?_cons_zero]; exact rfl) (by kernel_rfl) (by kernel_rfl) (by kernel_rfl) (fun _ _ _ _ _ h => h) (by rfl) ?_ ?_
  rotate_left
  · intro wl hL
    have lfg := a_keep hL fg
    go_simp
    try with_reducible rfl
  try simp only [Act.put, List.setIfInBounds_toArray, List.set_cons_zero, List.set_cons_succ]
  refine any_one 10 _ (by kernel_rfl) (by simp only [List.getElem?_toArray, List.getElem?_cons_succ, List.getElem?_cons_zero]; exact rfl) (fun K hK => ?_)
  go_simp
  refine (a_reg _ _ (by omega) (by omega)).mono ?_
  rintro e wr1 ⟨rfl, hBr⟩
  rw [HSA.out]
  refine hK.out _ _ hBr ?_
  clear hK K
  try simp only [Act.put, List.setIfInBounds_toArray, List.set_cons_zero, List.set_cons_succ]
  replace hB0 := bthen hB0 hBr
  clear hBr
  refine any_take later_goes 11 ?_ ?_ (by simp only [List.getElem?_toArray, List.getElem?_cons_succ, List.getElem?_cons_zero]; exact rfl) (by kernel_rfl) (by kernel_rfl) (by kernel_rfl) (fun _ _ _ _ _ h => h) (by rfl) ?_ ?_
  rotate_left
  · intro wl hL
    skip
    go_simp
    try with_reducible rfl
  try simp only [Act.put, List.setIfInBounds_toArray, List.set_cons_zero, List.set_cons_succ]
  refine any_take later_goes 12 ?_ ?_ (by simp only [List.getElem?_toArray, List.getElem?_cons_succ, List.getElem?_cons_zero]; exact rfl) (by kernel_rfl) (by kernel_rfl) (by kernel_rfl) (fun _ _ _ _ _ h => h) (by rfl) ?_ ?_
  rotate_left
  · intro wl hL
    skip
    go_simp
    try with_reducible rfl
  try simp only [Act.put, List.setIfInBounds_toArray, List.set_cons_zero, List.set_cons_succ]
  refine any_one 15 _ (by kernel_rfl) (by simp only [List.getElem?_toArray, List.getElem?_cons_succ, List.getElem?_cons_zero]; exact rfl) (fun K hK => ?_)
  go_simp
  refine (a_reg _ _ (by omega) (by omega)).mono ?_
  rintro e wr2 ⟨rfl, hBr⟩
  rw [HSB.out]
  refine hK.out _ _ hBr ?_
  clear hK K
  try simp only [Act.put, List.setIfInBounds_toArray, List.set_cons_zero, List.set_cons_succ]
  replace hB0 := bthen hB0 hBr
  clear hBr
  refine any_take later_goes 16 ?_ ?_ (by simp only [List.getElem?_toArray, List.getElem?_cons_succ, List.getElem?_cons_zero]; exact rfl) (by kernel_rfl) (by kernel_rfl) (by kernel_rfl) (fun _ _ _ _ _ h => h) (by rfl) ?_ ?_
  rotate_left
  · intro wl hL
    skip
    go_simp
    try with_reducible rfl
  try simp only [Act.put, List.setIfInBounds_toArray, List.set_cons_zero, List.set_cons_succ]
  refine any_take later_goes 17 ?_ ?_ (by simp only [List.getElem?_toArray, List.getElem?_cons_succ, List.getElem?_cons_zero]; exact rfl) (by kernel_rfl) (by kernel_rfl) (by kernel_rfl) (fun _ _ _ _ _ h => h) (by rfl) ?_ ?_
  rotate_left
  · intro wl hL
    skip
    go_simp
    try with_reducible rfl
  try simp only [Act.put, List.setIfInBounds_toArray, List.set_cons_zero, List.set_cons_succ]
  refine any_one 20 _ (by kernel_rfl) (by simp only [List.getElem?_toArray, List.getElem?_cons_succ, List.getElem?_cons_zero]; exact rfl) (fun K hK => ?_)
  go_simp
  refine (a_reg _ _ (by omega) (by omega)).mono ?_
  rintro e wr3 ⟨rfl, hBr⟩
  rw [HSC.out]
  refine hK.out _ _ hBr ?_
  clear hK K
  try simp only [Act.put, List.setIfInBounds_toArray, List.set_cons_zero, List.set_cons_succ]
  replace hB0 := bthen hB0 hBr
  clear hBr
  refine any_take later_goes 21 ?_ ?_ (by simp only [List.getElem?_toArray, List.getElem?_cons_succ, List.getElem?_cons_zero]; exact rfl) (by kernel_rfl) (by kernel_rfl) (by kernel_rfl) (fun _ _ _ _ _ h => h) (by rfl) ?_ ?_
  rotate_left
  · intro wl hL
    skip
    go_simp
    try with_reducible rfl
  try simp only [Act.put, List.setIfInBounds_toArray, List.set_cons_zero, List.set_cons_succ]
  refine any_take later_goes 22 ?_ ?_ (by simp only [List.getElem?_toArray, List.getElem?_cons_succ, List.getElem?_cons_zero]; exact rfl) (by kernel_rfl) (by kernel_rfl) (by kernel_rfl) (fun _ _ _ _ _ h => h) (by rfl) ?_ ?_
  rotate_left
  · intro wl hL
    skip
    go_simp
    try with_reducible rfl
  try simp only [Act.put, List.setIfInBounds_toArray, List.set_cons_zero, List.set_cons_succ]
  refine any_take later_goes 23 ?_ ?_ (by simp only [List.getElem?_toArray, List.getElem?_cons_succ, List.getElem?_cons_zero]; exact rfl) (by kernel_rfl) (by kernel_rfl) (by kernel_rfl) (fun _ _ _ _ _ h => h) (by rfl) ?_ ?_
  rotate_left
  · intro wl hL
    skip
    go_simp
    try with_reducible rfl
  try simp only [Act.put, List.setIfInBounds_toArray, List.set_cons_zero, List.set_cons_succ]
  refine any_done (by kernel_rfl) ?_ _
  go_wp2_with fail
  go_ret2
  exact ⟨by rw [HL.out, ← HF.out]; rfl, hB0⟩
set_option maxRecDepth 100000 in
set_option maxHeartbeats 8000000 in
theorem rline001 (x a b c op im : Int) (w : World) (h0 : 0 ≤ x) (h1 : x ≤ 4294967295) (hd : decW x = (⟨0, false, true, a, b, c, op, im⟩, 0)) (hl : lineW x = (lineI ⟨0, false, true, a, b, c, op, im⟩, 0))
    (a0 : 0 ≤ a) (a1 : a ≤ 15) (b0 : 0 ≤ b) (b1 : b ≤ 15) (c0 : 0 ≤ c) (c1 : c ≤ 15) (o0 : 0 ≤ op) (o1 : op ≤ 11) (i0 : -2147483648 < im) (i1 : im < 2147483648) : Calls Tryz.prog 22 #[.int .u32 x] w (AtLine x w) := by
  obtain ⟨SO, hSO⟩ : ∃ S : ByteArray, (⟨(opN op).toArray⟩ : ByteArray) = S := ⟨_, rfl⟩
  have zO : SO.size ≤ 3 := by rw [← hSO, size_mk]; exact opN_len op
  obtain ⟨SA, hSA⟩ : ∃ S : ByteArray, (⟨(regL a).toArray⟩ : ByteArray) = S := ⟨_, rfl⟩
  have zA : SA.size ≤ 21 := by rw [← hSA, size_mk]; exact regL_len (by omega) (by omega)
  obtain ⟨SB, hSB⟩ : ∃ S : ByteArray, (⟨(regL b).toArray⟩ : ByteArray) = S := ⟨_, rfl⟩
  have zB : SB.size ≤ 21 := by rw [← hSB, size_mk]; exact regL_len (by omega) (by omega)
  obtain ⟨SC, hSC⟩ : ∃ S : ByteArray, (⟨(regL c).toArray⟩ : ByteArray) = S := ⟨_, rfl⟩
  have zC : SC.size ≤ 21 := by rw [← hSC, size_mk]; exact regL_len (by omega) (by omega)
  have y0 : ¬ (9223372036854775807 < SO.size + 1) := by omega
  have y1 : ¬ (9223372036854775807 < SO.size + 1 + 1) := by omega
  have y2 : ¬ (9223372036854775807 < SO.size + 1 + 1 + SA.size) := by omega
  have y3 : ¬ (9223372036854775807 < SO.size + 1 + 1 + SA.size + 2) := by omega
  have y4 : ¬ (9223372036854775807 < SO.size + 1 + 1 + SA.size + 2 + SB.size) := by omega
  have y5 : ¬ (9223372036854775807 < SO.size + 1 + 1 + SA.size + 2 + SB.size + 2) := by omega
  have y6 : ¬ (9223372036854775807 < SO.size + 1 + 1 + SA.size + 2 + SB.size + 2 + SC.size) := by omega
  have hfin : SO ++ ((⟨#[]⟩ : ByteArray) ++ (⟨#[34]⟩ : ByteArray)) ++ (⟨#[32]⟩ : ByteArray) ++ SA ++ (⟨#[44, 32]⟩ : ByteArray) ++ SB ++ (⟨#[44, 32]⟩ : ByteArray) ++ SC = ⟨(lineI ⟨0, false, true, a, b, c, op, im⟩).toArray⟩ := by
    apply str_of
    rw [← hSO, ← hSA, ← hSB, ← hSC]
    simp [ByteArray.data_append, lineI, nameI, restI, markL, regL]
  have HSO := Lib.hid hSO
  have HSA := Lib.hid hSA
  have HSB := Lib.hid hSB
  have HSC := Lib.hid hSC
  have HF := Lib.hid hfin
  clear hfin hSO hSA hSB hSC
  have o2 : op < 12 := by omega
  have a2 : a < 16 := by omega
  have HD := Lib.hid hd
  have HL := Lib.hid hl
  clear hd hl
  go_enter Tryz.func22, Tryz.ntmps22
  go_wp2_with fail
  refine (rr_Decode x _ h0 h1).mono ?_
  rintro e w1 ⟨rfl, hB⟩
  rw [HD.out]
  simp only [insV_eq]
  go_wp2_with fail
  refine any_begin later_goes (by kernel_rfl) ?_
  generalize hW : World.drew _ = W0
  have hb : W0.heap[w1.heap.size]? = some (.cells #[.int .i64 0, .bool false, .bool true, .int .i64 a, .int .i64 b, .int .i64 c, .int .i64 op, .int .i64 im] 45 (0, 0)) := by rw [← hW]; exact b_new _ _
  obtain ⟨-, g1, -, f0, f1, f2, f3, f4⟩ := b_cells8 hb
  have hB0 : Below w.heap.size w W0 := by rw [← hW]; exact (bthen hB (ablow _ _)).drew
  clear hW hb
  refine any_take later_goes 1 ?_ ?_ (by simp only [List.getElem?_toArray, List.getElem?_cons_succ, List.getElem?_cons_zero]; exact rfl) (by kernel_rfl) (by kernel_rfl) (by kernel_rfl) (fun _ _ _ _ _ h => h) (by rfl) ?_ ?_
  rotate_left
  · intro wl hL
    have lf0 := a_keep hL f0; have lf1 := a_keep hL f1; have lf2 := a_keep hL f2; have lf3 := a_keep hL f3; have lf4 := a_keep hL f4
    go_simp
    try with_reducible rfl
  try simp only [Act.put, List.setIfInBounds_toArray, List.set_cons_zero, List.set_cons_succ]
  refine any_take later_goes 2 ?_ ?_ (by simp only [List.getElem?_toArray, List.getElem?_cons_succ, List.getElem?_cons_zero]; exact rfl) (by kernel_rfl) (by kernel_rfl) (by kernel_rfl) (fun _ _ _ _ _ h => h) (by rfl) ?_ ?_
  rotate_left
  · intro wl hL
    have lf0 := a_keep hL f0; have lf1 := a_keep hL f1; have lf2 := a_keep hL f2; have lf3 := a_keep hL f3; have lf4 := a_keep hL f4
    go_simp
    try with_reducible rfl
  try simp only [Act.put, List.setIfInBounds_toArray, List.set_cons_zero, List.set_cons_succ]
  refine any_take later_goes 5 ?_ ?_ (by simp only [List.getElem?_toArray, List.getElem?_cons_succ, List.getElem?_cons_zero]; exact rfl) (by kernel_rfl) (by kernel_rfl) (by kernel_rfl) (fun _ _ _ _ _ h => h) (by rfl) ?_ ?_
  rotate_left
  · intro wl hL
    have lf0 := a_keep hL f0; have lf1 := a_keep hL f1; have lf2 := a_keep hL f2; have lf3 := a_keep hL f3; have lf4 := a_keep hL f4
    go_simp
    try with_reducible rfl
  try simp only [Act.put, List.setIfInBounds_toArray, List.set_cons_zero, List.set_cons_succ]
  refine any_take later_goes 8 ?_ ?_ (by simp only [List.getElem?_toArray, List.getElem?_cons_succ, List.getElem?_cons_zero]; exact rfl) (by kernel_rfl) (by kernel_rfl) (by kernel_rfl) (fun _ _ _ _ _ h => h) (by rfl) ?_ ?_
  rotate_left
  · intro wl hL
    have lf0 := a_keep hL f0; have lf1 := a_keep hL f1; have lf2 := a_keep hL f2; have lf3 := a_keep hL f3; have lf4 := a_keep hL f4
    go_simp
    try with_reducible rfl
  try simp only [Act.put, List.setIfInBounds_toArray, List.set_cons_zero, List.set_cons_succ]
  refine any_take later_goes 9 ?_ ?_ (by simp only [List.getElem?_toArray, List.getElem?_cons_succ, List.getElem?_cons_zero]; exact rfl) (by kernel_rfl) (by kernel_rfl) (by kernel_rfl) (fun _ _ _ _ _ h => h) (by rfl) ?_ ?_
  rotate_left
  · intro wl hL
    have lf0 := a_keep hL f0; have lf1 := a_keep hL f1; have lf2 := a_keep hL f2; have lf3 := a_keep hL f3; have lf4 := a_keep hL f4
    go_simp
    try with_reducible rfl
  try simp only [Act.put, List.setIfInBounds_toArray, List.set_cons_zero, List.set_cons_succ]
  refine any_take later_goes 13 ?_ ?_ (by simp only [List.getElem?_toArray, List.getElem?_cons_succ, List.getElem?_cons_zero]; exact rfl) (by kernel_rfl) (by kernel_rfl) (by kernel_rfl) (fun _ _ _ _ _ h => h) (by rfl) ?_ ?_
  rotate_left
  · intro wl hL
    have lf0 := a_keep hL f0; have lf1 := a_keep hL f1; have lf2 := a_keep hL f2; have lf3 := a_keep hL f3; have lf4 := a_keep hL f4
    go_simp
    try with_reducible rfl
  try simp only [Act.put, List.setIfInBounds_toArray, List.set_cons_zero, List.set_cons_succ]
  refine any_take later_goes 14 ?_ ?_ (by simp only [List.getElem?_toArray, List.getElem?_cons_succ, List.getElem?_cons_zero]; exact rfl) (by kernel_rfl) (by kernel_rfl) (by kernel_rfl) (fun _ _ _ _ _ h => h) (by rfl) ?_ ?_
  rotate_left
  · intro wl hL
    have lf0 := a_keep hL f0; have lf1 := a_keep hL f1; have lf2 := a_keep hL f2; have lf3 := a_keep hL f3; have lf4 := a_keep hL f4
    go_simp
    try with_reducible rfl
  try simp only [Act.put, List.setIfInBounds_toArray, List.set_cons_zero, List.set_cons_succ]
  refine any_take later_goes 18 ?_ ?_ (by simp only [List.getElem?_toArray, List.getElem?_cons_succ, List.getElem?_cons_zero]; exact rfl) (by kernel_rfl) (by kernel_rfl) (by kernel_rfl) (fun _ _ _ _ _ h => h) (by rfl) ?_ ?_
  rotate_left
  · intro wl hL
    have lf0 := a_keep hL f0; have lf1 := a_keep hL f1; have lf2 := a_keep hL f2; have lf3 := a_keep hL f3; have lf4 := a_keep hL f4
    go_simp
    try with_reducible rfl
  try simp only [Act.put, List.setIfInBounds_toArray, List.set_cons_zero, List.set_cons_succ]
  refine any_take later_goes 19 ?_ ?_ (by simp only [List.getElem?_toArray, List.getElem?_cons_succ, List.getElem?_cons_zero]; exact rfl) (by kernel_rfl) (by kernel_rfl) (by kernel_rfl) (fun _ _ _ _ _ h => h) (by rfl) ?_ ?_
  rotate_left
  · intro wl hL
    have lf0 := a_keep hL f0; have lf1 := a_keep hL f1; have lf2 := a_keep hL f2; have lf3 := a_keep hL f3; have lf4 := a_keep hL f4
    go_simp
    try with_reducible rfl
  try simp only [Act.put, List.setIfInBounds_toArray, List.set_cons_zero, List.set_cons_succ]
  refine any_one 0 _ (by kernel_rfl) (by simp only [List.getElem?_toArray, List.getElem?_cons_succ, List.getElem?_cons_zero]; exact rfl) (fun K hK => ?_)
  go_simp
  refine (a_ops _).mono ?_
  rintro e wo ⟨g, rfl, hg, hgl, hBo⟩
  refine hK.out _ _ hBo ?_
  clear hK K
  try simp only [Act.put, List.setIfInBounds_toArray, List.set_cons_zero, List.set_cons_succ]
  have fg := strs_cell (n := 12) hg op o0 rfl (by omega) HSO.out
  replace hB0 := bthen hB0 hBo
  refine any_take later_goes 3 ?_ ?_ (by simp only [List.getElem?_toArray, List.getElem?_cons_succ, List.getElem?_cons_zero]; exact rfl) (by kernel_rfl) (by kernel_rfl) (by kernel_rfl) (fun _ _ _ _ _ h => h) (by rfl) ?_ ?_
  rotate_left
  · intro wl hL
    have lfg := a_keep hL fg
    go_simp
    try with_reducible rfl
  try simp only [Act.put, List.setIfInBounds_toArray, List.set_cons_zero, List.set_cons_succ]
  refine any_take later_goes 4 ?_ ?_ (by simp only [List.getElem?_toArray, List.getElem?_cons_succ, List.getElem?_cons_zero]; exact rfl) (by kernel_rfl) (by kernel_rfl) (by kernel_rfl) (fun _ _ _ _ _ h => h) (by rfl) ?_ ?_
  rotate_left
  · intro wl hL
    have lfg := a_keep hL fg
    go_simp
    try with_reducible rfl
  try simp only [Act.put, List.setIfInBounds_toArray, List.set_cons_zero, List.set_cons_succ]
  refine any_take later_goes 6 ?_ ?_ (by simp only [List.getElem?_toArray, List.getElem?_cons_succ, List.getElem?_cons_zero]; exact rfl) (by kernel_rfl) (by kernel_rfl) (by kernel_rfl) (fun _ _ _ _ _ h => h) (by rfl) ?_ ?_
  rotate_left
  · intro wl hL
    have lfg := a_keep hL fg
    go_simp
    try with_reducible rfl
  try simp only [Act.put, List.setIfInBounds_toArray, List.set_cons_zero, List.set_cons_succ]
  refine any_take later_goes 7 ?_ ?_ (by simp only [List.getElem?_toArray, List.getElem?_cons_succ, List.getElem?_cons_zero]; exact rfl) (by kernel_rfl) (by kernel_rfl) (by kernel_rfl) (fun _ _ _ _ _ h => h) (by rfl) ?_ ?_
  rotate_left
  · intro wl hL
    have lfg := a_keep hL fg
    go_simp
    try with_reducible rfl
  try simp only [Act.put, List.setIfInBounds_toArray, List.set_cons_zero, List.set_cons_succ]
  refine any_one 10 _ (by kernel_rfl) (by simp only [List.getElem?_toArray, List.getElem?_cons_succ, List.getElem?_cons_zero]; exact rfl) (fun K hK => ?_)
  go_simp
  refine (a_reg _ _ (by omega) (by omega)).mono ?_
  rintro e wr1 ⟨rfl, hBr⟩
  rw [HSA.out]
  refine hK.out _ _ hBr ?_
  clear hK K
  try simp only [Act.put, List.setIfInBounds_toArray, List.set_cons_zero, List.set_cons_succ]
  replace hB0 := bthen hB0 hBr
  clear hBr
  refine any_take later_goes 11 ?_ ?_ (by simp only [List.getElem?_toArray, List.getElem?_cons_succ, List.getElem?_cons_zero]; exact rfl) (by kernel_rfl) (by kernel_rfl) (by kernel_rfl) (fun _ _ _ _ _ h => h) (by rfl) ?_ ?_
  rotate_left
  · intro wl hL
    skip
    go_simp
    try with_reducible rfl
  try simp only [Act.put, List.setIfInBounds_toArray, List.set_cons_zero, List.set_cons_succ]
  refine any_take later_goes 12 ?_ ?_ (by simp only [List.getElem?_toArray, List.getElem?_cons_succ, List.getElem?_cons_zero]; exact rfl) (by kernel_rfl) (by kernel_rfl) (by kernel_rfl) (fun _ _ _ _ _ h => h) (by rfl) ?_ ?_
  rotate_left
  · intro wl hL
    skip
    go_simp
    try with_reducible rfl
  try simp only [Act.put, List.setIfInBounds_toArray, List.set_cons_zero, List.set_cons_succ]
  refine any_one 15 _ (by kernel_rfl) (by simp only [List.getElem?_toArray, List.getElem?_cons_succ, List.getElem?_cons_zero]; exact rfl) (fun K hK => ?_)
  go_simp
  refine (a_reg _ _ (by omega) (by omega)).mono ?_
  rintro e wr2 ⟨rfl, hBr⟩
  rw [HSB.out]
  refine hK.out _ _ hBr ?_
  clear hK K
  try simp only [Act.put, List.setIfInBounds_toArray, List.set_cons_zero, List.set_cons_succ]
  replace hB0 := bthen hB0 hBr
  clear hBr
  refine any_take later_goes 16 ?_ ?_ (by simp only [List.getElem?_toArray, List.getElem?_cons_succ, List.getElem?_cons_zero]; exact rfl) (by kernel_rfl) (by kernel_rfl) (by kernel_rfl) (fun _ _ _ _ _ h => h) (by rfl) ?_ ?_
  rotate_left
  · intro wl hL
    skip
    go_simp
    try with_reducible rfl
  try simp only [Act.put, List.setIfInBounds_toArray, List.set_cons_zero, List.set_cons_succ]
  refine any_take later_goes 17 ?_ ?_ (by simp only [List.getElem?_toArray, List.getElem?_cons_succ, List.getElem?_cons_zero]; exact rfl) (by kernel_rfl) (by kernel_rfl) (by kernel_rfl) (fun _ _ _ _ _ h => h) (by rfl) ?_ ?_
  rotate_left
  · intro wl hL
    skip
    go_simp
    try with_reducible rfl
  try simp only [Act.put, List.setIfInBounds_toArray, List.set_cons_zero, List.set_cons_succ]
  refine any_one 20 _ (by kernel_rfl) (by simp only [List.getElem?_toArray, List.getElem?_cons_succ, List.getElem?_cons_zero]; exact rfl) (fun K hK => ?_)
  go_simp
  refine (a_reg _ _ (by omega) (by omega)).mono ?_
  rintro e wr3 ⟨rfl, hBr⟩
  rw [HSC.out]
  refine hK.out _ _ hBr ?_
  clear hK K
  try simp only [Act.put, List.setIfInBounds_toArray, List.set_cons_zero, List.set_cons_succ]
  replace hB0 := bthen hB0 hBr
  clear hBr
  refine any_take later_goes 21 ?_ ?_ (by simp only [List.getElem?_toArray, List.getElem?_cons_succ, List.getElem?_cons_zero]; exact rfl) (by kernel_rfl) (by kernel_rfl) (by kernel_rfl) (fun _ _ _ _ _ h => h) (by rfl) ?_ ?_
  rotate_left
  · intro wl hL
    skip
    go_simp
    try with_reducible rfl
  try simp only [Act.put, List.setIfInBounds_toArray, List.set_cons_zero, List.set_cons_succ]
  refine any_take later_goes 22 ?_ ?_ (by simp only [List.getElem?_toArray, List.getElem?_cons_succ, List.getElem?_cons_zero]; exact rfl) (by kernel_rfl) (by kernel_rfl) (by kernel_rfl) (fun _ _ _ _ _ h => h) (by rfl) ?_ ?_
  rotate_left
  · intro wl hL
    skip
    go_simp
    try with_reducible rfl
  try simp only [Act.put, List.setIfInBounds_toArray, List.set_cons_zero, List.set_cons_succ]
  refine any_take later_goes 23 ?_ ?_ (by simp only [List.getElem?_toArray, List.getElem?_cons_succ, List.getElem?_cons_zero]; exact rfl) (by kernel_rfl) (by kernel_rfl) (by kernel_rfl) (fun _ _ _ _ _ h => h) (by rfl) ?_ ?_
  rotate_left
  · intro wl hL
    skip
    go_simp
    try with_reducible rfl
  try simp only [Act.put, List.setIfInBounds_toArray, List.set_cons_zero, List.set_cons_succ]
  refine any_done (by kernel_rfl) ?_ _
  go_wp2_with fail
  go_ret2
  exact ⟨by rw [HL.out, ← HF.out]; rfl, hB0⟩
set_option maxRecDepth 100000 in
set_option maxHeartbeats 8000000 in
theorem rline010 (x a b c op im : Int) (w : World) (h0 : 0 ≤ x) (h1 : x ≤ 4294967295) (hd : decW x = (⟨0, true, false, a, b, c, op, im⟩, 0)) (hl : lineW x = (lineI ⟨0, true, false, a, b, c, op, im⟩, 0))
    (a0 : 0 ≤ a) (a1 : a ≤ 15) (b0 : 0 ≤ b) (b1 : b ≤ 15) (c0 : 0 ≤ c) (c1 : c ≤ 15) (o0 : 0 ≤ op) (o1 : op ≤ 11) (i0 : -2147483648 < im) (i1 : im < 2147483648) : Calls Tryz.prog 22 #[.int .u32 x] w (AtLine x w) := by
  obtain ⟨SO, hSO⟩ : ∃ S : ByteArray, (⟨(opN op).toArray⟩ : ByteArray) = S := ⟨_, rfl⟩
  have zO : SO.size ≤ 3 := by rw [← hSO, size_mk]; exact opN_len op
  obtain ⟨SA, hSA⟩ : ∃ S : ByteArray, (⟨(regL a).toArray⟩ : ByteArray) = S := ⟨_, rfl⟩
  have zA : SA.size ≤ 21 := by rw [← hSA, size_mk]; exact regL_len (by omega) (by omega)
  obtain ⟨SB, hSB⟩ : ∃ S : ByteArray, (⟨(regL b).toArray⟩ : ByteArray) = S := ⟨_, rfl⟩
  have zB : SB.size ≤ 21 := by rw [← hSB, size_mk]; exact regL_len (by omega) (by omega)
  obtain ⟨SC, hSC⟩ : ∃ S : ByteArray, (⟨(regL c).toArray⟩ : ByteArray) = S := ⟨_, rfl⟩
  have zC : SC.size ≤ 21 := by rw [← hSC, size_mk]; exact regL_len (by omega) (by omega)
  have y0 : ¬ (9223372036854775807 < SO.size + 1) := by omega
  have y1 : ¬ (9223372036854775807 < SO.size + 1 + 1) := by omega
  have y2 : ¬ (9223372036854775807 < SO.size + 1 + 1 + SA.size) := by omega
  have y3 : ¬ (9223372036854775807 < SO.size + 1 + 1 + SA.size + 2) := by omega
  have y4 : ¬ (9223372036854775807 < SO.size + 1 + 1 + SA.size + 2 + SB.size) := by omega
  have y5 : ¬ (9223372036854775807 < SO.size + 1 + 1 + SA.size + 2 + SB.size + 2) := by omega
  have y6 : ¬ (9223372036854775807 < SO.size + 1 + 1 + SA.size + 2 + SB.size + 2 + SC.size) := by omega
  have hfin : SO ++ ((⟨#[]⟩ : ByteArray) ++ (⟨#[39]⟩ : ByteArray)) ++ (⟨#[32]⟩ : ByteArray) ++ SA ++ (⟨#[44, 32]⟩ : ByteArray) ++ SB ++ (⟨#[44, 32]⟩ : ByteArray) ++ SC = ⟨(lineI ⟨0, true, false, a, b, c, op, im⟩).toArray⟩ := by
    apply str_of
    rw [← hSO, ← hSA, ← hSB, ← hSC]
    simp [ByteArray.data_append, lineI, nameI, restI, markL, regL]
  have HSO := Lib.hid hSO
  have HSA := Lib.hid hSA
  have HSB := Lib.hid hSB
  have HSC := Lib.hid hSC
  have HF := Lib.hid hfin
  clear hfin hSO hSA hSB hSC
  have o2 : op < 12 := by omega
  have a2 : a < 16 := by omega
  have HD := Lib.hid hd
  have HL := Lib.hid hl
  clear hd hl
  go_enter Tryz.func22, Tryz.ntmps22
  go_wp2_with fail
  refine (rr_Decode x _ h0 h1).mono ?_
  rintro e w1 ⟨rfl, hB⟩
  rw [HD.out]
  simp only [insV_eq]
  go_wp2_with fail
  refine any_begin later_goes (by kernel_rfl) ?_
  generalize hW : World.drew _ = W0
  have hb : W0.heap[w1.heap.size]? = some (.cells #[.int .i64 0, .bool true, .bool false, .int .i64 a, .int .i64 b, .int .i64 c, .int .i64 op, .int .i64 im] 45 (0, 0)) := by rw [← hW]; exact b_new _ _
  obtain ⟨-, g1, -, f0, f1, f2, f3, f4⟩ := b_cells8 hb
  have hB0 : Below w.heap.size w W0 := by rw [← hW]; exact (bthen hB (ablow _ _)).drew
  clear hW hb
  refine any_take later_goes 1 ?_ ?_ (by simp only [List.getElem?_toArray, List.getElem?_cons_succ, List.getElem?_cons_zero]; exact rfl) (by kernel_rfl) (by kernel_rfl) (by kernel_rfl) (fun _ _ _ _ _ h => h) (by rfl) ?_ ?_
  rotate_left
  · intro wl hL
    have lf0 := a_keep hL f0; have lf1 := a_keep hL f1; have lf2 := a_keep hL f2; have lf3 := a_keep hL f3; have lf4 := a_keep hL f4
    go_simp
    try with_reducible rfl
  try simp only [Act.put, List.setIfInBounds_toArray, List.set_cons_zero, List.set_cons_succ]
  refine any_take later_goes 2 ?_ ?_ (by simp only [List.getElem?_toArray, List.getElem?_cons_succ, List.getElem?_cons_zero]; exact rfl) (by kernel_rfl) (by kernel_rfl) (by kernel_rfl) (fun _ _ _ _ _ h => h) (by rfl) ?_ ?_
  rotate_left
  · intro wl hL
    have lf0 := a_keep hL f0; have lf1 := a_keep hL f1; have lf2 := a_keep hL f2; have lf3 := a_keep hL f3; have lf4 := a_keep hL f4
    go_simp
    try with_reducible rfl
  try simp only [Act.put, List.setIfInBounds_toArray, List.set_cons_zero, List.set_cons_succ]
  refine any_take later_goes 5 ?_ ?_ (by simp only [List.getElem?_toArray, List.getElem?_cons_succ, List.getElem?_cons_zero]; exact rfl) (by kernel_rfl) (by kernel_rfl) (by kernel_rfl) (fun _ _ _ _ _ h => h) (by rfl) ?_ ?_
  rotate_left
  · intro wl hL
    have lf0 := a_keep hL f0; have lf1 := a_keep hL f1; have lf2 := a_keep hL f2; have lf3 := a_keep hL f3; have lf4 := a_keep hL f4
    go_simp
    try with_reducible rfl
  try simp only [Act.put, List.setIfInBounds_toArray, List.set_cons_zero, List.set_cons_succ]
  refine any_take later_goes 8 ?_ ?_ (by simp only [List.getElem?_toArray, List.getElem?_cons_succ, List.getElem?_cons_zero]; exact rfl) (by kernel_rfl) (by kernel_rfl) (by kernel_rfl) (fun _ _ _ _ _ h => h) (by rfl) ?_ ?_
  rotate_left
  · intro wl hL
    have lf0 := a_keep hL f0; have lf1 := a_keep hL f1; have lf2 := a_keep hL f2; have lf3 := a_keep hL f3; have lf4 := a_keep hL f4
    go_simp
    try with_reducible rfl
  try simp only [Act.put, List.setIfInBounds_toArray, List.set_cons_zero, List.set_cons_succ]
  refine any_take later_goes 9 ?_ ?_ (by simp only [List.getElem?_toArray, List.getElem?_cons_succ, List.getElem?_cons_zero]; exact rfl) (by kernel_rfl) (by kernel_rfl) (by kernel_rfl) (fun _ _ _ _ _ h => h) (by rfl) ?_ ?_
  rotate_left
  · intro wl hL
    have lf0 := a_keep hL f0; have lf1 := a_keep hL f1; have lf2 := a_keep hL f2; have lf3 := a_keep hL f3; have lf4 := a_keep hL f4
    go_simp
    try with_reducible rfl
  try simp only [Act.put, List.setIfInBounds_toArray, List.set_cons_zero, List.set_cons_succ]
  refine any_take later_goes 13 ?_ ?_ (by simp only [List.getElem?_toArray, List.getElem?_cons_succ, List.getElem?_cons_zero]; exact rfl) (by kernel_rfl) (by kernel_rfl) (by kernel_rfl) (fun _ _ _ _ _ h => h) (by rfl) ?_ ?_
  rotate_left
  · intro wl hL
    have lf0 := a_keep hL f0; have lf1 := a_keep hL f1; have lf2 := a_keep hL f2; have lf3 := a_keep hL f3; have lf4 := a_keep hL f4
    go_simp
    try with_reducible rfl
  try simp only [Act.put, List.setIfInBounds_toArray, List.set_cons_zero, List.set_cons_succ]
  refine any_take later_goes 14 ?_ ?_ (by simp only [List.getElem?_toArray, List.getElem?_cons_succ, List.getElem?_cons_zero]; exact rfl) (by kernel_rfl) (by kernel_rfl) (by kernel_rfl) (fun _ _ _ _ _ h => h) (by rfl) ?_ ?_
  rotate_left
  · intro wl hL
    have lf0 := a_keep hL f0; have lf1 := a_keep hL f1; have lf2 := a_keep hL f2; have lf3 := a_keep hL f3; have lf4 := a_keep hL f4
    go_simp
    try with_reducible rfl
  try simp only [Act.put, List.setIfInBounds_toArray, List.set_cons_zero, List.set_cons_succ]
  refine any_take later_goes 18 ?_ ?_ (by simp only [List.getElem?_toArray, List.getElem?_cons_succ, List.getElem?_cons_zero]; exact rfl) (by kernel_rfl) (by kernel_rfl) (by kernel_rfl) (fun _ _ _ _ _ h => h) (by rfl) ?_ ?_
  rotate_left
  · intro wl hL
    have lf0 := a_keep hL f0; have lf1 := a_keep hL f1; have lf2 := a_keep hL f2; have lf3 := a_keep hL f3; have lf4 := a_keep hL f4
    go_simp
    try with_reducible rfl
  try simp only [Act.put, List.setIfInBounds_toArray, List.set_cons_zero, List.set_cons_succ]
  refine any_take later_goes 19 ?_ ?_ (by simp only [List.getElem?_toArray, List.getElem?_cons_succ, List.getElem?_cons_zero]; exact rfl) (by kernel_rfl) (by kernel_rfl) (by kernel_rfl) (fun _ _ _ _ _ h => h) (by rfl) ?_ ?_
  rotate_left
  · intro wl hL
    have lf0 := a_keep hL f0; have lf1 := a_keep hL f1; have lf2 := a_keep hL f2; have lf3 := a_keep hL f3; have lf4 := a_keep hL f4
    go_simp
    try with_reducible rfl
  try simp only [Act.put, List.setIfInBounds_toArray, List.set_cons_zero, List.set_cons_succ]
  refine any_one 0 _ (by kernel_rfl) (by simp only [List.getElem?_toArray, List.getElem?_cons_succ, List.getElem?_cons_zero]; exact rfl) (fun K hK => ?_)
  go_simp
  refine (a_ops _).mono ?_
  rintro e wo ⟨g, rfl, hg, hgl, hBo⟩
  refine hK.out _ _ hBo ?_
  clear hK K
  try simp only [Act.put, List.setIfInBounds_toArray, List.set_cons_zero, List.set_cons_succ]
  have fg := strs_cell (n := 12) hg op o0 rfl (by omega) HSO.out
  replace hB0 := bthen hB0 hBo
  refine any_take later_goes 3 ?_ ?_ (by simp only [List.getElem?_toArray, List.getElem?_cons_succ, List.getElem?_cons_zero]; exact rfl) (by kernel_rfl) (by kernel_rfl) (by kernel_rfl) (fun _ _ _ _ _ h => h) (by rfl) ?_ ?_
  rotate_left
  · intro wl hL
    have lfg := a_keep hL fg
    go_simp
    try with_reducible rfl
  try simp only [Act.put, List.setIfInBounds_toArray, List.set_cons_zero, List.set_cons_succ]
  refine any_take later_goes 4 ?_ ?_ (by simp only [List.getElem?_toArray, List.getElem?_cons_succ, List.getElem?_cons_zero]; exact rfl) (by kernel_rfl) (by kernel_rfl) (by kernel_rfl) (fun _ _ _ _ _ h => h) (by rfl) ?_ ?_
  rotate_left
  · intro wl hL
    have lfg := a_keep hL fg
    go_simp
    try with_reducible rfl
  try simp only [Act.put, List.setIfInBounds_toArray, List.set_cons_zero, List.set_cons_succ]
  refine any_take later_goes 6 ?_ ?_ (by simp only [List.getElem?_toArray, List.getElem?_cons_succ, List.getElem?_cons_zero]; exact rfl) (by kernel_rfl) (by kernel_rfl) (by kernel_rfl) (fun _ _ _ _ _ h => h) (by rfl) ?_ ?_
  rotate_left
  · intro wl hL
    have lfg := a_keep hL fg
    go_simp
    try with_reducible rfl
  try simp only [Act.put, List.setIfInBounds_toArray, List.set_cons_zero, List.set_cons_succ]
  refine any_take later_goes 7 ?_ ?_ (by simp only [List.getElem?_toArray, List.getElem?_cons_succ, List.getElem?_cons_zero]; exact rfl) (by kernel_rfl) (by kernel_rfl) (by kernel_rfl) (fun _ _ _ _ _ h => h) (by rfl) ?_ ?_
  rotate_left
  · intro wl hL
    have lfg := a_keep hL fg
    go_simp
    try with_reducible rfl
  try simp only [Act.put, List.setIfInBounds_toArray, List.set_cons_zero, List.set_cons_succ]
  refine any_one 10 _ (by kernel_rfl) (by simp only [List.getElem?_toArray, List.getElem?_cons_succ, List.getElem?_cons_zero]; exact rfl) (fun K hK => ?_)
  go_simp
  refine (a_reg _ _ (by omega) (by omega)).mono ?_
  rintro e wr1 ⟨rfl, hBr⟩
  rw [HSA.out]
  refine hK.out _ _ hBr ?_
  clear hK K
  try simp only [Act.put, List.setIfInBounds_toArray, List.set_cons_zero, List.set_cons_succ]
  replace hB0 := bthen hB0 hBr
  clear hBr
  refine any_take later_goes 11 ?_ ?_ (by simp only [List.getElem?_toArray, List.getElem?_cons_succ, List.getElem?_cons_zero]; exact rfl) (by kernel_rfl) (by kernel_rfl) (by kernel_rfl) (fun _ _ _ _ _ h => h) (by rfl) ?_ ?_
  rotate_left
  · intro wl hL
    skip
    go_simp
    try with_reducible rfl
  try simp only [Act.put, List.setIfInBounds_toArray, List.set_cons_zero, List.set_cons_succ]
  refine any_take later_goes 12 ?_ ?_ (by simp only [List.getElem?_toArray, List.getElem?_cons_succ, List.getElem?_cons_zero]; exact rfl) (by kernel_rfl) (by kernel_rfl) (by kernel_rfl) (fun _ _ _ _ _ h => h) (by rfl) ?_ ?_
  rotate_left
  · intro wl hL
    skip
    go_simp
    try with_reducible rfl
  try simp only [Act.put, List.setIfInBounds_toArray, List.set_cons_zero, List.set_cons_succ]
  refine any_one 15 _ (by kernel_rfl) (by simp only [List.getElem?_toArray, List.getElem?_cons_succ, List.getElem?_cons_zero]; exact rfl) (fun K hK => ?_)
  go_simp
  refine (a_reg _ _ (by omega) (by omega)).mono ?_
  rintro e wr2 ⟨rfl, hBr⟩
  rw [HSB.out]
  refine hK.out _ _ hBr ?_
  clear hK K
  try simp only [Act.put, List.setIfInBounds_toArray, List.set_cons_zero, List.set_cons_succ]
  replace hB0 := bthen hB0 hBr
  clear hBr
  refine any_take later_goes 16 ?_ ?_ (by simp only [List.getElem?_toArray, List.getElem?_cons_succ, List.getElem?_cons_zero]; exact rfl) (by kernel_rfl) (by kernel_rfl) (by kernel_rfl) (fun _ _ _ _ _ h => h) (by rfl) ?_ ?_
  rotate_left
  · intro wl hL
    skip
    go_simp
    try with_reducible rfl
  try simp only [Act.put, List.setIfInBounds_toArray, List.set_cons_zero, List.set_cons_succ]
  refine any_take later_goes 17 ?_ ?_ (by simp only [List.getElem?_toArray, List.getElem?_cons_succ, List.getElem?_cons_zero]; exact rfl) (by kernel_rfl) (by kernel_rfl) (by kernel_rfl) (fun _ _ _ _ _ h => h) (by rfl) ?_ ?_
  rotate_left
  · intro wl hL
    skip
    go_simp
    try with_reducible rfl
  try simp only [Act.put, List.setIfInBounds_toArray, List.set_cons_zero, List.set_cons_succ]
  refine any_one 20 _ (by kernel_rfl) (by simp only [List.getElem?_toArray, List.getElem?_cons_succ, List.getElem?_cons_zero]; exact rfl) (fun K hK => ?_)
  go_simp
  refine (a_reg _ _ (by omega) (by omega)).mono ?_
  rintro e wr3 ⟨rfl, hBr⟩
  rw [HSC.out]
  refine hK.out _ _ hBr ?_
  clear hK K
  try simp only [Act.put, List.setIfInBounds_toArray, List.set_cons_zero, List.set_cons_succ]
  replace hB0 := bthen hB0 hBr
  clear hBr
  refine any_take later_goes 21 ?_ ?_ (by simp only [List.getElem?_toArray, List.getElem?_cons_succ, List.getElem?_cons_zero]; exact rfl) (by kernel_rfl) (by kernel_rfl) (by kernel_rfl) (fun _ _ _ _ _ h => h) (by rfl) ?_ ?_
  rotate_left
  · intro wl hL
    skip
    go_simp
    try with_reducible rfl
  try simp only [Act.put, List.setIfInBounds_toArray, List.set_cons_zero, List.set_cons_succ]
  refine any_take later_goes 22 ?_ ?_ (by simp only [List.getElem?_toArray, List.getElem?_cons_succ, List.getElem?_cons_zero]; exact rfl) (by kernel_rfl) (by kernel_rfl) (by kernel_rfl) (fun _ _ _ _ _ h => h) (by rfl) ?_ ?_
  rotate_left
  · intro wl hL
    skip
    go_simp
    try with_reducible rfl
  try simp only [Act.put, List.setIfInBounds_toArray, List.set_cons_zero, List.set_cons_succ]
  refine any_take later_goes 23 ?_ ?_ (by simp only [List.getElem?_toArray, List.getElem?_cons_succ, List.getElem?_cons_zero]; exact rfl) (by kernel_rfl) (by kernel_rfl) (by kernel_rfl) (fun _ _ _ _ _ h => h) (by rfl) ?_ ?_
  rotate_left
  · intro wl hL
    skip
    go_simp
    try with_reducible rfl
  try simp only [Act.put, List.setIfInBounds_toArray, List.set_cons_zero, List.set_cons_succ]
  refine any_done (by kernel_rfl) ?_ _
  go_wp2_with fail
  go_ret2
  exact ⟨by rw [HL.out, ← HF.out]; rfl, hB0⟩
set_option maxRecDepth 100000 in
set_option maxHeartbeats 8000000 in
theorem rline011 (x a b c op im : Int) (w : World) (h0 : 0 ≤ x) (h1 : x ≤ 4294967295) (hd : decW x = (⟨0, true, true, a, b, c, op, im⟩, 0)) (hl : lineW x = (lineI ⟨0, true, true, a, b, c, op, im⟩, 0))
    (a0 : 0 ≤ a) (a1 : a ≤ 15) (b0 : 0 ≤ b) (b1 : b ≤ 15) (c0 : 0 ≤ c) (c1 : c ≤ 15) (o0 : 0 ≤ op) (o1 : op ≤ 11) (i0 : -2147483648 < im) (i1 : im < 2147483648) : Calls Tryz.prog 22 #[.int .u32 x] w (AtLine x w) := by
  obtain ⟨SO, hSO⟩ : ∃ S : ByteArray, (⟨(opN op).toArray⟩ : ByteArray) = S := ⟨_, rfl⟩
  have zO : SO.size ≤ 3 := by rw [← hSO, size_mk]; exact opN_len op
  obtain ⟨SA, hSA⟩ : ∃ S : ByteArray, (⟨(regL a).toArray⟩ : ByteArray) = S := ⟨_, rfl⟩
  have zA : SA.size ≤ 21 := by rw [← hSA, size_mk]; exact regL_len (by omega) (by omega)
  obtain ⟨SB, hSB⟩ : ∃ S : ByteArray, (⟨(regL b).toArray⟩ : ByteArray) = S := ⟨_, rfl⟩
  have zB : SB.size ≤ 21 := by rw [← hSB, size_mk]; exact regL_len (by omega) (by omega)
  obtain ⟨SC, hSC⟩ : ∃ S : ByteArray, (⟨(regL c).toArray⟩ : ByteArray) = S := ⟨_, rfl⟩
  have zC : SC.size ≤ 21 := by rw [← hSC, size_mk]; exact regL_len (by omega) (by omega)
  have y0 : ¬ (9223372036854775807 < SO.size + 2) := by omega
  have y1 : ¬ (9223372036854775807 < SO.size + 2 + 1) := by omega
  have y2 : ¬ (9223372036854775807 < SO.size + 2 + 1 + SA.size) := by omega
  have y3 : ¬ (9223372036854775807 < SO.size + 2 + 1 + SA.size + 2) := by omega
  have y4 : ¬ (9223372036854775807 < SO.size + 2 + 1 + SA.size + 2 + SB.size) := by omega
  have y5 : ¬ (9223372036854775807 < SO.size + 2 + 1 + SA.size + 2 + SB.size + 2) := by omega
  have y6 : ¬ (9223372036854775807 < SO.size + 2 + 1 + SA.size + 2 + SB.size + 2 + SC.size) := by omega
  have hfin : SO ++ ((⟨#[]⟩ : ByteArray) ++ (⟨#[39]⟩ : ByteArray) ++ (⟨#[34]⟩ : ByteArray)) ++ (⟨#[32]⟩ : ByteArray) ++ SA ++ (⟨#[44, 32]⟩ : ByteArray) ++ SB ++ (⟨#[44, 32]⟩ : ByteArray) ++ SC = ⟨(lineI ⟨0, true, true, a, b, c, op, im⟩).toArray⟩ := by
    apply str_of
    rw [← hSO, ← hSA, ← hSB, ← hSC]
    simp [ByteArray.data_append, lineI, nameI, restI, markL, regL]
  have HSO := Lib.hid hSO
  have HSA := Lib.hid hSA
  have HSB := Lib.hid hSB
  have HSC := Lib.hid hSC
  have HF := Lib.hid hfin
  clear hfin hSO hSA hSB hSC
  have o2 : op < 12 := by omega
  have a2 : a < 16 := by omega
  have HD := Lib.hid hd
  have HL := Lib.hid hl
  clear hd hl
  go_enter Tryz.func22, Tryz.ntmps22
  go_wp2_with fail
  refine (rr_Decode x _ h0 h1).mono ?_
  rintro e w1 ⟨rfl, hB⟩
  rw [HD.out]
  simp only [insV_eq]
  go_wp2_with fail
  refine any_begin later_goes (by kernel_rfl) ?_
  generalize hW : World.drew _ = W0
  have hb : W0.heap[w1.heap.size]? = some (.cells #[.int .i64 0, .bool true, .bool true, .int .i64 a, .int .i64 b, .int .i64 c, .int .i64 op, .int .i64 im] 45 (0, 0)) := by rw [← hW]; exact b_new _ _
  obtain ⟨-, g1, -, f0, f1, f2, f3, f4⟩ := b_cells8 hb
  have hB0 : Below w.heap.size w W0 := by rw [← hW]; exact (bthen hB (ablow _ _)).drew
  clear hW hb
  refine any_take later_goes 1 ?_ ?_ (by simp only [List.getElem?_toArray, List.getElem?_cons_succ, List.getElem?_cons_zero]; exact rfl) (by kernel_rfl) (by kernel_rfl) (by kernel_rfl) (fun _ _ _ _ _ h => h) (by rfl) ?_ ?_
  rotate_left
  · intro wl hL
    have lf0 := a_keep hL f0; have lf1 := a_keep hL f1; have lf2 := a_keep hL f2; have lf3 := a_keep hL f3; have lf4 := a_keep hL f4
    go_simp
    try with_reducible rfl
  try simp only [Act.put, List.setIfInBounds_toArray, List.set_cons_zero, List.set_cons_succ]
  refine any_take later_goes 2 ?_ ?_ (by simp only [List.getElem?_toArray, List.getElem?_cons_succ, List.getElem?_cons_zero]; exact rfl) (by kernel_rfl) (by kernel_rfl) (by kernel_rfl) (fun _ _ _ _ _ h => h) (by rfl) ?_ ?_
  rotate_left
  · intro wl hL
    have lf0 := a_keep hL f0; have lf1 := a_keep hL f1; have lf2 := a_keep hL f2; have lf3 := a_keep hL f3; have lf4 := a_keep hL f4
    go_simp
    try with_reducible rfl
  try simp only [Act.put, List.setIfInBounds_toArray, List.set_cons_zero, List.set_cons_succ]
  refine any_take later_goes 5 ?_ ?_ (by simp only [List.getElem?_toArray, List.getElem?_cons_succ, List.getElem?_cons_zero]; exact rfl) (by kernel_rfl) (by kernel_rfl) (by kernel_rfl) (fun _ _ _ _ _ h => h) (by rfl) ?_ ?_
  rotate_left
  · intro wl hL
    have lf0 := a_keep hL f0; have lf1 := a_keep hL f1; have lf2 := a_keep hL f2; have lf3 := a_keep hL f3; have lf4 := a_keep hL f4
    go_simp
    try with_reducible rfl
  try simp only [Act.put, List.setIfInBounds_toArray, List.set_cons_zero, List.set_cons_succ]
  refine any_take later_goes 8 ?_ ?_ (by simp only [List.getElem?_toArray, List.getElem?_cons_succ, List.getElem?_cons_zero]; exact rfl) (by kernel_rfl) (by kernel_rfl) (by kernel_rfl) (fun _ _ _ _ _ h => h) (by rfl) ?_ ?_
  rotate_left
  · intro wl hL
    have lf0 := a_keep hL f0; have lf1 := a_keep hL f1; have lf2 := a_keep hL f2; have lf3 := a_keep hL f3; have lf4 := a_keep hL f4
    go_simp
    try with_reducible rfl
  try simp only [Act.put, List.setIfInBounds_toArray, List.set_cons_zero, List.set_cons_succ]
  refine any_take later_goes 9 ?_ ?_ (by simp only [List.getElem?_toArray, List.getElem?_cons_succ, List.getElem?_cons_zero]; exact rfl) (by kernel_rfl) (by kernel_rfl) (by kernel_rfl) (fun _ _ _ _ _ h => h) (by rfl) ?_ ?_
  rotate_left
  · intro wl hL
    have lf0 := a_keep hL f0; have lf1 := a_keep hL f1; have lf2 := a_keep hL f2; have lf3 := a_keep hL f3; have lf4 := a_keep hL f4
    go_simp
    try with_reducible rfl
  try simp only [Act.put, List.setIfInBounds_toArray, List.set_cons_zero, List.set_cons_succ]
  refine any_take later_goes 13 ?_ ?_ (by simp only [List.getElem?_toArray, List.getElem?_cons_succ, List.getElem?_cons_zero]; exact rfl) (by kernel_rfl) (by kernel_rfl) (by kernel_rfl) (fun _ _ _ _ _ h => h) (by rfl) ?_ ?_
  rotate_left
  · intro wl hL
    have lf0 := a_keep hL f0; have lf1 := a_keep hL f1; have lf2 := a_keep hL f2; have lf3 := a_keep hL f3; have lf4 := a_keep hL f4
    go_simp
    try with_reducible rfl
  try simp only [Act.put, List.setIfInBounds_toArray, List.set_cons_zero, List.set_cons_succ]
  refine any_take later_goes 14 ?_ ?_ (by simp only [List.getElem?_toArray, List.getElem?_cons_succ, List.getElem?_cons_zero]; exact rfl) (by kernel_rfl) (by kernel_rfl) (by kernel_rfl) (fun _ _ _ _ _ h => h) (by rfl) ?_ ?_
  rotate_left
  · intro wl hL
    have lf0 := a_keep hL f0; have lf1 := a_keep hL f1; have lf2 := a_keep hL f2; have lf3 := a_keep hL f3; have lf4 := a_keep hL f4
    go_simp
    try with_reducible rfl
  try simp only [Act.put, List.setIfInBounds_toArray, List.set_cons_zero, List.set_cons_succ]
  refine any_take later_goes 18 ?_ ?_ (by simp only [List.getElem?_toArray, List.getElem?_cons_succ, List.getElem?_cons_zero]; exact rfl) (by kernel_rfl) (by kernel_rfl) (by kernel_rfl) (fun _ _ _ _ _ h => h) (by rfl) ?_ ?_
  rotate_left
  · intro wl hL
    have lf0 := a_keep hL f0; have lf1 := a_keep hL f1; have lf2 := a_keep hL f2; have lf3 := a_keep hL f3; have lf4 := a_keep hL f4
    go_simp
    try with_reducible rfl
  try simp only [Act.put, List.setIfInBounds_toArray, List.set_cons_zero, List.set_cons_succ]
  refine any_take later_goes 19 ?_ ?_ (by simp only [List.getElem?_toArray, List.getElem?_cons_succ, List.getElem?_cons_zero]; exact rfl) (by kernel_rfl) (by kernel_rfl) (by kernel_rfl) (fun _ _ _ _ _ h => h) (by rfl) ?_ ?_
  rotate_left
  · intro wl hL
    have lf0 := a_keep hL f0; have lf1 := a_keep hL f1; have lf2 := a_keep hL f2; have lf3 := a_keep hL f3; have lf4 := a_keep hL f4
    go_simp
    try with_reducible rfl
  try simp only [Act.put, List.setIfInBounds_toArray, List.set_cons_zero, List.set_cons_succ]
  refine any_one 0 _ (by kernel_rfl) (by simp only [List.getElem?_toArray, List.getElem?_cons_succ, List.getElem?_cons_zero]; exact rfl) (fun K hK => ?_)
  go_simp
  refine (a_ops _).mono ?_
  rintro e wo ⟨g, rfl, hg, hgl, hBo⟩
  refine hK.out _ _ hBo ?_
  clear hK K
  try simp only [Act.put, List.setIfInBounds_toArray, List.set_cons_zero, List.set_cons_succ]
  have fg := strs_cell (n := 12) hg op o0 rfl (by omega) HSO.out
  replace hB0 := bthen hB0 hBo
  refine any_take later_goes 3 ?_ ?_ (by simp only [List.getElem?_toArray, List.getElem?_cons_succ, List.getElem?_cons_zero]; exact rfl) (by kernel_rfl) (by kernel_rfl) (by kernel_rfl) (fun _ _ _ _ _ h => h) (by rfl) ?_ ?_
  rotate_left
  · intro wl hL
    have lfg := a_keep hL fg
    go_simp
    try with_reducible rfl
  try simp only [Act.put, List.setIfInBounds_toArray, List.set_cons_zero, List.set_cons_succ]
  refine any_take later_goes 4 ?_ ?_ (by simp only [List.getElem?_toArray, List.getElem?_cons_succ, List.getElem?_cons_zero]; exact rfl) (by kernel_rfl) (by kernel_rfl) (by kernel_rfl) (fun _ _ _ _ _ h => h) (by rfl) ?_ ?_
  rotate_left
  · intro wl hL
    have lfg := a_keep hL fg
    go_simp
    try with_reducible rfl
  try simp only [Act.put, List.setIfInBounds_toArray, List.set_cons_zero, List.set_cons_succ]
  refine any_take later_goes 6 ?_ ?_ (by simp only [List.getElem?_toArray, List.getElem?_cons_succ, List.getElem?_cons_zero]; exact rfl) (by kernel_rfl) (by kernel_rfl) (by kernel_rfl) (fun _ _ _ _ _ h => h) (by rfl) ?_ ?_
  rotate_left
  · intro wl hL
    have lfg := a_keep hL fg
    go_simp
    try with_reducible rfl
  try simp only [Act.put, List.setIfInBounds_toArray, List.set_cons_zero, List.set_cons_succ]
  refine any_take later_goes 7 ?_ ?_ (by simp only [List.getElem?_toArray, List.getElem?_cons_succ, List.getElem?_cons_zero]; exact rfl) (by kernel_rfl) (by kernel_rfl) (by kernel_rfl) (fun _ _ _ _ _ h => h) (by rfl) ?_ ?_
  rotate_left
  · intro wl hL
    have lfg := a_keep hL fg
    go_simp
    try with_reducible rfl
  try simp only [Act.put, List.setIfInBounds_toArray, List.set_cons_zero, List.set_cons_succ]
  refine any_one 10 _ (by kernel_rfl) (by simp only [List.getElem?_toArray, List.getElem?_cons_succ, List.getElem?_cons_zero]; exact rfl) (fun K hK => ?_)
  go_simp
  refine (a_reg _ _ (by omega) (by omega)).mono ?_
  rintro e wr1 ⟨rfl, hBr⟩
  rw [HSA.out]
  refine hK.out _ _ hBr ?_
  clear hK K
  try simp only [Act.put, List.setIfInBounds_toArray, List.set_cons_zero, List.set_cons_succ]
  replace hB0 := bthen hB0 hBr
  clear hBr
  refine any_take later_goes 11 ?_ ?_ (by simp only [List.getElem?_toArray, List.getElem?_cons_succ, List.getElem?_cons_zero]; exact rfl) (by kernel_rfl) (by kernel_rfl) (by kernel_rfl) (fun _ _ _ _ _ h => h) (by rfl) ?_ ?_
  rotate_left
  · intro wl hL
    skip
    go_simp
    try with_reducible rfl
  try simp only [Act.put, List.setIfInBounds_toArray, List.set_cons_zero, List.set_cons_succ]
  refine any_take later_goes 12 ?_ ?_ (by simp only [List.getElem?_toArray, List.getElem?_cons_succ, List.getElem?_cons_zero]; exact rfl) (by kernel_rfl) (by kernel_rfl) (by kernel_rfl) (fun _ _ _ _ _ h => h) (by rfl) ?_ ?_
  rotate_left
  · intro wl hL
    skip
    go_simp
    try with_reducible rfl
  try simp only [Act.put, List.setIfInBounds_toArray, List.set_cons_zero, List.set_cons_succ]
  refine any_one 15 _ (by kernel_rfl) (by simp only [List.getElem?_toArray, List.getElem?_cons_succ, List.getElem?_cons_zero]; exact rfl) (fun K hK => ?_)
  go_simp
  refine (a_reg _ _ (by omega) (by omega)).mono ?_
  rintro e wr2 ⟨rfl, hBr⟩
  rw [HSB.out]
  refine hK.out _ _ hBr ?_
  clear hK K
  try simp only [Act.put, List.setIfInBounds_toArray, List.set_cons_zero, List.set_cons_succ]
  replace hB0 := bthen hB0 hBr
  clear hBr
  refine any_take later_goes 16 ?_ ?_ (by simp only [List.getElem?_toArray, List.getElem?_cons_succ, List.getElem?_cons_zero]; exact rfl) (by kernel_rfl) (by kernel_rfl) (by kernel_rfl) (fun _ _ _ _ _ h => h) (by rfl) ?_ ?_
  rotate_left
  · intro wl hL
    skip
    go_simp
    try with_reducible rfl
  try simp only [Act.put, List.setIfInBounds_toArray, List.set_cons_zero, List.set_cons_succ]
  refine any_take later_goes 17 ?_ ?_ (by simp only [List.getElem?_toArray, List.getElem?_cons_succ, List.getElem?_cons_zero]; exact rfl) (by kernel_rfl) (by kernel_rfl) (by kernel_rfl) (fun _ _ _ _ _ h => h) (by rfl) ?_ ?_
  rotate_left
  · intro wl hL
    skip
    go_simp
    try with_reducible rfl
  try simp only [Act.put, List.setIfInBounds_toArray, List.set_cons_zero, List.set_cons_succ]
  refine any_one 20 _ (by kernel_rfl) (by simp only [List.getElem?_toArray, List.getElem?_cons_succ, List.getElem?_cons_zero]; exact rfl) (fun K hK => ?_)
  go_simp
  refine (a_reg _ _ (by omega) (by omega)).mono ?_
  rintro e wr3 ⟨rfl, hBr⟩
  rw [HSC.out]
  refine hK.out _ _ hBr ?_
  clear hK K
  try simp only [Act.put, List.setIfInBounds_toArray, List.set_cons_zero, List.set_cons_succ]
  replace hB0 := bthen hB0 hBr
  clear hBr
  refine any_take later_goes 21 ?_ ?_ (by simp only [List.getElem?_toArray, List.getElem?_cons_succ, List.getElem?_cons_zero]; exact rfl) (by kernel_rfl) (by kernel_rfl) (by kernel_rfl) (fun _ _ _ _ _ h => h) (by rfl) ?_ ?_
  rotate_left
  · intro wl hL
    skip
    go_simp
    try with_reducible rfl
  try simp only [Act.put, List.setIfInBounds_toArray, List.set_cons_zero, List.set_cons_succ]
  refine any_take later_goes 22 ?_ ?_ (by simp only [List.getElem?_toArray, List.getElem?_cons_succ, List.getElem?_cons_zero]; exact rfl) (by kernel_rfl) (by kernel_rfl) (by kernel_rfl) (fun _ _ _ _ _ h => h) (by rfl) ?_ ?_
  rotate_left
  · intro wl hL
    skip
    go_simp
    try with_reducible rfl
  try simp only [Act.put, List.setIfInBounds_toArray, List.set_cons_zero, List.set_cons_succ]
  refine any_take later_goes 23 ?_ ?_ (by simp only [List.getElem?_toArray, List.getElem?_cons_succ, List.getElem?_cons_zero]; exact rfl) (by kernel_rfl) (by kernel_rfl) (by kernel_rfl) (fun _ _ _ _ _ h => h) (by rfl) ?_ ?_
  rotate_left
  · intro wl hL
    skip
    go_simp
    try with_reducible rfl
  try simp only [Act.put, List.setIfInBounds_toArray, List.set_cons_zero, List.set_cons_succ]
  refine any_done (by kernel_rfl) ?_ _
  go_wp2_with fail
  go_ret2
  exact ⟨by rw [HL.out, ← HF.out]; rfl, hB0⟩
set_option maxRecDepth 100000 in
set_option maxHeartbeats 8000000 in
theorem rline100 (x a b c op im : Int) (w : World) (h0 : 0 ≤ x) (h1 : x ≤ 4294967295) (hd : decW x = (⟨1, false, false, a, b, c, op, im⟩, 0)) (hl : lineW x = (lineI ⟨1, false, false, a, b, c, op, im⟩, 0))
    (a0 : 0 ≤ a) (a1 : a ≤ 15) (b0 : 0 ≤ b) (b1 : b ≤ 15) (c0 : 0 ≤ c) (c1 : c ≤ 15) (o0 : 0 ≤ op) (o1 : op ≤ 11) (i0 : -2147483648 < im) (i1 : im < 2147483648) : Calls Tryz.prog 22 #[.int .u32 x] w (AtLine x w) := by
  obtain ⟨SO, hSO⟩ : ∃ S : ByteArray, (⟨(opN op).toArray⟩ : ByteArray) = S := ⟨_, rfl⟩
  have zO : SO.size ≤ 3 := by rw [← hSO, size_mk]; exact opN_len op
  obtain ⟨SA, hSA⟩ : ∃ S : ByteArray, (⟨(regL a).toArray⟩ : ByteArray) = S := ⟨_, rfl⟩
  have zA : SA.size ≤ 21 := by rw [← hSA, size_mk]; exact regL_len (by omega) (by omega)
  obtain ⟨SB, hSB⟩ : ∃ S : ByteArray, (⟨(regL b).toArray⟩ : ByteArray) = S := ⟨_, rfl⟩
  have zB : SB.size ≤ 21 := by rw [← hSB, size_mk]; exact regL_len (by omega) (by omega)
  obtain ⟨SI, hSI⟩ : ∃ S : ByteArray, (⟨(Lib.itoa im).toArray⟩ : ByteArray) = S := ⟨_, rfl⟩
  have zI : SI.size ≤ 20 := by rw [← hSI, size_mk]; exact itoa_len i0 i1
  have y0 : ¬ (9223372036854775807 < SO.size + 1) := by omega
  have y1 : ¬ (9223372036854775807 < SO.size + 1 + SA.size) := by omega
  have y2 : ¬ (9223372036854775807 < SO.size + 1 + SA.size + 2) := by omega
  have y3 : ¬ (9223372036854775807 < SO.size + 1 + SA.size + 2 + SB.size) := by omega
  have y4 : ¬ (9223372036854775807 < SO.size + 1 + SA.size + 2 + SB.size + 2) := by omega
  have y5 : ¬ (9223372036854775807 < SO.size + 1 + SA.size + 2 + SB.size + 2 + SI.size) := by omega
  have y : ¬ (9223372036854775807 < SO.size) := by omega
  have hfin : SO ++ ((⟨#[]⟩ : ByteArray)) ++ (⟨#[32]⟩ : ByteArray) ++ SA ++ (⟨#[44, 32]⟩ : ByteArray) ++ SB ++ (⟨#[44, 32]⟩ : ByteArray) ++ SI = ⟨(lineI ⟨1, false, false, a, b, c, op, im⟩).toArray⟩ := by
    apply str_of
    rw [← hSO, ← hSA, ← hSB, ← hSI]
    simp [ByteArray.data_append, lineI, nameI, restI, markL, regL]
  have HSO := Lib.hid hSO
  have HSA := Lib.hid hSA
  have HSB := Lib.hid hSB
  have HSI := Lib.hid hSI
  have HF := Lib.hid hfin
  clear hfin hSO hSA hSB hSI
  have o2 : op < 12 := by omega
  have a2 : a < 16 := by omega
  have HD := Lib.hid hd
  have HL := Lib.hid hl
  clear hd hl
  go_enter Tryz.func22, Tryz.ntmps22
  go_wp2_with fail
  refine (rr_Decode x _ h0 h1).mono ?_
  rintro e w1 ⟨rfl, hB⟩
  rw [HD.out]
  simp only [insV_eq]
  go_wp2_with fail
  refine any_begin later_goes (by kernel_rfl) ?_
  generalize hW : World.drew _ = W0
  have hb : W0.heap[w1.heap.size]? = some (.cells #[.int .i64 1, .bool false, .bool false, .int .i64 a, .int .i64 b, .int .i64 c, .int .i64 op, .int .i64 im] 45 (0, 0)) := by rw [← hW]; exact b_new _ _
  obtain ⟨-, g1, -, f0, f1, f2, f3, f4⟩ := b_cells8 hb
  have hB0 : Below w.heap.size w W0 := by rw [← hW]; exact (bthen hB (ablow _ _)).drew
  clear hW hb
  refine any_take later_goes 1 ?_ ?_ (by simp only [List.getElem?_toArray, List.getElem?_cons_succ, List.getElem?_cons_zero]; exact rfl) (by kernel_rfl) (by kernel_rfl) (by kernel_rfl) (fun _ _ _ _ _ h => h) (by rfl) ?_ ?_
  rotate_left
  · intro wl hL
    have lf0 := a_keep hL f0; have lf1 := a_keep hL f1; have lf2 := a_keep hL f2; have lf3 := a_keep hL f3; have lf4 := a_keep hL f4
    go_simp
    try with_reducible rfl
  try simp only [Act.put, List.setIfInBounds_toArray, List.set_cons_zero, List.set_cons_succ]
  refine any_take later_goes 2 ?_ ?_ (by simp only [List.getElem?_toArray, List.getElem?_cons_succ, List.getElem?_cons_zero]; exact rfl) (by kernel_rfl) (by kernel_rfl) (by kernel_rfl) (fun _ _ _ _ _ h => h) (by rfl) ?_ ?_
  rotate_left
  · intro wl hL
    have lf0 := a_keep hL f0; have lf1 := a_keep hL f1; have lf2 := a_keep hL f2; have lf3 := a_keep hL f3; have lf4 := a_keep hL f4
    go_simp
    try with_reducible rfl
  try simp only [Act.put, List.setIfInBounds_toArray, List.set_cons_zero, List.set_cons_succ]
  refine any_take later_goes 5 ?_ ?_ (by simp only [List.getElem?_toArray, List.getElem?_cons_succ, List.getElem?_cons_zero]; exact rfl) (by kernel_rfl) (by kernel_rfl) (by kernel_rfl) (fun _ _ _ _ _ h => h) (by rfl) ?_ ?_
  rotate_left
  · intro wl hL
    have lf0 := a_keep hL f0; have lf1 := a_keep hL f1; have lf2 := a_keep hL f2; have lf3 := a_keep hL f3; have lf4 := a_keep hL f4
    go_simp
    try with_reducible rfl
  try simp only [Act.put, List.setIfInBounds_toArray, List.set_cons_zero, List.set_cons_succ]
  refine any_take later_goes 8 ?_ ?_ (by simp only [List.getElem?_toArray, List.getElem?_cons_succ, List.getElem?_cons_zero]; exact rfl) (by kernel_rfl) (by kernel_rfl) (by kernel_rfl) (fun _ _ _ _ _ h => h) (by rfl) ?_ ?_
  rotate_left
  · intro wl hL
    have lf0 := a_keep hL f0; have lf1 := a_keep hL f1; have lf2 := a_keep hL f2; have lf3 := a_keep hL f3; have lf4 := a_keep hL f4
    go_simp
    try with_reducible rfl
  try simp only [Act.put, List.setIfInBounds_toArray, List.set_cons_zero, List.set_cons_succ]
  refine any_take later_goes 9 ?_ ?_ (by simp only [List.getElem?_toArray, List.getElem?_cons_succ, List.getElem?_cons_zero]; exact rfl) (by kernel_rfl) (by kernel_rfl) (by kernel_rfl) (fun _ _ _ _ _ h => h) (by rfl) ?_ ?_
  rotate_left
  · intro wl hL
    have lf0 := a_keep hL f0; have lf1 := a_keep hL f1; have lf2 := a_keep hL f2; have lf3 := a_keep hL f3; have lf4 := a_keep hL f4
    go_simp
    try with_reducible rfl
  try simp only [Act.put, List.setIfInBounds_toArray, List.set_cons_zero, List.set_cons_succ]
  refine any_take later_goes 13 ?_ ?_ (by simp only [List.getElem?_toArray, List.getElem?_cons_succ, List.getElem?_cons_zero]; exact rfl) (by kernel_rfl) (by kernel_rfl) (by kernel_rfl) (fun _ _ _ _ _ h => h) (by rfl) ?_ ?_
  rotate_left
  · intro wl hL
    have lf0 := a_keep hL f0; have lf1 := a_keep hL f1; have lf2 := a_keep hL f2; have lf3 := a_keep hL f3; have lf4 := a_keep hL f4
    go_simp
    try with_reducible rfl
  try simp only [Act.put, List.setIfInBounds_toArray, List.set_cons_zero, List.set_cons_succ]
  refine any_take later_goes 14 ?_ ?_ (by simp only [List.getElem?_toArray, List.getElem?_cons_succ, List.getElem?_cons_zero]; exact rfl) (by kernel_rfl) (by kernel_rfl) (by kernel_rfl) (fun _ _ _ _ _ h => h) (by rfl) ?_ ?_
  rotate_left
  · intro wl hL
    have lf0 := a_keep hL f0; have lf1 := a_keep hL f1; have lf2 := a_keep hL f2; have lf3 := a_keep hL f3; have lf4 := a_keep hL f4
    go_simp
    try with_reducible rfl
  try simp only [Act.put, List.setIfInBounds_toArray, List.set_cons_zero, List.set_cons_succ]
  refine any_take later_goes 18 ?_ ?_ (by simp only [List.getElem?_toArray, List.getElem?_cons_succ, List.getElem?_cons_zero]; exact rfl) (by kernel_rfl) (by kernel_rfl) (by kernel_rfl) (fun _ _ _ _ _ h => h) (by rfl) ?_ ?_
  rotate_left
  · intro wl hL
    have lf0 := a_keep hL f0; have lf1 := a_keep hL f1; have lf2 := a_keep hL f2; have lf3 := a_keep hL f3; have lf4 := a_keep hL f4
    go_simp
    try with_reducible rfl
  try simp only [Act.put, List.setIfInBounds_toArray, List.set_cons_zero, List.set_cons_succ]
  refine any_take later_goes 19 ?_ ?_ (by simp only [List.getElem?_toArray, List.getElem?_cons_succ, List.getElem?_cons_zero]; exact rfl) (by kernel_rfl) (by kernel_rfl) (by kernel_rfl) (fun _ _ _ _ _ h => h) (by rfl) ?_ ?_
  rotate_left
  · intro wl hL
    have lf0 := a_keep hL f0; have lf1 := a_keep hL f1; have lf2 := a_keep hL f2; have lf3 := a_keep hL f3; have lf4 := a_keep hL f4
    go_simp
    try with_reducible rfl
  try simp only [Act.put, List.setIfInBounds_toArray, List.set_cons_zero, List.set_cons_succ]
  refine any_one 0 _ (by kernel_rfl) (by simp only [List.getElem?_toArray, List.getElem?_cons_succ, List.getElem?_cons_zero]; exact rfl) (fun K hK => ?_)
  go_simp
  refine (a_ops _).mono ?_
  rintro e wo ⟨g, rfl, hg, hgl, hBo⟩
  refine hK.out _ _ hBo ?_
  clear hK K
  try simp only [Act.put, List.setIfInBounds_toArray, List.set_cons_zero, List.set_cons_succ]
  have fg := strs_cell (n := 12) hg op o0 rfl (by omega) HSO.out
  replace hB0 := bthen hB0 hBo
  refine any_take later_goes 3 ?_ ?_ (by simp only [List.getElem?_toArray, List.getElem?_cons_succ, List.getElem?_cons_zero]; exact rfl) (by kernel_rfl) (by kernel_rfl) (by kernel_rfl) (fun _ _ _ _ _ h => h) (by rfl) ?_ ?_
  rotate_left
  · intro wl hL
    have lfg := a_keep hL fg
    go_simp
    try with_reducible rfl
  try simp only [Act.put, List.setIfInBounds_toArray, List.set_cons_zero, List.set_cons_succ]
  refine any_take later_goes 4 ?_ ?_ (by simp only [List.getElem?_toArray, List.getElem?_cons_succ, List.getElem?_cons_zero]; exact rfl) (by kernel_rfl) (by kernel_rfl) (by kernel_rfl) (fun _ _ _ _ _ h => h) (by rfl) ?_ ?_
  rotate_left
  · intro wl hL
    have lfg := a_keep hL fg
    go_simp
    try with_reducible rfl
  try simp only [Act.put, List.setIfInBounds_toArray, List.set_cons_zero, List.set_cons_succ]
  refine any_take later_goes 6 ?_ ?_ (by simp only [List.getElem?_toArray, List.getElem?_cons_succ, List.getElem?_cons_zero]; exact rfl) (by kernel_rfl) (by kernel_rfl) (by kernel_rfl) (fun _ _ _ _ _ h => h) (by rfl) ?_ ?_
  rotate_left
  · intro wl hL
    have lfg := a_keep hL fg
    go_simp
    try with_reducible rfl
  try simp only [Act.put, List.setIfInBounds_toArray, List.set_cons_zero, List.set_cons_succ]
  refine any_take later_goes 7 ?_ ?_ (by simp only [List.getElem?_toArray, List.getElem?_cons_succ, List.getElem?_cons_zero]; exact rfl) (by kernel_rfl) (by kernel_rfl) (by kernel_rfl) (fun _ _ _ _ _ h => h) (by rfl) ?_ ?_
  rotate_left
  · intro wl hL
    have lfg := a_keep hL fg
    go_simp
    try with_reducible rfl
  try simp only [Act.put, List.setIfInBounds_toArray, List.set_cons_zero, List.set_cons_succ]
  refine any_one 10 _ (by kernel_rfl) (by simp only [List.getElem?_toArray, List.getElem?_cons_succ, List.getElem?_cons_zero]; exact rfl) (fun K hK => ?_)
  go_simp
  refine (a_reg _ _ (by omega) (by omega)).mono ?_
  rintro e wr1 ⟨rfl, hBr⟩
  rw [HSA.out]
  refine hK.out _ _ hBr ?_
  clear hK K
  try simp only [Act.put, List.setIfInBounds_toArray, List.set_cons_zero, List.set_cons_succ]
  replace hB0 := bthen hB0 hBr
  clear hBr
  refine any_take later_goes 11 ?_ ?_ (by simp only [List.getElem?_toArray, List.getElem?_cons_succ, List.getElem?_cons_zero]; exact rfl) (by kernel_rfl) (by kernel_rfl) (by kernel_rfl) (fun _ _ _ _ _ h => h) (by rfl) ?_ ?_
  rotate_left
  · intro wl hL
    skip
    go_simp
    try with_reducible rfl
  try simp only [Act.put, List.setIfInBounds_toArray, List.set_cons_zero, List.set_cons_succ]
  refine any_take later_goes 12 ?_ ?_ (by simp only [List.getElem?_toArray, List.getElem?_cons_succ, List.getElem?_cons_zero]; exact rfl) (by kernel_rfl) (by kernel_rfl) (by kernel_rfl) (fun _ _ _ _ _ h => h) (by rfl) ?_ ?_
  rotate_left
  · intro wl hL
    skip
    go_simp
    try with_reducible rfl
  try simp only [Act.put, List.setIfInBounds_toArray, List.set_cons_zero, List.set_cons_succ]
  refine any_one 15 _ (by kernel_rfl) (by simp only [List.getElem?_toArray, List.getElem?_cons_succ, List.getElem?_cons_zero]; exact rfl) (fun K hK => ?_)
  go_simp
  refine (a_reg _ _ (by omega) (by omega)).mono ?_
  rintro e wr2 ⟨rfl, hBr⟩
  rw [HSB.out]
  refine hK.out _ _ hBr ?_
  clear hK K
  try simp only [Act.put, List.setIfInBounds_toArray, List.set_cons_zero, List.set_cons_succ]
  replace hB0 := bthen hB0 hBr
  clear hBr
  refine any_take later_goes 16 ?_ ?_ (by simp only [List.getElem?_toArray, List.getElem?_cons_succ, List.getElem?_cons_zero]; exact rfl) (by kernel_rfl) (by kernel_rfl) (by kernel_rfl) (fun _ _ _ _ _ h => h) (by rfl) ?_ ?_
  rotate_left
  · intro wl hL
    skip
    go_simp
    try with_reducible rfl
  try simp only [Act.put, List.setIfInBounds_toArray, List.set_cons_zero, List.set_cons_succ]
  refine any_take later_goes 17 ?_ ?_ (by simp only [List.getElem?_toArray, List.getElem?_cons_succ, List.getElem?_cons_zero]; exact rfl) (by kernel_rfl) (by kernel_rfl) (by kernel_rfl) (fun _ _ _ _ _ h => h) (by rfl) ?_ ?_
  rotate_left
  · intro wl hL
    skip
    go_simp
    try with_reducible rfl
  try simp only [Act.put, List.setIfInBounds_toArray, List.set_cons_zero, List.set_cons_succ]
  refine any_one 20 _ (by kernel_rfl) (by simp only [List.getElem?_toArray, List.getElem?_cons_succ, List.getElem?_cons_zero]; exact rfl) (fun K hK => ?_)
  go_simp
  refine (a_Dec _ _ i0 i1).mono ?_
  rintro e wr3 ⟨rfl, hBr⟩
  rw [HSI.out]
  refine hK.out _ _ hBr ?_
  clear hK K
  try simp only [Act.put, List.setIfInBounds_toArray, List.set_cons_zero, List.set_cons_succ]
  replace hB0 := bthen hB0 hBr
  clear hBr
  refine any_take later_goes 21 ?_ ?_ (by simp only [List.getElem?_toArray, List.getElem?_cons_succ, List.getElem?_cons_zero]; exact rfl) (by kernel_rfl) (by kernel_rfl) (by kernel_rfl) (fun _ _ _ _ _ h => h) (by rfl) ?_ ?_
  rotate_left
  · intro wl hL
    skip
    go_simp
    try with_reducible rfl
  try simp only [Act.put, List.setIfInBounds_toArray, List.set_cons_zero, List.set_cons_succ]
  refine any_take later_goes 22 ?_ ?_ (by simp only [List.getElem?_toArray, List.getElem?_cons_succ, List.getElem?_cons_zero]; exact rfl) (by kernel_rfl) (by kernel_rfl) (by kernel_rfl) (fun _ _ _ _ _ h => h) (by rfl) ?_ ?_
  rotate_left
  · intro wl hL
    skip
    go_simp
    try with_reducible rfl
  try simp only [Act.put, List.setIfInBounds_toArray, List.set_cons_zero, List.set_cons_succ]
  refine any_take later_goes 23 ?_ ?_ (by simp only [List.getElem?_toArray, List.getElem?_cons_succ, List.getElem?_cons_zero]; exact rfl) (by kernel_rfl) (by kernel_rfl) (by kernel_rfl) (fun _ _ _ _ _ h => h) (by rfl) ?_ ?_
  rotate_left
  · intro wl hL
    skip
    go_simp
    try with_reducible rfl
  try simp only [Act.put, List.setIfInBounds_toArray, List.set_cons_zero, List.set_cons_succ]
  refine any_done (by kernel_rfl) ?_ _
  go_wp2_with fail
  go_ret2
  exact ⟨by rw [HL.out, ← HF.out]; rfl, hB0⟩
set_option maxRecDepth 100000 in
set_option maxHeartbeats 8000000 in
theorem rline101 (x a b c op im : Int) (w : World) (h0 : 0 ≤ x) (h1 : x ≤ 4294967295) (hd : decW x = (⟨1, false, true, a, b, c, op, im⟩, 0)) (hl : lineW x = (lineI ⟨1, false, true, a, b, c, op, im⟩, 0))
    (a0 : 0 ≤ a) (a1 : a ≤ 15) (b0 : 0 ≤ b) (b1 : b ≤ 15) (c0 : 0 ≤ c) (c1 : c ≤ 15) (o0 : 0 ≤ op) (o1 : op ≤ 11) (i0 : -2147483648 < im) (i1 : im < 2147483648) : Calls Tryz.prog 22 #[.int .u32 x] w (AtLine x w) := by
  obtain ⟨SO, hSO⟩ : ∃ S : ByteArray, (⟨(opN op).toArray⟩ : ByteArray) = S := ⟨_, rfl⟩
  have zO : SO.size ≤ 3 := by rw [← hSO, size_mk]; exact opN_len op
  obtain ⟨SA, hSA⟩ : ∃ S : ByteArray, (⟨(regL a).toArray⟩ : ByteArray) = S := ⟨_, rfl⟩
  have zA : SA.size ≤ 21 := by rw [← hSA, size_mk]; exact regL_len (by omega) (by omega)
  obtain ⟨SB, hSB⟩ : ∃ S : ByteArray, (⟨(regL b).toArray⟩ : ByteArray) = S := ⟨_, rfl⟩
  have zB : SB.size ≤ 21 := by rw [← hSB, size_mk]; exact regL_len (by omega) (by omega)
  obtain ⟨SI, hSI⟩ : ∃ S : ByteArray, (⟨(Lib.itoa im).toArray⟩ : ByteArray) = S := ⟨_, rfl⟩
  have zI : SI.size ≤ 20 := by rw [← hSI, size_mk]; exact itoa_len i0 i1
  have y0 : ¬ (9223372036854775807 < SO.size + 1) := by omega
  have y1 : ¬ (9223372036854775807 < SO.size + 1 + 1) := by omega
  have y2 : ¬ (9223372036854775807 < SO.size + 1 + 1 + SA.size) := by omega
  have y3 : ¬ (9223372036854775807 < SO.size + 1 + 1 + SA.size + 2) := by omega
  have y4 : ¬ (9223372036854775807 < SO.size + 1 + 1 + SA.size + 2 + SB.size) := by omega
  have y5 : ¬ (9223372036854775807 < SO.size + 1 + 1 + SA.size + 2 + SB.size + 2) := by omega
  have y6 : ¬ (9223372036854775807 < SO.size + 1 + 1 + SA.size + 2 + SB.size + 2 + SI.size) := by omega
  have hfin : SO ++ ((⟨#[]⟩ : ByteArray) ++ (⟨#[34]⟩ : ByteArray)) ++ (⟨#[32]⟩ : ByteArray) ++ SA ++ (⟨#[44, 32]⟩ : ByteArray) ++ SB ++ (⟨#[44, 32]⟩ : ByteArray) ++ SI = ⟨(lineI ⟨1, false, true, a, b, c, op, im⟩).toArray⟩ := by
    apply str_of
    rw [← hSO, ← hSA, ← hSB, ← hSI]
    simp [ByteArray.data_append, lineI, nameI, restI, markL, regL]
  have HSO := Lib.hid hSO
  have HSA := Lib.hid hSA
  have HSB := Lib.hid hSB
  have HSI := Lib.hid hSI
  have HF := Lib.hid hfin
  clear hfin hSO hSA hSB hSI
  have o2 : op < 12 := by omega
  have a2 : a < 16 := by omega
  have HD := Lib.hid hd
  have HL := Lib.hid hl
  clear hd hl
  go_enter Tryz.func22, Tryz.ntmps22
  go_wp2_with fail
  refine (rr_Decode x _ h0 h1).mono ?_
  rintro e w1 ⟨rfl, hB⟩
  rw [HD.out]
  simp only [insV_eq]
  go_wp2_with fail
  refine any_begin later_goes (by kernel_rfl) ?_
  generalize hW : World.drew _ = W0
  have hb : W0.heap[w1.heap.size]? = some (.cells #[.int .i64 1, .bool false, .bool true, .int .i64 a, .int .i64 b, .int .i64 c, .int .i64 op, .int .i64 im] 45 (0, 0)) := by rw [← hW]; exact b_new _ _
  obtain ⟨-, g1, -, f0, f1, f2, f3, f4⟩ := b_cells8 hb
  have hB0 : Below w.heap.size w W0 := by rw [← hW]; exact (bthen hB (ablow _ _)).drew
  clear hW hb
  refine any_take later_goes 1 ?_ ?_ (by simp only [List.getElem?_toArray, List.getElem?_cons_succ, List.getElem?_cons_zero]; exact rfl) (by kernel_rfl) (by kernel_rfl) (by kernel_rfl) (fun _ _ _ _ _ h => h) (by rfl) ?_ ?_
  rotate_left
  · intro wl hL
    have lf0 := a_keep hL f0; have lf1 := a_keep hL f1; have lf2 := a_keep hL f2; have lf3 := a_keep hL f3; have lf4 := a_keep hL f4
    go_simp
    try with_reducible rfl
  try simp only [Act.put, List.setIfInBounds_toArray, List.set_cons_zero, List.set_cons_succ]
  refine any_take later_goes 2 ?_ ?_ (by simp only [List.getElem?_toArray, List.getElem?_cons_succ, List.getElem?_cons_zero]; exact rfl) (by kernel_rfl) (by kernel_rfl) (by kernel_rfl) (fun _ _ _ _ _ h => h) (by rfl) ?_ ?_
  rotate_left
  · intro wl hL
    have lf0 := a_keep hL f0; have lf1 := a_keep hL f1; have lf2 := a_keep hL f2; have lf3 := a_keep hL f3; have lf4 := a_keep hL f4
    go_simp
    try with_reducible rfl
  try simp only [Act.put, List.setIfInBounds_toArray, List.set_cons_zero, List.set_cons_succ]
  refine any_take later_goes 5 ?_ ?_ (by simp only [List.getElem?_toArray, List.getElem?_cons_succ, List.getElem?_cons_zero]; exact rfl) (by kernel_rfl) (by kernel_rfl) (by kernel_rfl) (fun _ _ _ _ _ h => h) (by rfl) ?_ ?_
  rotate_left
  · intro wl hL
    have lf0 := a_keep hL f0; have lf1 := a_keep hL f1; have lf2 := a_keep hL f2; have lf3 := a_keep hL f3; have lf4 := a_keep hL f4
    go_simp
    try with_reducible rfl
  try simp only [Act.put, List.setIfInBounds_toArray, List.set_cons_zero, List.set_cons_succ]
  refine any_take later_goes 8 ?_ ?_ (by simp only [List.getElem?_toArray, List.getElem?_cons_succ, List.getElem?_cons_zero]; exact rfl) (by kernel_rfl) (by kernel_rfl) (by kernel_rfl) (fun _ _ _ _ _ h => h) (by rfl) ?_ ?_
  rotate_left
  · intro wl hL
    have lf0 := a_keep hL f0; have lf1 := a_keep hL f1; have lf2 := a_keep hL f2; have lf3 := a_keep hL f3; have lf4 := a_keep hL f4
    go_simp
    try with_reducible rfl
  try simp only [Act.put, List.setIfInBounds_toArray, List.set_cons_zero, List.set_cons_succ]
  refine any_take later_goes 9 ?_ ?_ (by simp only [List.getElem?_toArray, List.getElem?_cons_succ, List.getElem?_cons_zero]; exact rfl) (by kernel_rfl) (by kernel_rfl) (by kernel_rfl) (fun _ _ _ _ _ h => h) (by rfl) ?_ ?_
  rotate_left
  · intro wl hL
    have lf0 := a_keep hL f0; have lf1 := a_keep hL f1; have lf2 := a_keep hL f2; have lf3 := a_keep hL f3; have lf4 := a_keep hL f4
    go_simp
    try with_reducible rfl
  try simp only [Act.put, List.setIfInBounds_toArray, List.set_cons_zero, List.set_cons_succ]
  refine any_take later_goes 13 ?_ ?_ (by simp only [List.getElem?_toArray, List.getElem?_cons_succ, List.getElem?_cons_zero]; exact rfl) (by kernel_rfl) (by kernel_rfl) (by kernel_rfl) (fun _ _ _ _ _ h => h) (by rfl) ?_ ?_
  rotate_left
  · intro wl hL
    have lf0 := a_keep hL f0; have lf1 := a_keep hL f1; have lf2 := a_keep hL f2; have lf3 := a_keep hL f3; have lf4 := a_keep hL f4
    go_simp
    try with_reducible rfl
  try simp only [Act.put, List.setIfInBounds_toArray, List.set_cons_zero, List.set_cons_succ]
  refine any_take later_goes 14 ?_ ?_ (by simp only [List.getElem?_toArray, List.getElem?_cons_succ, List.getElem?_cons_zero]; exact rfl) (by kernel_rfl) (by kernel_rfl) (by kernel_rfl) (fun _ _ _ _ _ h => h) (by rfl) ?_ ?_
  rotate_left
  · intro wl hL
    have lf0 := a_keep hL f0; have lf1 := a_keep hL f1; have lf2 := a_keep hL f2; have lf3 := a_keep hL f3; have lf4 := a_keep hL f4
    go_simp
    try with_reducible rfl
  try simp only [Act.put, List.setIfInBounds_toArray, List.set_cons_zero, List.set_cons_succ]
  refine any_take later_goes 18 ?_ ?_ (by simp only [List.getElem?_toArray, List.getElem?_cons_succ, List.getElem?_cons_zero]; exact rfl) (by kernel_rfl) (by kernel_rfl) (by kernel_rfl) (fun _ _ _ _ _ h => h) (by rfl) ?_ ?_
  rotate_left
  · intro wl hL
    have lf0 := a_keep hL f0; have lf1 := a_keep hL f1; have lf2 := a_keep hL f2; have lf3 := a_keep hL f3; have lf4 := a_keep hL f4
    go_simp
    try with_reducible rfl
  try simp only [Act.put, List.setIfInBounds_toArray, List.set_cons_zero, List.set_cons_succ]
  refine any_take later_goes 19 ?_ ?_ (by simp only [List.getElem?_toArray, List.getElem?_cons_succ, List.getElem?_cons_zero]; exact rfl) (by kernel_rfl) (by kernel_rfl) (by kernel_rfl) (fun _ _ _ _ _ h => h) (by rfl) ?_ ?_
  rotate_left
  · intro wl hL
    have lf0 := a_keep hL f0; have lf1 := a_keep hL f1; have lf2 := a_keep hL f2; have lf3 := a_keep hL f3; have lf4 := a_keep hL f4
    go_simp
    try with_reducible rfl
  try simp only [Act.put, List.setIfInBounds_toArray, List.set_cons_zero, List.set_cons_succ]
  refine any_one 0 _ (by kernel_rfl) (by simp only [List.getElem?_toArray, List.getElem?_cons_succ, List.getElem?_cons_zero]; exact rfl) (fun K hK => ?_)
  go_simp
  refine (a_ops _).mono ?_
  rintro e wo ⟨g, rfl, hg, hgl, hBo⟩
  refine hK.out _ _ hBo ?_
  clear hK K
  try simp only [Act.put, List.setIfInBounds_toArray, List.set_cons_zero, List.set_cons_succ]
  have fg := strs_cell (n := 12) hg op o0 rfl (by omega) HSO.out
  replace hB0 := bthen hB0 hBo
  refine any_take later_goes 3 ?_ ?_ (by simp only [List.getElem?_toArray, List.getElem?_cons_succ, List.getElem?_cons_zero]; exact rfl) (by kernel_rfl) (by kernel_rfl) (by kernel_rfl) (fun _ _ _ _ _ h => h) (by rfl) ?_ ?_
  rotate_left
  · intro wl hL
    have lfg := a_keep hL fg
    go_simp
    try with_reducible rfl
  try simp only [Act.put, List.setIfInBounds_toArray, List.set_cons_zero, List.set_cons_succ]
  refine any_take later_goes 4 ?_ ?_ (by simp only [List.getElem?_toArray, List.getElem?_cons_succ, List.getElem?_cons_zero]; exact rfl) (by kernel_rfl) (by kernel_rfl) (by kernel_rfl) (fun _ _ _ _ _ h => h) (by rfl) ?_ ?_
  rotate_left
  · intro wl hL
    have lfg := a_keep hL fg
    go_simp
    try with_reducible rfl
  try simp only [Act.put, List.setIfInBounds_toArray, List.set_cons_zero, List.set_cons_succ]
  refine any_take later_goes 6 ?_ ?_ (by simp only [List.getElem?_toArray, List.getElem?_cons_succ, List.getElem?_cons_zero]; exact rfl) (by kernel_rfl) (by kernel_rfl) (by kernel_rfl) (fun _ _ _ _ _ h => h) (by rfl) ?_ ?_
  rotate_left
  · intro wl hL
    have lfg := a_keep hL fg
    go_simp
    try with_reducible rfl
  try simp only [Act.put, List.setIfInBounds_toArray, List.set_cons_zero, List.set_cons_succ]
  refine any_take later_goes 7 ?_ ?_ (by simp only [List.getElem?_toArray, List.getElem?_cons_succ, List.getElem?_cons_zero]; exact rfl) (by kernel_rfl) (by kernel_rfl) (by kernel_rfl) (fun _ _ _ _ _ h => h) (by rfl) ?_ ?_
  rotate_left
  · intro wl hL
    have lfg := a_keep hL fg
    go_simp
    try with_reducible rfl
  try simp only [Act.put, List.setIfInBounds_toArray, List.set_cons_zero, List.set_cons_succ]
  refine any_one 10 _ (by kernel_rfl) (by simp only [List.getElem?_toArray, List.getElem?_cons_succ, List.getElem?_cons_zero]; exact rfl) (fun K hK => ?_)
  go_simp
  refine (a_reg _ _ (by omega) (by omega)).mono ?_
  rintro e wr1 ⟨rfl, hBr⟩
  rw [HSA.out]
  refine hK.out _ _ hBr ?_
  clear hK K
  try simp only [Act.put, List.setIfInBounds_toArray, List.set_cons_zero, List.set_cons_succ]
  replace hB0 := bthen hB0 hBr
  clear hBr
  refine any_take later_goes 11 ?_ ?_ (by simp only [List.getElem?_toArray, List.getElem?_cons_succ, List.getElem?_cons_zero]; exact rfl) (by kernel_rfl) (by kernel_rfl) (by kernel_rfl) (fun _ _ _ _ _ h => h) (by rfl) ?_ ?_
  rotate_left
  · intro wl hL
    skip
    go_simp
    try with_reducible rfl
  try simp only [Act.put, List.setIfInBounds_toArray, List.set_cons_zero, List.set_cons_succ]
  refine any_take later_goes 12 ?_ ?_ (by simp only [List.getElem?_toArray, List.getElem?_cons_succ, List.getElem?_cons_zero]; exact rfl) (by kernel_rfl) (by kernel_rfl) (by kernel_rfl) (fun _ _ _ _ _ h => h) (by rfl) ?_ ?_
  rotate_left
  · intro wl hL
    skip
    go_simp
    try with_reducible rfl
  try simp only [Act.put, List.setIfInBounds_toArray, List.set_cons_zero, List.set_cons_succ]
  refine any_one 15 _ (by kernel_rfl) (by simp only [List.getElem?_toArray, List.getElem?_cons_succ, List.getElem?_cons_zero]; exact rfl) (fun K hK => ?_)
  go_simp
  refine (a_reg _ _ (by omega) (by omega)).mono ?_
  rintro e wr2 ⟨rfl, hBr⟩
  rw [HSB.out]
  refine hK.out _ _ hBr ?_
  clear hK K
  try simp only [Act.put, List.setIfInBounds_toArray, List.set_cons_zero, List.set_cons_succ]
  replace hB0 := bthen hB0 hBr
  clear hBr
  refine any_take later_goes 16 ?_ ?_ (by simp only [List.getElem?_toArray, List.getElem?_cons_succ, List.getElem?_cons_zero]; exact rfl) (by kernel_rfl) (by kernel_rfl) (by kernel_rfl) (fun _ _ _ _ _ h => h) (by rfl) ?_ ?_
  rotate_left
  · intro wl hL
    skip
    go_simp
    try with_reducible rfl
  try simp only [Act.put, List.setIfInBounds_toArray, List.set_cons_zero, List.set_cons_succ]
  refine any_take later_goes 17 ?_ ?_ (by simp only [List.getElem?_toArray, List.getElem?_cons_succ, List.getElem?_cons_zero]; exact rfl) (by kernel_rfl) (by kernel_rfl) (by kernel_rfl) (fun _ _ _ _ _ h => h) (by rfl) ?_ ?_
  rotate_left
  · intro wl hL
    skip
    go_simp
    try with_reducible rfl
  try simp only [Act.put, List.setIfInBounds_toArray, List.set_cons_zero, List.set_cons_succ]
  refine any_one 20 _ (by kernel_rfl) (by simp only [List.getElem?_toArray, List.getElem?_cons_succ, List.getElem?_cons_zero]; exact rfl) (fun K hK => ?_)
  go_simp
  refine (a_Dec _ _ i0 i1).mono ?_
  rintro e wr3 ⟨rfl, hBr⟩
  rw [HSI.out]
  refine hK.out _ _ hBr ?_
  clear hK K
  try simp only [Act.put, List.setIfInBounds_toArray, List.set_cons_zero, List.set_cons_succ]
  replace hB0 := bthen hB0 hBr
  clear hBr
  refine any_take later_goes 21 ?_ ?_ (by simp only [List.getElem?_toArray, List.getElem?_cons_succ, List.getElem?_cons_zero]; exact rfl) (by kernel_rfl) (by kernel_rfl) (by kernel_rfl) (fun _ _ _ _ _ h => h) (by rfl) ?_ ?_
  rotate_left
  · intro wl hL
    skip
    go_simp
    try with_reducible rfl
  try simp only [Act.put, List.setIfInBounds_toArray, List.set_cons_zero, List.set_cons_succ]
  refine any_take later_goes 22 ?_ ?_ (by simp only [List.getElem?_toArray, List.getElem?_cons_succ, List.getElem?_cons_zero]; exact rfl) (by kernel_rfl) (by kernel_rfl) (by kernel_rfl) (fun _ _ _ _ _ h => h) (by rfl) ?_ ?_
  rotate_left
  · intro wl hL
    skip
    go_simp
    try with_reducible rfl
  try simp only [Act.put, List.setIfInBounds_toArray, List.set_cons_zero, List.set_cons_succ]
  refine any_take later_goes 23 ?_ ?_ (by simp only [List.getElem?_toArray, List.getElem?_cons_succ, List.getElem?_cons_zero]; exact rfl) (by kernel_rfl) (by kernel_rfl) (by kernel_rfl) (fun _ _ _ _ _ h => h) (by rfl) ?_ ?_
  rotate_left
  · intro wl hL
    skip
    go_simp
    try with_reducible rfl
  try simp only [Act.put, List.setIfInBounds_toArray, List.set_cons_zero, List.set_cons_succ]
  refine any_done (by kernel_rfl) ?_ _
  go_wp2_with fail
  go_ret2
  exact ⟨by rw [HL.out, ← HF.out]; rfl, hB0⟩
set_option maxRecDepth 100000 in
set_option maxHeartbeats 8000000 in
theorem rline110 (x a b c op im : Int) (w : World) (h0 : 0 ≤ x) (h1 : x ≤ 4294967295) (hd : decW x = (⟨1, true, false, a, b, c, op, im⟩, 0)) (hl : lineW x = (lineI ⟨1, true, false, a, b, c, op, im⟩, 0))
    (a0 : 0 ≤ a) (a1 : a ≤ 15) (b0 : 0 ≤ b) (b1 : b ≤ 15) (c0 : 0 ≤ c) (c1 : c ≤ 15) (o0 : 0 ≤ op) (o1 : op ≤ 11) (i0 : -2147483648 < im) (i1 : im < 2147483648) : Calls Tryz.prog 22 #[.int .u32 x] w (AtLine x w) := by
  obtain ⟨SO, hSO⟩ : ∃ S : ByteArray, (⟨(opN op).toArray⟩ : ByteArray) = S := ⟨_, rfl⟩
  have zO : SO.size ≤ 3 := by rw [← hSO, size_mk]; exact opN_len op
  obtain ⟨SA, hSA⟩ : ∃ S : ByteArray, (⟨(regL a).toArray⟩ : ByteArray) = S := ⟨_, rfl⟩
  have zA : SA.size ≤ 21 := by rw [← hSA, size_mk]; exact regL_len (by omega) (by omega)
  obtain ⟨SB, hSB⟩ : ∃ S : ByteArray, (⟨(regL b).toArray⟩ : ByteArray) = S := ⟨_, rfl⟩
  have zB : SB.size ≤ 21 := by rw [← hSB, size_mk]; exact regL_len (by omega) (by omega)
  obtain ⟨SI, hSI⟩ : ∃ S : ByteArray, (⟨(Lib.itoa im).toArray⟩ : ByteArray) = S := ⟨_, rfl⟩
  have zI : SI.size ≤ 20 := by rw [← hSI, size_mk]; exact itoa_len i0 i1
  have y0 : ¬ (9223372036854775807 < SO.size + 1) := by omega
  have y1 : ¬ (9223372036854775807 < SO.size + 1 + 1) := by omega
  have y2 : ¬ (9223372036854775807 < SO.size + 1 + 1 + SA.size) := by omega
  have y3 : ¬ (9223372036854775807 < SO.size + 1 + 1 + SA.size + 2) := by omega
  have y4 : ¬ (9223372036854775807 < SO.size + 1 + 1 + SA.size + 2 + SB.size) := by omega
  have y5 : ¬ (9223372036854775807 < SO.size + 1 + 1 + SA.size + 2 + SB.size + 2) := by omega
  have y6 : ¬ (9223372036854775807 < SO.size + 1 + 1 + SA.size + 2 + SB.size + 2 + SI.size) := by omega
  have hfin : SO ++ ((⟨#[]⟩ : ByteArray) ++ (⟨#[39]⟩ : ByteArray)) ++ (⟨#[32]⟩ : ByteArray) ++ SA ++ (⟨#[44, 32]⟩ : ByteArray) ++ SB ++ (⟨#[44, 32]⟩ : ByteArray) ++ SI = ⟨(lineI ⟨1, true, false, a, b, c, op, im⟩).toArray⟩ := by
    apply str_of
    rw [← hSO, ← hSA, ← hSB, ← hSI]
    simp [ByteArray.data_append, lineI, nameI, restI, markL, regL]
  have HSO := Lib.hid hSO
  have HSA := Lib.hid hSA
  have HSB := Lib.hid hSB
  have HSI := Lib.hid hSI
  have HF := Lib.hid hfin
  clear hfin hSO hSA hSB hSI
  have o2 : op < 12 := by omega
  have a2 : a < 16 := by omega
  have HD := Lib.hid hd
  have HL := Lib.hid hl
  clear hd hl
  go_enter Tryz.func22, Tryz.ntmps22
  go_wp2_with fail
  refine (rr_Decode x _ h0 h1).mono ?_
  rintro e w1 ⟨rfl, hB⟩
  rw [HD.out]
  simp only [insV_eq]
  go_wp2_with fail
  refine any_begin later_goes (by kernel_rfl) ?_
  generalize hW : World.drew _ = W0
  have hb : W0.heap[w1.heap.size]? = some (.cells #[.int .i64 1, .bool true, .bool false, .int .i64 a, .int .i64 b, .int .i64 c, .int .i64 op, .int .i64 im] 45 (0, 0)) := by rw [← hW]; exact b_new _ _
  obtain ⟨-, g1, -, f0, f1, f2, f3, f4⟩ := b_cells8 hb
  have hB0 : Below w.heap.size w W0 := by rw [← hW]; exact (bthen hB (ablow _ _)).drew
  clear hW hb
  refine any_take later_goes 1 ?_ ?_ (by simp only [List.getElem?_toArray, List.getElem?_cons_succ, List.getElem?_cons_zero]; exact rfl) (by kernel_rfl) (by kernel_rfl) (by kernel_rfl) (fun _ _ _ _ _ h => h) (by rfl) ?_ ?_
  rotate_left
  · intro wl hL
    have lf0 := a_keep hL f0; have lf1 := a_keep hL f1; have lf2 := a_keep hL f2; have lf3 := a_keep hL f3; have lf4 := a_keep hL f4
    go_simp
    try with_reducible rfl
  try simp only [Act.put, List.setIfInBounds_toArray, List.set_cons_zero, List.set_cons_succ]
  refine any_take later_goes 2 ?_ ?_ (by simp only [List.getElem?_toArray, List.getElem?_cons_succ, List.getElem?_cons_zero]; exact rfl) (by kernel_rfl) (by kernel_rfl) (by kernel_rfl) (fun _ _ _ _ _ h => h) (by rfl) ?_ ?_
  rotate_left
  · intro wl hL
    have lf0 := a_keep hL f0; have lf1 := a_keep hL f1; have lf2 := a_keep hL f2; have lf3 := a_keep hL f3; have lf4 := a_keep hL f4
    go_simp
    try with_reducible rfl
  try simp only [Act.put, List.setIfInBounds_toArray, List.set_cons_zero, List.set_cons_succ]
  refine any_take later_goes 5 ?_ ?_ (by simp only [List.getElem?_toArray, List.getElem?_cons_succ, List.getElem?_cons_zero]; exact rfl) (by kernel_rfl) (by kernel_rfl) (by kernel_rfl) (fun _ _ _ _ _ h => h) (by rfl) ?_ ?_
  rotate_left
  · intro wl hL
    have lf0 := a_keep hL f0; have lf1 := a_keep hL f1; have lf2 := a_keep hL f2; have lf3 := a_keep hL f3; have lf4 := a_keep hL f4
    go_simp
    try with_reducible rfl
  try simp only [Act.put, List.setIfInBounds_toArray, List.set_cons_zero, List.set_cons_succ]
  refine any_take later_goes 8 ?_ ?_ (by simp only [List.getElem?_toArray, List.getElem?_cons_succ, List.getElem?_cons_zero]; exact rfl) (by kernel_rfl) (by kernel_rfl) (by kernel_rfl) (fun _ _ _ _ _ h => h) (by rfl) ?_ ?_
  rotate_left
  · intro wl hL
    have lf0 := a_keep hL f0; have lf1 := a_keep hL f1; have lf2 := a_keep hL f2; have lf3 := a_keep hL f3; have lf4 := a_keep hL f4
    go_simp
    try with_reducible rfl
  try simp only [Act.put, List.setIfInBounds_toArray, List.set_cons_zero, List.set_cons_succ]
  refine any_take later_goes 9 ?_ ?_ (by simp only [List.getElem?_toArray, List.getElem?_cons_succ, List.getElem?_cons_zero]; exact rfl) (by kernel_rfl) (by kernel_rfl) (by kernel_rfl) (fun _ _ _ _ _ h => h) (by rfl) ?_ ?_
  rotate_left
  · intro wl hL
    have lf0 := a_keep hL f0; have lf1 := a_keep hL f1; have lf2 := a_keep hL f2; have lf3 := a_keep hL f3; have lf4 := a_keep hL f4
    go_simp
    try with_reducible rfl
  try simp only [Act.put, List.setIfInBounds_toArray, List.set_cons_zero, List.set_cons_succ]
  refine any_take later_goes 13 ?_ ?_ (by simp only [List.getElem?_toArray, List.getElem?_cons_succ, List.getElem?_cons_zero]; exact rfl) (by kernel_rfl) (by kernel_rfl) (by kernel_rfl) (fun _ _ _ _ _ h => h) (by rfl) ?_ ?_
  rotate_left
  · intro wl hL
    have lf0 := a_keep hL f0; have lf1 := a_keep hL f1; have lf2 := a_keep hL f2; have lf3 := a_keep hL f3; have lf4 := a_keep hL f4
    go_simp
    try with_reducible rfl
  try simp only [Act.put, List.setIfInBounds_toArray, List.set_cons_zero, List.set_cons_succ]
  refine any_take later_goes 14 ?_ ?_ (by simp only [List.getElem?_toArray, List.getElem?_cons_succ, List.getElem?_cons_zero]; exact rfl) (by kernel_rfl) (by kernel_rfl) (by kernel_rfl) (fun _ _ _ _ _ h => h) (by rfl) ?_ ?_
  rotate_left
  · intro wl hL
    have lf0 := a_keep hL f0; have lf1 := a_keep hL f1; have lf2 := a_keep hL f2; have lf3 := a_keep hL f3; have lf4 := a_keep hL f4
    go_simp
    try with_reducible rfl
  try simp only [Act.put, List.setIfInBounds_toArray, List.set_cons_zero, List.set_cons_succ]
  refine any_take later_goes 18 ?_ ?_ (by simp only [List.getElem?_toArray, List.getElem?_cons_succ, List.getElem?_cons_zero]; exact rfl) (by kernel_rfl) (by kernel_rfl) (by kernel_rfl) (fun _ _ _ _ _ h => h) (by rfl) ?_ ?_
  rotate_left
  · intro wl hL
    have lf0 := a_keep hL f0; have lf1 := a_keep hL f1; have lf2 := a_keep hL f2; have lf3 := a_keep hL f3; have lf4 := a_keep hL f4
    go_simp
    try with_reducible rfl
  try simp only [Act.put, List.setIfInBounds_toArray, List.set_cons_zero, List.set_cons_succ]
  refine any_take later_goes 19 ?_ ?_ (by simp only [List.getElem?_toArray, List.getElem?_cons_succ, List.getElem?_cons_zero]; exact rfl) (by kernel_rfl) (by kernel_rfl) (by kernel_rfl) (fun _ _ _ _ _ h => h) (by rfl) ?_ ?_
  rotate_left
  · intro wl hL
    have lf0 := a_keep hL f0; have lf1 := a_keep hL f1; have lf2 := a_keep hL f2; have lf3 := a_keep hL f3; have lf4 := a_keep hL f4
    go_simp
    try with_reducible rfl
  try simp only [Act.put, List.setIfInBounds_toArray, List.set_cons_zero, List.set_cons_succ]
  refine any_one 0 _ (by kernel_rfl) (by simp only [List.getElem?_toArray, List.getElem?_cons_succ, List.getElem?_cons_zero]; exact rfl) (fun K hK => ?_)
  go_simp
  refine (a_ops _).mono ?_
  rintro e wo ⟨g, rfl, hg, hgl, hBo⟩
  refine hK.out _ _ hBo ?_
  clear hK K
  try simp only [Act.put, List.setIfInBounds_toArray, List.set_cons_zero, List.set_cons_succ]
  have fg := strs_cell (n := 12) hg op o0 rfl (by omega) HSO.out
  replace hB0 := bthen hB0 hBo
  refine any_take later_goes 3 ?_ ?_ (by simp only [List.getElem?_toArray, List.getElem?_cons_succ, List.getElem?_cons_zero]; exact rfl) (by kernel_rfl) (by kernel_rfl) (by kernel_rfl) (fun _ _ _ _ _ h => h) (by rfl) ?_ ?_
  rotate_left
  · intro wl hL
    have lfg := a_keep hL fg
    go_simp
    try with_reducible rfl
  try simp only [Act.put, List.setIfInBounds_toArray, List.set_cons_zero, List.set_cons_succ]
  refine any_take later_goes 4 ?_ ?_ (by simp only [List.getElem?_toArray, List.getElem?_cons_succ, List.getElem?_cons_zero]; exact rfl) (by kernel_rfl) (by kernel_rfl) (by kernel_rfl) (fun _ _ _ _ _ h => h) (by rfl) ?_ ?_
  rotate_left
  · intro wl hL
    have lfg := a_keep hL fg
    go_simp
    try with_reducible rfl
  try simp only [Act.put, List.setIfInBounds_toArray, List.set_cons_zero, List.set_cons_succ]
  refine any_take later_goes 6 ?_ ?_ (by simp only [List.getElem?_toArray, List.getElem?_cons_succ, List.getElem?_cons_zero]; exact rfl) (by kernel_rfl) (by kernel_rfl) (by kernel_rfl) (fun _ _ _ _ _ h => h) (by rfl) ?_ ?_
  rotate_left
  · intro wl hL
    have lfg := a_keep hL fg
    go_simp
    try with_reducible rfl
  try simp only [Act.put, List.setIfInBounds_toArray, List.set_cons_zero, List.set_cons_succ]
  refine any_take later_goes 7 ?_ ?_ (by simp only [List.getElem?_toArray, List.getElem?_cons_succ, List.getElem?_cons_zero]; exact rfl) (by kernel_rfl) (by kernel_rfl) (by kernel_rfl) (fun _ _ _ _ _ h => h) (by rfl) ?_ ?_
  rotate_left
  · intro wl hL
    have lfg := a_keep hL fg
    go_simp
    try with_reducible rfl
  try simp only [Act.put, List.setIfInBounds_toArray, List.set_cons_zero, List.set_cons_succ]
  refine any_one 10 _ (by kernel_rfl) (by simp only [List.getElem?_toArray, List.getElem?_cons_succ, List.getElem?_cons_zero]; exact rfl) (fun K hK => ?_)
  go_simp
  refine (a_reg _ _ (by omega) (by omega)).mono ?_
  rintro e wr1 ⟨rfl, hBr⟩
  rw [HSA.out]
  refine hK.out _ _ hBr ?_
  clear hK K
  try simp only [Act.put, List.setIfInBounds_toArray, List.set_cons_zero, List.set_cons_succ]
  replace hB0 := bthen hB0 hBr
  clear hBr
  refine any_take later_goes 11 ?_ ?_ (by simp only [List.getElem?_toArray, List.getElem?_cons_succ, List.getElem?_cons_zero]; exact rfl) (by kernel_rfl) (by kernel_rfl) (by kernel_rfl) (fun _ _ _ _ _ h => h) (by rfl) ?_ ?_
  rotate_left
  · intro wl hL
    skip
    go_simp
    try with_reducible rfl
  try simp only [Act.put, List.setIfInBounds_toArray, List.set_cons_zero, List.set_cons_succ]
  refine any_take later_goes 12 ?_ ?_ (by simp only [List.getElem?_toArray, List.getElem?_cons_succ, List.getElem?_cons_zero]; exact rfl) (by kernel_rfl) (by kernel_rfl) (by kernel_rfl) (fun _ _ _ _ _ h => h) (by rfl) ?_ ?_
  rotate_left
  · intro wl hL
    skip
    go_simp
    try with_reducible rfl
  try simp only [Act.put, List.setIfInBounds_toArray, List.set_cons_zero, List.set_cons_succ]
  refine any_one 15 _ (by kernel_rfl) (by simp only [List.getElem?_toArray, List.getElem?_cons_succ, List.getElem?_cons_zero]; exact rfl) (fun K hK => ?_)
  go_simp
  refine (a_reg _ _ (by omega) (by omega)).mono ?_
  rintro e wr2 ⟨rfl, hBr⟩
  rw [HSB.out]
  refine hK.out _ _ hBr ?_
  clear hK K
  try simp only [Act.put, List.setIfInBounds_toArray, List.set_cons_zero, List.set_cons_succ]
  replace hB0 := bthen hB0 hBr
  clear hBr
  refine any_take later_goes 16 ?_ ?_ (by simp only [List.getElem?_toArray, List.getElem?_cons_succ, List.getElem?_cons_zero]; exact rfl) (by kernel_rfl) (by kernel_rfl) (by kernel_rfl) (fun _ _ _ _ _ h => h) (by rfl) ?_ ?_
  rotate_left
  · intro wl hL
    skip
    go_simp
    try with_reducible rfl
  try simp only [Act.put, List.setIfInBounds_toArray, List.set_cons_zero, List.set_cons_succ]
  refine any_take later_goes 17 ?_ ?_ (by simp only [List.getElem?_toArray, List.getElem?_cons_succ, List.getElem?_cons_zero]; exact rfl) (by kernel_rfl) (by kernel_rfl) (by kernel_rfl) (fun _ _ _ _ _ h => h) (by rfl) ?_ ?_
  rotate_left
  · intro wl hL
    skip
    go_simp
    try with_reducible rfl
  try simp only [Act.put, List.setIfInBounds_toArray, List.set_cons_zero, List.set_cons_succ]
  refine any_one 20 _ (by kernel_rfl) (by simp only [List.getElem?_toArray, List.getElem?_cons_succ, List.getElem?_cons_zero]; exact rfl) (fun K hK => ?_)
  go_simp
  refine (a_Dec _ _ i0 i1).mono ?_
  rintro e wr3 ⟨rfl, hBr⟩
  rw [HSI.out]
  refine hK.out _ _ hBr ?_
  clear hK K
  try simp only [Act.put, List.setIfInBounds_toArray, List.set_cons_zero, List.set_cons_succ]
  replace hB0 := bthen hB0 hBr
  clear hBr
  refine any_take later_goes 21 ?_ ?_ (by simp only [List.getElem?_toArray, List.getElem?_cons_succ, List.getElem?_cons_zero]; exact rfl) (by kernel_rfl) (by kernel_rfl) (by kernel_rfl) (fun _ _ _ _ _ h => h) (by rfl) ?_ ?_
  rotate_left
  · intro wl hL
    skip
    go_simp
    try with_reducible rfl
  try simp only [Act.put, List.setIfInBounds_toArray, List.set_cons_zero, List.set_cons_succ]
  refine any_take later_goes 22 ?_ ?_ (by simp only [List.getElem?_toArray, List.getElem?_cons_succ, List.getElem?_cons_zero]; exact rfl) (by kernel_rfl) (by kernel_rfl) (by kernel_rfl) (fun _ _ _ _ _ h => h) (by rfl) ?_ ?_
  rotate_left
  · intro wl hL
    skip
    go_simp
    try with_reducible rfl
  try simp only [Act.put, List.setIfInBounds_toArray, List.set_cons_zero, List.set_cons_succ]
  refine any_take later_goes 23 ?_ ?_ (by simp only [List.getElem?_toArray, List.getElem?_cons_succ, List.getElem?_cons_zero]; exact rfl) (by kernel_rfl) (by kernel_rfl) (by kernel_rfl) (fun _ _ _ _ _ h => h) (by rfl) ?_ ?_
  rotate_left
  · intro wl hL
    skip
    go_simp
    try with_reducible rfl
  try simp only [Act.put, List.setIfInBounds_toArray, List.set_cons_zero, List.set_cons_succ]
  refine any_done (by kernel_rfl) ?_ _
  go_wp2_with fail
  go_ret2
  exact ⟨by rw [HL.out, ← HF.out]; rfl, hB0⟩
set_option maxRecDepth 100000 in
set_option maxHeartbeats 8000000 in
theorem rline111 (x a b c op im : Int) (w : World) (h0 : 0 ≤ x) (h1 : x ≤ 4294967295) (hd : decW x = (⟨1, true, true, a, b, c, op, im⟩, 0)) (hl : lineW x = (lineI ⟨1, true, true, a, b, c, op, im⟩, 0))
    (a0 : 0 ≤ a) (a1 : a ≤ 15) (b0 : 0 ≤ b) (b1 : b ≤ 15) (c0 : 0 ≤ c) (c1 : c ≤ 15) (o0 : 0 ≤ op) (o1 : op ≤ 11) (i0 : -2147483648 < im) (i1 : im < 2147483648) : Calls Tryz.prog 22 #[.int .u32 x] w (AtLine x w) := by
  obtain ⟨SO, hSO⟩ : ∃ S : ByteArray, (⟨(opN op).toArray⟩ : ByteArray) = S := ⟨_, rfl⟩
  have zO : SO.size ≤ 3 := by rw [← hSO, size_mk]; exact opN_len op
  obtain ⟨SA, hSA⟩ : ∃ S : ByteArray, (⟨(regL a).toArray⟩ : ByteArray) = S := ⟨_, rfl⟩
  have zA : SA.size ≤ 21 := by rw [← hSA, size_mk]; exact regL_len (by omega) (by omega)
  obtain ⟨SB, hSB⟩ : ∃ S : ByteArray, (⟨(regL b).toArray⟩ : ByteArray) = S := ⟨_, rfl⟩
  have zB : SB.size ≤ 21 := by rw [← hSB, size_mk]; exact regL_len (by omega) (by omega)
  obtain ⟨SI, hSI⟩ : ∃ S : ByteArray, (⟨(Lib.itoa im).toArray⟩ : ByteArray) = S := ⟨_, rfl⟩
  have zI : SI.size ≤ 20 := by rw [← hSI, size_mk]; exact itoa_len i0 i1
  have y0 : ¬ (9223372036854775807 < SO.size + 2) := by omega
  have y1 : ¬ (9223372036854775807 < SO.size + 2 + 1) := by omega
  have y2 : ¬ (9223372036854775807 < SO.size + 2 + 1 + SA.size) := by omega
  have y3 : ¬ (9223372036854775807 < SO.size + 2 + 1 + SA.size + 2) := by omega
  have y4 : ¬ (9223372036854775807 < SO.size + 2 + 1 + SA.size + 2 + SB.size) := by omega
  have y5 : ¬ (9223372036854775807 < SO.size + 2 + 1 + SA.size + 2 + SB.size + 2) := by omega
  have y6 : ¬ (9223372036854775807 < SO.size + 2 + 1 + SA.size + 2 + SB.size + 2 + SI.size) := by omega
  have hfin : SO ++ ((⟨#[]⟩ : ByteArray) ++ (⟨#[39]⟩ : ByteArray) ++ (⟨#[34]⟩ : ByteArray)) ++ (⟨#[32]⟩ : ByteArray) ++ SA ++ (⟨#[44, 32]⟩ : ByteArray) ++ SB ++ (⟨#[44, 32]⟩ : ByteArray) ++ SI = ⟨(lineI ⟨1, true, true, a, b, c, op, im⟩).toArray⟩ := by
    apply str_of
    rw [← hSO, ← hSA, ← hSB, ← hSI]
    simp [ByteArray.data_append, lineI, nameI, restI, markL, regL]
  have HSO := Lib.hid hSO
  have HSA := Lib.hid hSA
  have HSB := Lib.hid hSB
  have HSI := Lib.hid hSI
  have HF := Lib.hid hfin
  clear hfin hSO hSA hSB hSI
  have o2 : op < 12 := by omega
  have a2 : a < 16 := by omega
  have HD := Lib.hid hd
  have HL := Lib.hid hl
  clear hd hl
  go_enter Tryz.func22, Tryz.ntmps22
  go_wp2_with fail
  refine (rr_Decode x _ h0 h1).mono ?_
  rintro e w1 ⟨rfl, hB⟩
  rw [HD.out]
  simp only [insV_eq]
  go_wp2_with fail
  refine any_begin later_goes (by kernel_rfl) ?_
  generalize hW : World.drew _ = W0
  have hb : W0.heap[w1.heap.size]? = some (.cells #[.int .i64 1, .bool true, .bool true, .int .i64 a, .int .i64 b, .int .i64 c, .int .i64 op, .int .i64 im] 45 (0, 0)) := by rw [← hW]; exact b_new _ _
  obtain ⟨-, g1, -, f0, f1, f2, f3, f4⟩ := b_cells8 hb
  have hB0 : Below w.heap.size w W0 := by rw [← hW]; exact (bthen hB (ablow _ _)).drew
  clear hW hb
  refine any_take later_goes 1 ?_ ?_ (by simp only [List.getElem?_toArray, List.getElem?_cons_succ, List.getElem?_cons_zero]; exact rfl) (by kernel_rfl) (by kernel_rfl) (by kernel_rfl) (fun _ _ _ _ _ h => h) (by rfl) ?_ ?_
  rotate_left
  · intro wl hL
    have lf0 := a_keep hL f0; have lf1 := a_keep hL f1; have lf2 := a_keep hL f2; have lf3 := a_keep hL f3; have lf4 := a_keep hL f4
    go_simp
    try with_reducible rfl
  try simp only [Act.put, List.setIfInBounds_toArray, List.set_cons_zero, List.set_cons_succ]
  refine any_take later_goes 2 ?_ ?_ (by simp only [List.getElem?_toArray, List.getElem?_cons_succ, List.getElem?_cons_zero]; exact rfl) (by kernel_rfl) (by kernel_rfl) (by kernel_rfl) (fun _ _ _ _ _ h => h) (by rfl) ?_ ?_
  rotate_left
  · intro wl hL
    have lf0 := a_keep hL f0; have lf1 := a_keep hL f1; have lf2 := a_keep hL f2; have lf3 := a_keep hL f3; have lf4 := a_keep hL f4
    go_simp
    try with_reducible rfl
  try simp only [Act.put, List.setIfInBounds_toArray, List.set_cons_zero, List.set_cons_succ]
  refine any_take later_goes 5 ?_ ?_ (by simp only [List.getElem?_toArray, List.getElem?_cons_succ, List.getElem?_cons_zero]; exact rfl) (by kernel_rfl) (by kernel_rfl) (by kernel_rfl) (fun _ _ _ _ _ h => h) (by rfl) ?_ ?_
  rotate_left
  · intro wl hL
    have lf0 := a_keep hL f0; have lf1 := a_keep hL f1; have lf2 := a_keep hL f2; have lf3 := a_keep hL f3; have lf4 := a_keep hL f4
    go_simp
    try with_reducible rfl
  try simp only [Act.put, List.setIfInBounds_toArray, List.set_cons_zero, List.set_cons_succ]
  refine any_take later_goes 8 ?_ ?_ (by simp only [List.getElem?_toArray, List.getElem?_cons_succ, List.getElem?_cons_zero]; exact rfl) (by kernel_rfl) (by kernel_rfl) (by kernel_rfl) (fun _ _ _ _ _ h => h) (by rfl) ?_ ?_
  rotate_left
  · intro wl hL
    have lf0 := a_keep hL f0; have lf1 := a_keep hL f1; have lf2 := a_keep hL f2; have lf3 := a_keep hL f3; have lf4 := a_keep hL f4
    go_simp
    try with_reducible rfl
  try simp only [Act.put, List.setIfInBounds_toArray, List.set_cons_zero, List.set_cons_succ]
  refine any_take later_goes 9 ?_ ?_ (by simp only [List.getElem?_toArray, List.getElem?_cons_succ, List.getElem?_cons_zero]; exact rfl) (by kernel_rfl) (by kernel_rfl) (by kernel_rfl) (fun _ _ _ _ _ h => h) (by rfl) ?_ ?_
  rotate_left
  · intro wl hL
    have lf0 := a_keep hL f0; have lf1 := a_keep hL f1; have lf2 := a_keep hL f2; have lf3 := a_keep hL f3; have lf4 := a_keep hL f4
    go_simp
    try with_reducible rfl
  try simp only [Act.put, List.setIfInBounds_toArray, List.set_cons_zero, List.set_cons_succ]
  refine any_take later_goes 13 ?_ ?_ (by simp only [List.getElem?_toArray, List.getElem?_cons_succ, List.getElem?_cons_zero]; exact rfl) (by kernel_rfl) (by kernel_rfl) (by kernel_rfl) (fun _ _ _ _ _ h => h) (by rfl) ?_ ?_
  rotate_left
  · intro wl hL
    have lf0 := a_keep hL f0; have lf1 := a_keep hL f1; have lf2 := a_keep hL f2; have lf3 := a_keep hL f3; have lf4 := a_keep hL f4
    go_simp
    try with_reducible rfl
  try simp only [Act.put, List.setIfInBounds_toArray, List.set_cons_zero, List.set_cons_succ]
  refine any_take later_goes 14 ?_ ?_ (by simp only [List.getElem?_toArray, List.getElem?_cons_succ, List.getElem?_cons_zero]; exact rfl) (by kernel_rfl) (by kernel_rfl) (by kernel_rfl) (fun _ _ _ _ _ h => h) (by rfl) ?_ ?_
  rotate_left
  · intro wl hL
    have lf0 := a_keep hL f0; have lf1 := a_keep hL f1; have lf2 := a_keep hL f2; have lf3 := a_keep hL f3; have lf4 := a_keep hL f4
    go_simp
    try with_reducible rfl
  try simp only [Act.put, List.setIfInBounds_toArray, List.set_cons_zero, List.set_cons_succ]
  refine any_take later_goes 18 ?_ ?_ (by simp only [List.getElem?_toArray, List.getElem?_cons_succ, List.getElem?_cons_zero]; exact rfl) (by kernel_rfl) (by kernel_rfl) (by kernel_rfl) (fun _ _ _ _ _ h => h) (by rfl) ?_ ?_
  rotate_left
  · intro wl hL
    have lf0 := a_keep hL f0; have lf1 := a_keep hL f1; have lf2 := a_keep hL f2; have lf3 := a_keep hL f3; have lf4 := a_keep hL f4
    go_simp
    try with_reducible rfl
  try simp only [Act.put, List.setIfInBounds_toArray, List.set_cons_zero, List.set_cons_succ]
  refine any_take later_goes 19 ?_ ?_ (by simp only [List.getElem?_toArray, List.getElem?_cons_succ, List.getElem?_cons_zero]; exact rfl) (by kernel_rfl) (by kernel_rfl) (by kernel_rfl) (fun _ _ _ _ _ h => h) (by rfl) ?_ ?_
  rotate_left
  · intro wl hL
    have lf0 := a_keep hL f0; have lf1 := a_keep hL f1; have lf2 := a_keep hL f2; have lf3 := a_keep hL f3; have lf4 := a_keep hL f4
    go_simp
    try with_reducible rfl
  try simp only [Act.put, List.setIfInBounds_toArray, List.set_cons_zero, List.set_cons_succ]
  refine any_one 0 _ (by kernel_rfl) (by simp only [List.getElem?_toArray, List.getElem?_cons_succ, List.getElem?_cons_zero]; exact rfl) (fun K hK => ?_)
  go_simp
  refine (a_ops _).mono ?_
  rintro e wo ⟨g, rfl, hg, hgl, hBo⟩
  refine hK.out _ _ hBo ?_
  clear hK K
  try simp only [Act.put, List.setIfInBounds_toArray, List.set_cons_zero, List.set_cons_succ]
  have fg := strs_cell (n := 12) hg op o0 rfl (by omega) HSO.out
  replace hB0 := bthen hB0 hBo
  refine any_take later_goes 3 ?_ ?_ (by simp only [List.getElem?_toArray, List.getElem?_cons_succ, List.getElem?_cons_zero]; exact rfl) (by kernel_rfl) (by kernel_rfl) (by kernel_rfl) (fun _ _ _ _ _ h => h) (by rfl) ?_ ?_
  rotate_left
  · intro wl hL
    have lfg := a_keep hL fg
    go_simp
    try with_reducible rfl
  try simp only [Act.put, List.setIfInBounds_toArray, List.set_cons_zero, List.set_cons_succ]
  refine any_take later_goes 4 ?_ ?_ (by simp only [List.getElem?_toArray, List.getElem?_cons_succ, List.getElem?_cons_zero]; exact rfl) (by kernel_rfl) (by kernel_rfl) (by kernel_rfl) (fun _ _ _ _ _ h => h) (by rfl) ?_ ?_
  rotate_left
  · intro wl hL
    have lfg := a_keep hL fg
    go_simp
    try with_reducible rfl
  try simp only [Act.put, List.setIfInBounds_toArray, List.set_cons_zero, List.set_cons_succ]
  refine any_take later_goes 6 ?_ ?_ (by simp only [List.getElem?_toArray, List.getElem?_cons_succ, List.getElem?_cons_zero]; exact rfl) (by kernel_rfl) (by kernel_rfl) (by kernel_rfl) (fun _ _ _ _ _ h => h) (by rfl) ?_ ?_
  rotate_left
  · intro wl hL
    have lfg := a_keep hL fg
    go_simp
    try with_reducible rfl
  try simp only [Act.put, List.setIfInBounds_toArray, List.set_cons_zero, List.set_cons_succ]
  refine any_take later_goes 7 ?_ ?_ (by simp only [List.getElem?_toArray, List.getElem?_cons_succ, List.getElem?_cons_zero]; exact rfl) (by kernel_rfl) (by kernel_rfl) (by kernel_rfl) (fun _ _ _ _ _ h => h) (by rfl) ?_ ?_
  rotate_left
  · intro wl hL
    have lfg := a_keep hL fg
    go_simp
    try with_reducible rfl
  try simp only [Act.put, List.setIfInBounds_toArray, List.set_cons_zero, List.set_cons_succ]
  refine any_one 10 _ (by kernel_rfl) (by simp only [List.getElem?_toArray, List.getElem?_cons_succ, List.getElem?_cons_zero]; exact rfl) (fun K hK => ?_)
  go_simp
  refine (a_reg _ _ (by omega) (by omega)).mono ?_
  rintro e wr1 ⟨rfl, hBr⟩
  rw [HSA.out]
  refine hK.out _ _ hBr ?_
  clear hK K
  try simp only [Act.put, List.setIfInBounds_toArray, List.set_cons_zero, List.set_cons_succ]
  replace hB0 := bthen hB0 hBr
  clear hBr
  refine any_take later_goes 11 ?_ ?_ (by simp only [List.getElem?_toArray, List.getElem?_cons_succ, List.getElem?_cons_zero]; exact rfl) (by kernel_rfl) (by kernel_rfl) (by kernel_rfl) (fun _ _ _ _ _ h => h) (by rfl) ?_ ?_
  rotate_left
  · intro wl hL
    skip
    go_simp
    try with_reducible rfl
  try simp only [Act.put, List.setIfInBounds_toArray, List.set_cons_zero, List.set_cons_succ]
  refine any_take later_goes 12 ?_ ?_ (by simp only [List.getElem?_toArray, List.getElem?_cons_succ, List.getElem?_cons_zero]; exact rfl) (by kernel_rfl) (by kernel_rfl) (by kernel_rfl) (fun _ _ _ _ _ h => h) (by rfl) ?_ ?_
  rotate_left
  · intro wl hL
    skip
    go_simp
    try with_reducible rfl
  try simp only [Act.put, List.setIfInBounds_toArray, List.set_cons_zero, List.set_cons_succ]
  refine any_one 15 _ (by kernel_rfl) (by simp only [List.getElem?_toArray, List.getElem?_cons_succ, List.getElem?_cons_zero]; exact rfl) (fun K hK => ?_)
  go_simp
  refine (a_reg _ _ (by omega) (by omega)).mono ?_
  rintro e wr2 ⟨rfl, hBr⟩
  rw [HSB.out]
  refine hK.out _ _ hBr ?_
  clear hK K
  try simp only [Act.put, List.setIfInBounds_toArray, List.set_cons_zero, List.set_cons_succ]
  replace hB0 := bthen hB0 hBr
  clear hBr
  refine any_take later_goes 16 ?_ ?_ (by simp only [List.getElem?_toArray, List.getElem?_cons_succ, List.getElem?_cons_zero]; exact rfl) (by kernel_rfl) (by kernel_rfl) (by kernel_rfl) (fun _ _ _ _ _ h => h) (by rfl) ?_ ?_
  rotate_left
  · intro wl hL
    skip
    go_simp
    try with_reducible rfl
  try simp only [Act.put, List.setIfInBounds_toArray, List.set_cons_zero, List.set_cons_succ]
  refine any_take later_goes 17 ?_ ?_ (by simp only [List.getElem?_toArray, List.getElem?_cons_succ, List.getElem?_cons_zero]; exact rfl) (by kernel_rfl) (by kernel_rfl) (by kernel_rfl) (fun _ _ _ _ _ h => h) (by rfl) ?_ ?_
  rotate_left
  · intro wl hL
    skip
    go_simp
    try with_reducible rfl
  try simp only [Act.put, List.setIfInBounds_toArray, List.set_cons_zero, List.set_cons_succ]
  refine any_one 20 _ (by kernel_rfl) (by simp only [List.getElem?_toArray, List.getElem?_cons_succ, List.getElem?_cons_zero]; exact rfl) (fun K hK => ?_)
  go_simp
  refine (a_Dec _ _ i0 i1).mono ?_
  rintro e wr3 ⟨rfl, hBr⟩
  rw [HSI.out]
  refine hK.out _ _ hBr ?_
  clear hK K
  try simp only [Act.put, List.setIfInBounds_toArray, List.set_cons_zero, List.set_cons_succ]
  replace hB0 := bthen hB0 hBr
  clear hBr
  refine any_take later_goes 21 ?_ ?_ (by simp only [List.getElem?_toArray, List.getElem?_cons_succ, List.getElem?_cons_zero]; exact rfl) (by kernel_rfl) (by kernel_rfl) (by kernel_rfl) (fun _ _ _ _ _ h => h) (by rfl) ?_ ?_
  rotate_left
  · intro wl hL
    skip
    go_simp
    try with_reducible rfl
  try simp only [Act.put, List.setIfInBounds_toArray, List.set_cons_zero, List.set_cons_succ]
  refine any_take later_goes 22 ?_ ?_ (by simp only [List.getElem?_toArray, List.getElem?_cons_succ, List.getElem?_cons_zero]; exact rfl) (by kernel_rfl) (by kernel_rfl) (by kernel_rfl) (fun _ _ _ _ _ h => h) (by rfl) ?_ ?_
  rotate_left
  · intro wl hL
    skip
    go_simp
    try with_reducible rfl
  try simp only [Act.put, List.setIfInBounds_toArray, List.set_cons_zero, List.set_cons_succ]
  refine any_take later_goes 23 ?_ ?_ (by simp only [List.getElem?_toArray, List.getElem?_cons_succ, List.getElem?_cons_zero]; exact rfl) (by kernel_rfl) (by kernel_rfl) (by kernel_rfl) (fun _ _ _ _ _ h => h) (by rfl) ?_ ?_
  rotate_left
  · intro wl hL
    skip
    go_simp
    try with_reducible rfl
  try simp only [Act.put, List.setIfInBounds_toArray, List.set_cons_zero, List.set_cons_succ]
  refine any_done (by kernel_rfl) ?_ _
  go_wp2_with fail
  go_ret2
  exact ⟨by rw [HL.out, ← HF.out]; rfl, hB0⟩
set_option maxRecDepth 100000 in
set_option maxHeartbeats 8000000 in
theorem rline200 (x a b c op im : Int) (w : World) (h0 : 0 ≤ x) (h1 : x ≤ 4294967295) (hd : decW x = (⟨2, false, false, a, b, c, op, im⟩, 0)) (hl : lineW x = (lineI ⟨2, false, false, a, b, c, op, im⟩, 0))
    (a0 : 0 ≤ a) (a1 : a ≤ 15) (b0 : 0 ≤ b) (b1 : b ≤ 15) (c0 : 0 ≤ c) (c1 : c ≤ 15) (o0 : 0 ≤ op) (o1 : op ≤ 11) (i0 : -2147483648 < im) (i1 : im < 2147483648) : Calls Tryz.prog 22 #[.int .u32 x] w (AtLine x w) := by
  obtain ⟨SA, hSA⟩ : ∃ S : ByteArray, (⟨(regL a).toArray⟩ : ByteArray) = S := ⟨_, rfl⟩
  have zA : SA.size ≤ 21 := by rw [← hSA, size_mk]; exact regL_len (by omega) (by omega)
  obtain ⟨SB, hSB⟩ : ∃ S : ByteArray, (⟨(regL b).toArray⟩ : ByteArray) = S := ⟨_, rfl⟩
  have zB : SB.size ≤ 21 := by rw [← hSB, size_mk]; exact regL_len (by omega) (by omega)
  obtain ⟨SI, hSI⟩ : ∃ S : ByteArray, (⟨(Lib.itoa im).toArray⟩ : ByteArray) = S := ⟨_, rfl⟩
  have zI : SI.size ≤ 20 := by rw [← hSI, size_mk]; exact itoa_len i0 i1
  have y0 : ¬ (9223372036854775807 < 4 + SA.size) := by omega
  have y1 : ¬ (9223372036854775807 < 4 + SA.size + 2) := by omega
  have y2 : ¬ (9223372036854775807 < 4 + SA.size + 2 + SB.size) := by omega
  have y3 : ¬ (9223372036854775807 < 4 + SA.size + 2 + SB.size + 2) := by omega
  have y4 : ¬ (9223372036854775807 < 4 + SA.size + 2 + SB.size + 2 + SI.size) := by omega
  have hfin : (⟨#[76, 68]⟩ : ByteArray) ++ (⟨#[82]⟩ : ByteArray) ++ (⟨#[32]⟩ : ByteArray) ++ SA ++ (⟨#[44, 32]⟩ : ByteArray) ++ SB ++ (⟨#[44, 32]⟩ : ByteArray) ++ SI = ⟨(lineI ⟨2, false, false, a, b, c, op, im⟩).toArray⟩ := by
    apply str_of
    rw [← hSA, ← hSB, ← hSI]
    simp [ByteArray.data_append, lineI, nameI, restI, markL, regL]
  have HSA := Lib.hid hSA
  have HSB := Lib.hid hSB
  have HSI := Lib.hid hSI
  have HF := Lib.hid hfin
  clear hfin hSA hSB hSI
  have o2 : op < 12 := by omega
  have a2 : a < 16 := by omega
  have HD := Lib.hid hd
  have HL := Lib.hid hl
  clear hd hl
  go_enter Tryz.func22, Tryz.ntmps22
  go_wp2_with fail
  refine (rr_Decode x _ h0 h1).mono ?_
  rintro e w1 ⟨rfl, hB⟩
  rw [HD.out]
  simp only [insV_eq]
  go_wp2_with fail
  refine any_begin later_goes (by kernel_rfl) ?_
  generalize hW : World.drew _ = W0
  have hb : W0.heap[w1.heap.size]? = some (.cells #[.int .i64 2, .bool false, .bool false, .int .i64 a, .int .i64 b, .int .i64 c, .int .i64 op, .int .i64 im] 45 (0, 0)) := by rw [← hW]; exact b_new _ _
  obtain ⟨-, g1, -, f0, f1, f2, f3, f4⟩ := b_cells8 hb
  have hB0 : Below w.heap.size w W0 := by rw [← hW]; exact (bthen hB (ablow _ _)).drew
  clear hW hb
  refine any_take later_goes 0 ?_ ?_ (by simp only [List.getElem?_toArray, List.getElem?_cons_succ, List.getElem?_cons_zero]; exact rfl) (by kernel_rfl) (by kernel_rfl) (by kernel_rfl) (fun _ _ _ _ _ h => h) (by rfl) ?_ ?_
  rotate_left
  · intro wl hL
    have lf0 := a_keep hL f0; have lf1 := a_keep hL f1; have lf2 := a_keep hL f2; have lf3 := a_keep hL f3; have lf4 := a_keep hL f4
    go_simp
    try with_reducible rfl
  try simp only [Act.put, List.setIfInBounds_toArray, List.set_cons_zero, List.set_cons_succ]
  refine any_take later_goes 1 ?_ ?_ (by simp only [List.getElem?_toArray, List.getElem?_cons_succ, List.getElem?_cons_zero]; exact rfl) (by kernel_rfl) (by kernel_rfl) (by kernel_rfl) (fun _ _ _ _ _ h => h) (by rfl) ?_ ?_
  rotate_left
  · intro wl hL
    have lf0 := a_keep hL f0; have lf1 := a_keep hL f1; have lf2 := a_keep hL f2; have lf3 := a_keep hL f3; have lf4 := a_keep hL f4
    go_simp
    try with_reducible rfl
  try simp only [Act.put, List.setIfInBounds_toArray, List.set_cons_zero, List.set_cons_succ]
  refine any_take later_goes 2 ?_ ?_ (by simp only [List.getElem?_toArray, List.getElem?_cons_succ, List.getElem?_cons_zero]; exact rfl) (by kernel_rfl) (by kernel_rfl) (by kernel_rfl) (fun _ _ _ _ _ h => h) (by rfl) ?_ ?_
  rotate_left
  · intro wl hL
    have lf0 := a_keep hL f0; have lf1 := a_keep hL f1; have lf2 := a_keep hL f2; have lf3 := a_keep hL f3; have lf4 := a_keep hL f4
    go_simp
    try with_reducible rfl
  try simp only [Act.put, List.setIfInBounds_toArray, List.set_cons_zero, List.set_cons_succ]
  refine any_take later_goes 3 ?_ ?_ (by simp only [List.getElem?_toArray, List.getElem?_cons_succ, List.getElem?_cons_zero]; exact rfl) (by kernel_rfl) (by kernel_rfl) (by kernel_rfl) (fun _ _ _ _ _ h => h) (by rfl) ?_ ?_
  rotate_left
  · intro wl hL
    have lf0 := a_keep hL f0; have lf1 := a_keep hL f1; have lf2 := a_keep hL f2; have lf3 := a_keep hL f3; have lf4 := a_keep hL f4
    go_simp
    try with_reducible rfl
  try simp only [Act.put, List.setIfInBounds_toArray, List.set_cons_zero, List.set_cons_succ]
  refine any_take later_goes 7 ?_ ?_ (by simp only [List.getElem?_toArray, List.getElem?_cons_succ, List.getElem?_cons_zero]; exact rfl) (by kernel_rfl) (by kernel_rfl) (by kernel_rfl) (fun _ _ _ _ _ h => h) (by rfl) ?_ ?_
  rotate_left
  · intro wl hL
    have lf0 := a_keep hL f0; have lf1 := a_keep hL f1; have lf2 := a_keep hL f2; have lf3 := a_keep hL f3; have lf4 := a_keep hL f4
    go_simp
    try with_reducible rfl
  try simp only [Act.put, List.setIfInBounds_toArray, List.set_cons_zero, List.set_cons_succ]
  refine any_take later_goes 8 ?_ ?_ (by simp only [List.getElem?_toArray, List.getElem?_cons_succ, List.getElem?_cons_zero]; exact rfl) (by kernel_rfl) (by kernel_rfl) (by kernel_rfl) (fun _ _ _ _ _ h => h) (by rfl) ?_ ?_
  rotate_left
  · intro wl hL
    have lf0 := a_keep hL f0; have lf1 := a_keep hL f1; have lf2 := a_keep hL f2; have lf3 := a_keep hL f3; have lf4 := a_keep hL f4
    go_simp
    try with_reducible rfl
  try simp only [Act.put, List.setIfInBounds_toArray, List.set_cons_zero, List.set_cons_succ]
  refine any_take later_goes 12 ?_ ?_ (by simp only [List.getElem?_toArray, List.getElem?_cons_succ, List.getElem?_cons_zero]; exact rfl) (by kernel_rfl) (by kernel_rfl) (by kernel_rfl) (fun _ _ _ _ _ h => h) (by rfl) ?_ ?_
  rotate_left
  · intro wl hL
    have lf0 := a_keep hL f0; have lf1 := a_keep hL f1; have lf2 := a_keep hL f2; have lf3 := a_keep hL f3; have lf4 := a_keep hL f4
    go_simp
    try with_reducible rfl
  try simp only [Act.put, List.setIfInBounds_toArray, List.set_cons_zero, List.set_cons_succ]
  refine any_take later_goes 13 ?_ ?_ (by simp only [List.getElem?_toArray, List.getElem?_cons_succ, List.getElem?_cons_zero]; exact rfl) (by kernel_rfl) (by kernel_rfl) (by kernel_rfl) (fun _ _ _ _ _ h => h) (by rfl) ?_ ?_
  rotate_left
  · intro wl hL
    have lf0 := a_keep hL f0; have lf1 := a_keep hL f1; have lf2 := a_keep hL f2; have lf3 := a_keep hL f3; have lf4 := a_keep hL f4
    go_simp
    try with_reducible rfl
  try simp only [Act.put, List.setIfInBounds_toArray, List.set_cons_zero, List.set_cons_succ]
  refine any_one 4 _ (by kernel_rfl) (by simp only [List.getElem?_toArray, List.getElem?_cons_succ, List.getElem?_cons_zero]; exact rfl) (fun K hK => ?_)
  go_simp
  refine (a_reg _ _ (by omega) (by omega)).mono ?_
  rintro e wr1 ⟨rfl, hBr⟩
  rw [HSA.out]
  refine hK.out _ _ hBr ?_
  clear hK K
  try simp only [Act.put, List.setIfInBounds_toArray, List.set_cons_zero, List.set_cons_succ]
  replace hB0 := bthen hB0 hBr
  clear hBr
  refine any_take later_goes 5 ?_ ?_ (by simp only [List.getElem?_toArray, List.getElem?_cons_succ, List.getElem?_cons_zero]; exact rfl) (by kernel_rfl) (by kernel_rfl) (by kernel_rfl) (fun _ _ _ _ _ h => h) (by rfl) ?_ ?_
  rotate_left
  · intro wl hL
    skip
    go_simp
    try with_reducible rfl
  try simp only [Act.put, List.setIfInBounds_toArray, List.set_cons_zero, List.set_cons_succ]
  refine any_take later_goes 6 ?_ ?_ (by simp only [List.getElem?_toArray, List.getElem?_cons_succ, List.getElem?_cons_zero]; exact rfl) (by kernel_rfl) (by kernel_rfl) (by kernel_rfl) (fun _ _ _ _ _ h => h) (by rfl) ?_ ?_
  rotate_left
  · intro wl hL
    skip
    go_simp
    try with_reducible rfl
  try simp only [Act.put, List.setIfInBounds_toArray, List.set_cons_zero, List.set_cons_succ]
  refine any_one 9 _ (by kernel_rfl) (by simp only [List.getElem?_toArray, List.getElem?_cons_succ, List.getElem?_cons_zero]; exact rfl) (fun K hK => ?_)
  go_simp
  refine (a_reg _ _ (by omega) (by omega)).mono ?_
  rintro e wr2 ⟨rfl, hBr⟩
  rw [HSB.out]
  refine hK.out _ _ hBr ?_
  clear hK K
  try simp only [Act.put, List.setIfInBounds_toArray, List.set_cons_zero, List.set_cons_succ]
  replace hB0 := bthen hB0 hBr
  clear hBr
  refine any_take later_goes 10 ?_ ?_ (by simp only [List.getElem?_toArray, List.getElem?_cons_succ, List.getElem?_cons_zero]; exact rfl) (by kernel_rfl) (by kernel_rfl) (by kernel_rfl) (fun _ _ _ _ _ h => h) (by rfl) ?_ ?_
  rotate_left
  · intro wl hL
    skip
    go_simp
    try with_reducible rfl
  try simp only [Act.put, List.setIfInBounds_toArray, List.set_cons_zero, List.set_cons_succ]
  refine any_take later_goes 11 ?_ ?_ (by simp only [List.getElem?_toArray, List.getElem?_cons_succ, List.getElem?_cons_zero]; exact rfl) (by kernel_rfl) (by kernel_rfl) (by kernel_rfl) (fun _ _ _ _ _ h => h) (by rfl) ?_ ?_
  rotate_left
  · intro wl hL
    skip
    go_simp
    try with_reducible rfl
  try simp only [Act.put, List.setIfInBounds_toArray, List.set_cons_zero, List.set_cons_succ]
  refine any_one 14 _ (by kernel_rfl) (by simp only [List.getElem?_toArray, List.getElem?_cons_succ, List.getElem?_cons_zero]; exact rfl) (fun K hK => ?_)
  go_simp
  refine (a_Dec _ _ i0 i1).mono ?_
  rintro e wr3 ⟨rfl, hBr⟩
  rw [HSI.out]
  refine hK.out _ _ hBr ?_
  clear hK K
  try simp only [Act.put, List.setIfInBounds_toArray, List.set_cons_zero, List.set_cons_succ]
  replace hB0 := bthen hB0 hBr
  clear hBr
  refine any_take later_goes 15 ?_ ?_ (by simp only [List.getElem?_toArray, List.getElem?_cons_succ, List.getElem?_cons_zero]; exact rfl) (by kernel_rfl) (by kernel_rfl) (by kernel_rfl) (fun _ _ _ _ _ h => h) (by rfl) ?_ ?_
  rotate_left
  · intro wl hL
    skip
    go_simp
    try with_reducible rfl
  try simp only [Act.put, List.setIfInBounds_toArray, List.set_cons_zero, List.set_cons_succ]
  refine any_take later_goes 16 ?_ ?_ (by simp only [List.getElem?_toArray, List.getElem?_cons_succ, List.getElem?_cons_zero]; exact rfl) (by kernel_rfl) (by kernel_rfl) (by kernel_rfl) (fun _ _ _ _ _ h => h) (by rfl) ?_ ?_
  rotate_left
  · intro wl hL
    skip
    go_simp
    try with_reducible rfl
  try simp only [Act.put, List.setIfInBounds_toArray, List.set_cons_zero, List.set_cons_succ]
  refine any_take later_goes 17 ?_ ?_ (by simp only [List.getElem?_toArray, List.getElem?_cons_succ, List.getElem?_cons_zero]; exact rfl) (by kernel_rfl) (by kernel_rfl) (by kernel_rfl) (fun _ _ _ _ _ h => h) (by rfl) ?_ ?_
  rotate_left
  · intro wl hL
    skip
    go_simp
    try with_reducible rfl
  try simp only [Act.put, List.setIfInBounds_toArray, List.set_cons_zero, List.set_cons_succ]
  refine any_done (by kernel_rfl) ?_ _
  go_wp2_with fail
  go_ret2
  exact ⟨by rw [HL.out, ← HF.out]; rfl, hB0⟩
set_option maxRecDepth 100000 in
set_option maxHeartbeats 8000000 in
theorem rline201 (x a b c op im : Int) (w : World) (h0 : 0 ≤ x) (h1 : x ≤ 4294967295) (hd : decW x = (⟨2, false, true, a, b, c, op, im⟩, 0)) (hl : lineW x = (lineI ⟨2, false, true, a, b, c, op, im⟩, 0))
    (a0 : 0 ≤ a) (a1 : a ≤ 15) (b0 : 0 ≤ b) (b1 : b ≤ 15) (c0 : 0 ≤ c) (c1 : c ≤ 15) (o0 : 0 ≤ op) (o1 : op ≤ 11) (i0 : -2147483648 < im) (i1 : im < 2147483648) : Calls Tryz.prog 22 #[.int .u32 x] w (AtLine x w) := by
  obtain ⟨SA, hSA⟩ : ∃ S : ByteArray, (⟨(regL a).toArray⟩ : ByteArray) = S := ⟨_, rfl⟩
  have zA : SA.size ≤ 21 := by rw [← hSA, size_mk]; exact regL_len (by omega) (by omega)
  obtain ⟨SB, hSB⟩ : ∃ S : ByteArray, (⟨(regL b).toArray⟩ : ByteArray) = S := ⟨_, rfl⟩
  have zB : SB.size ≤ 21 := by rw [← hSB, size_mk]; exact regL_len (by omega) (by omega)
  obtain ⟨SI, hSI⟩ : ∃ S : ByteArray, (⟨(Lib.itoa im).toArray⟩ : ByteArray) = S := ⟨_, rfl⟩
  have zI : SI.size ≤ 20 := by rw [← hSI, size_mk]; exact itoa_len i0 i1
  have y0 : ¬ (9223372036854775807 < 4 + SA.size) := by omega
  have y1 : ¬ (9223372036854775807 < 4 + SA.size + 2) := by omega
  have y2 : ¬ (9223372036854775807 < 4 + SA.size + 2 + SB.size) := by omega
  have y3 : ¬ (9223372036854775807 < 4 + SA.size + 2 + SB.size + 2) := by omega
  have y4 : ¬ (9223372036854775807 < 4 + SA.size + 2 + SB.size + 2 + SI.size) := by omega
  have hfin : (⟨#[76, 68]⟩ : ByteArray) ++ (⟨#[66]⟩ : ByteArray) ++ (⟨#[32]⟩ : ByteArray) ++ SA ++ (⟨#[44, 32]⟩ : ByteArray) ++ SB ++ (⟨#[44, 32]⟩ : ByteArray) ++ SI = ⟨(lineI ⟨2, false, true, a, b, c, op, im⟩).toArray⟩ := by
    apply str_of
    rw [← hSA, ← hSB, ← hSI]
    simp [ByteArray.data_append, lineI, nameI, restI, markL, regL]
  have HSA := Lib.hid hSA
  have HSB := Lib.hid hSB
  have HSI := Lib.hid hSI
  have HF := Lib.hid hfin
  clear hfin hSA hSB hSI
  have o2 : op < 12 := by omega
  have a2 : a < 16 := by omega
  have HD := Lib.hid hd
  have HL := Lib.hid hl
  clear hd hl
  go_enter Tryz.func22, Tryz.ntmps22
  go_wp2_with fail
  refine (rr_Decode x _ h0 h1).mono ?_
  rintro e w1 ⟨rfl, hB⟩
  rw [HD.out]
  simp only [insV_eq]
  go_wp2_with fail
  refine any_begin later_goes (by kernel_rfl) ?_
  generalize hW : World.drew _ = W0
  have hb : W0.heap[w1.heap.size]? = some (.cells #[.int .i64 2, .bool false, .bool true, .int .i64 a, .int .i64 b, .int .i64 c, .int .i64 op, .int .i64 im] 45 (0, 0)) := by rw [← hW]; exact b_new _ _
  obtain ⟨-, g1, -, f0, f1, f2, f3, f4⟩ := b_cells8 hb
  have hB0 : Below w.heap.size w W0 := by rw [← hW]; exact (bthen hB (ablow _ _)).drew
  clear hW hb
  refine any_take later_goes 0 ?_ ?_ (by simp only [List.getElem?_toArray, List.getElem?_cons_succ, List.getElem?_cons_zero]; exact rfl) (by kernel_rfl) (by kernel_rfl) (by kernel_rfl) (fun _ _ _ _ _ h => h) (by rfl) ?_ ?_
  rotate_left
  · intro wl hL
    have lf0 := a_keep hL f0; have lf1 := a_keep hL f1; have lf2 := a_keep hL f2; have lf3 := a_keep hL f3; have lf4 := a_keep hL f4
    go_simp
    try with_reducible rfl
  try simp only [Act.put, List.setIfInBounds_toArray, List.set_cons_zero, List.set_cons_succ]
  refine any_take later_goes 1 ?_ ?_ (by simp only [List.getElem?_toArray, List.getElem?_cons_succ, List.getElem?_cons_zero]; exact rfl) (by kernel_rfl) (by kernel_rfl) (by kernel_rfl) (fun _ _ _ _ _ h => h) (by rfl) ?_ ?_
  rotate_left
  · intro wl hL
    have lf0 := a_keep hL f0; have lf1 := a_keep hL f1; have lf2 := a_keep hL f2; have lf3 := a_keep hL f3; have lf4 := a_keep hL f4
    go_simp
    try with_reducible rfl
  try simp only [Act.put, List.setIfInBounds_toArray, List.set_cons_zero, List.set_cons_succ]
  refine any_take later_goes 2 ?_ ?_ (by simp only [List.getElem?_toArray, List.getElem?_cons_succ, List.getElem?_cons_zero]; exact rfl) (by kernel_rfl) (by kernel_rfl) (by kernel_rfl) (fun _ _ _ _ _ h => h) (by rfl) ?_ ?_
  rotate_left
  · intro wl hL
    have lf0 := a_keep hL f0; have lf1 := a_keep hL f1; have lf2 := a_keep hL f2; have lf3 := a_keep hL f3; have lf4 := a_keep hL f4
    go_simp
    try with_reducible rfl
  try simp only [Act.put, List.setIfInBounds_toArray, List.set_cons_zero, List.set_cons_succ]
  refine any_take later_goes 3 ?_ ?_ (by simp only [List.getElem?_toArray, List.getElem?_cons_succ, List.getElem?_cons_zero]; exact rfl) (by kernel_rfl) (by kernel_rfl) (by kernel_rfl) (fun _ _ _ _ _ h => h) (by rfl) ?_ ?_
  rotate_left
  · intro wl hL
    have lf0 := a_keep hL f0; have lf1 := a_keep hL f1; have lf2 := a_keep hL f2; have lf3 := a_keep hL f3; have lf4 := a_keep hL f4
    go_simp
    try with_reducible rfl
  try simp only [Act.put, List.setIfInBounds_toArray, List.set_cons_zero, List.set_cons_succ]
  refine any_take later_goes 7 ?_ ?_ (by simp only [List.getElem?_toArray, List.getElem?_cons_succ, List.getElem?_cons_zero]; exact rfl) (by kernel_rfl) (by kernel_rfl) (by kernel_rfl) (fun _ _ _ _ _ h => h) (by rfl) ?_ ?_
  rotate_left
  · intro wl hL
    have lf0 := a_keep hL f0; have lf1 := a_keep hL f1; have lf2 := a_keep hL f2; have lf3 := a_keep hL f3; have lf4 := a_keep hL f4
    go_simp
    try with_reducible rfl
  try simp only [Act.put, List.setIfInBounds_toArray, List.set_cons_zero, List.set_cons_succ]
  refine any_take later_goes 8 ?_ ?_ (by simp only [List.getElem?_toArray, List.getElem?_cons_succ, List.getElem?_cons_zero]; exact rfl) (by kernel_rfl) (by kernel_rfl) (by kernel_rfl) (fun _ _ _ _ _ h => h) (by rfl) ?_ ?_
  rotate_left
  · intro wl hL
    have lf0 := a_keep hL f0; have lf1 := a_keep hL f1; have lf2 := a_keep hL f2; have lf3 := a_keep hL f3; have lf4 := a_keep hL f4
    go_simp
    try with_reducible rfl
  try simp only [Act.put, List.setIfInBounds_toArray, List.set_cons_zero, List.set_cons_succ]
  refine any_take later_goes 12 ?_ ?_ (by simp only [List.getElem?_toArray, List.getElem?_cons_succ, List.getElem?_cons_zero]; exact rfl) (by kernel_rfl) (by kernel_rfl) (by kernel_rfl) (fun _ _ _ _ _ h => h) (by rfl) ?_ ?_
  rotate_left
  · intro wl hL
    have lf0 := a_keep hL f0; have lf1 := a_keep hL f1; have lf2 := a_keep hL f2; have lf3 := a_keep hL f3; have lf4 := a_keep hL f4
    go_simp
    try with_reducible rfl
  try simp only [Act.put, List.setIfInBounds_toArray, List.set_cons_zero, List.set_cons_succ]
  refine any_take later_goes 13 ?_ ?_ (by simp only [List.getElem?_toArray, List.getElem?_cons_succ, List.getElem?_cons_zero]; exact rfl) (by kernel_rfl) (by kernel_rfl) (by kernel_rfl) (fun _ _ _ _ _ h => h) (by rfl) ?_ ?_
  rotate_left
  · intro wl hL
    have lf0 := a_keep hL f0; have lf1 := a_keep hL f1; have lf2 := a_keep hL f2; have lf3 := a_keep hL f3; have lf4 := a_keep hL f4
    go_simp
    try with_reducible rfl
  try simp only [Act.put, List.setIfInBounds_toArray, List.set_cons_zero, List.set_cons_succ]
  refine any_one 4 _ (by kernel_rfl) (by simp only [List.getElem?_toArray, List.getElem?_cons_succ, List.getElem?_cons_zero]; exact rfl) (fun K hK => ?_)
  go_simp
  refine (a_reg _ _ (by omega) (by omega)).mono ?_
  rintro e wr1 ⟨rfl, hBr⟩
  rw [HSA.out]
  refine hK.out _ _ hBr ?_
  clear hK K
  try simp only [Act.put, List.setIfInBounds_toArray, List.set_cons_zero, List.set_cons_succ]
  replace hB0 := bthen hB0 hBr
  clear hBr
  refine any_take later_goes 5 ?_ ?_ (by simp only [List.getElem?_toArray, List.getElem?_cons_succ, List.getElem?_cons_zero]; exact rfl) (by kernel_rfl) (by kernel_rfl) (by kernel_rfl) (fun _ _ _ _ _ h => h) (by rfl) ?_ ?_
  rotate_left
  · intro wl hL
    skip
    go_simp
    try with_reducible rfl
  try simp only [Act.put, List.setIfInBounds_toArray, List.set_cons_zero, List.set_cons_succ]
  refine any_take later_goes 6 ?_ ?_ (by simp only [List.getElem?_toArray, List.getElem?_cons_succ, List.getElem?_cons_zero]; exact rfl) (by kernel_rfl) (by kernel_rfl) (by kernel_rfl) (fun _ _ _ _ _ h => h) (by rfl) ?_ ?_
  rotate_left
  · intro wl hL
    skip
    go_simp
    try with_reducible rfl
  try simp only [Act.put, List.setIfInBounds_toArray, List.set_cons_zero, List.set_cons_succ]
  refine any_one 9 _ (by kernel_rfl) (by simp only [List.getElem?_toArray, List.getElem?_cons_succ, List.getElem?_cons_zero]; exact rfl) (fun K hK => ?_)
  go_simp
  refine (a_reg _ _ (by omega) (by omega)).mono ?_
  rintro e wr2 ⟨rfl, hBr⟩
  rw [HSB.out]
  refine hK.out _ _ hBr ?_
  clear hK K
  try simp only [Act.put, List.setIfInBounds_toArray, List.set_cons_zero, List.set_cons_succ]
  replace hB0 := bthen hB0 hBr
  clear hBr
  refine any_take later_goes 10 ?_ ?_ (by simp only [List.getElem?_toArray, List.getElem?_cons_succ, List.getElem?_cons_zero]; exact rfl) (by kernel_rfl) (by kernel_rfl) (by kernel_rfl) (fun _ _ _ _ _ h => h) (by rfl) ?_ ?_
  rotate_left
  · intro wl hL
    skip
    go_simp
    try with_reducible rfl
  try simp only [Act.put, List.setIfInBounds_toArray, List.set_cons_zero, List.set_cons_succ]
  refine any_take later_goes 11 ?_ ?_ (by simp only [List.getElem?_toArray, List.getElem?_cons_succ, List.getElem?_cons_zero]; exact rfl) (by kernel_rfl) (by kernel_rfl) (by kernel_rfl) (fun _ _ _ _ _ h => h) (by rfl) ?_ ?_
  rotate_left
  · intro wl hL
    skip
    go_simp
    try with_reducible rfl
  try simp only [Act.put, List.setIfInBounds_toArray, List.set_cons_zero, List.set_cons_succ]
  refine any_one 14 _ (by kernel_rfl) (by simp only [List.getElem?_toArray, List.getElem?_cons_succ, List.getElem?_cons_zero]; exact rfl) (fun K hK => ?_)
  go_simp
  refine (a_Dec _ _ i0 i1).mono ?_
  rintro e wr3 ⟨rfl, hBr⟩
  rw [HSI.out]
  refine hK.out _ _ hBr ?_
  clear hK K
  try simp only [Act.put, List.setIfInBounds_toArray, List.set_cons_zero, List.set_cons_succ]
  replace hB0 := bthen hB0 hBr
  clear hBr
  refine any_take later_goes 15 ?_ ?_ (by simp only [List.getElem?_toArray, List.getElem?_cons_succ, List.getElem?_cons_zero]; exact rfl) (by kernel_rfl) (by kernel_rfl) (by kernel_rfl) (fun _ _ _ _ _ h => h) (by rfl) ?_ ?_
  rotate_left
  · intro wl hL
    skip
    go_simp
    try with_reducible rfl
  try simp only [Act.put, List.setIfInBounds_toArray, List.set_cons_zero, List.set_cons_succ]
  refine any_take later_goes 16 ?_ ?_ (by simp only [List.getElem?_toArray, List.getElem?_cons_succ, List.getElem?_cons_zero]; exact rfl) (by kernel_rfl) (by kernel_rfl) (by kernel_rfl) (fun _ _ _ _ _ h => h) (by rfl) ?_ ?_
  rotate_left
  · intro wl hL
    skip
    go_simp
    try with_reducible rfl
  try simp only [Act.put, List.setIfInBounds_toArray, List.set_cons_zero, List.set_cons_succ]
  refine any_take later_goes 17 ?_ ?_ (by simp only [List.getElem?_toArray, List.getElem?_cons_succ, List.getElem?_cons_zero]; exact rfl) (by kernel_rfl) (by kernel_rfl) (by kernel_rfl) (fun _ _ _ _ _ h => h) (by rfl) ?_ ?_
  rotate_left
  · intro wl hL
    skip
    go_simp
    try with_reducible rfl
  try simp only [Act.put, List.setIfInBounds_toArray, List.set_cons_zero, List.set_cons_succ]
  refine any_done (by kernel_rfl) ?_ _
  go_wp2_with fail
  go_ret2
  exact ⟨by rw [HL.out, ← HF.out]; rfl, hB0⟩
set_option maxRecDepth 100000 in
set_option maxHeartbeats 8000000 in
theorem rline210 (x a b c op im : Int) (w : World) (h0 : 0 ≤ x) (h1 : x ≤ 4294967295) (hd : decW x = (⟨2, true, false, a, b, c, op, im⟩, 0)) (hl : lineW x = (lineI ⟨2, true, false, a, b, c, op, im⟩, 0))
    (a0 : 0 ≤ a) (a1 : a ≤ 15) (b0 : 0 ≤ b) (b1 : b ≤ 15) (c0 : 0 ≤ c) (c1 : c ≤ 15) (o0 : 0 ≤ op) (o1 : op ≤ 11) (i0 : -2147483648 < im) (i1 : im < 2147483648) : Calls Tryz.prog 22 #[.int .u32 x] w (AtLine x w) := by
  obtain ⟨SA, hSA⟩ : ∃ S : ByteArray, (⟨(regL a).toArray⟩ : ByteArray) = S := ⟨_, rfl⟩
  have zA : SA.size ≤ 21 := by rw [← hSA, size_mk]; exact regL_len (by omega) (by omega)
  obtain ⟨SB, hSB⟩ : ∃ S : ByteArray, (⟨(regL b).toArray⟩ : ByteArray) = S := ⟨_, rfl⟩
  have zB : SB.size ≤ 21 := by rw [← hSB, size_mk]; exact regL_len (by omega) (by omega)
  obtain ⟨SI, hSI⟩ : ∃ S : ByteArray, (⟨(Lib.itoa im).toArray⟩ : ByteArray) = S := ⟨_, rfl⟩
  have zI : SI.size ≤ 20 := by rw [← hSI, size_mk]; exact itoa_len i0 i1
  have y0 : ¬ (9223372036854775807 < 4 + SA.size) := by omega
  have y1 : ¬ (9223372036854775807 < 4 + SA.size + 2) := by omega
  have y2 : ¬ (9223372036854775807 < 4 + SA.size + 2 + SB.size) := by omega
  have y3 : ¬ (9223372036854775807 < 4 + SA.size + 2 + SB.size + 2) := by omega
  have y4 : ¬ (9223372036854775807 < 4 + SA.size + 2 + SB.size + 2 + SI.size) := by omega
  have hfin : (⟨#[83, 84]⟩ : ByteArray) ++ (⟨#[82]⟩ : ByteArray) ++ (⟨#[32]⟩ : ByteArray) ++ SA ++ (⟨#[44, 32]⟩ : ByteArray) ++ SB ++ (⟨#[44, 32]⟩ : ByteArray) ++ SI = ⟨(lineI ⟨2, true, false, a, b, c, op, im⟩).toArray⟩ := by
    apply str_of
    rw [← hSA, ← hSB, ← hSI]
    simp [ByteArray.data_append, lineI, nameI, restI, markL, regL]
  have HSA := Lib.hid hSA
  have HSB := Lib.hid hSB
  have HSI := Lib.hid hSI
  have HF := Lib.hid hfin
  clear hfin hSA hSB hSI
  have o2 : op < 12 := by omega
  have a2 : a < 16 := by omega
  have HD := Lib.hid hd
  have HL := Lib.hid hl
  clear hd hl
  go_enter Tryz.func22, Tryz.ntmps22
  go_wp2_with fail
  refine (rr_Decode x _ h0 h1).mono ?_
  rintro e w1 ⟨rfl, hB⟩
  rw [HD.out]
  simp only [insV_eq]
  go_wp2_with fail
  refine any_begin later_goes (by kernel_rfl) ?_
  generalize hW : World.drew _ = W0
  have hb : W0.heap[w1.heap.size]? = some (.cells #[.int .i64 2, .bool true, .bool false, .int .i64 a, .int .i64 b, .int .i64 c, .int .i64 op, .int .i64 im] 45 (0, 0)) := by rw [← hW]; exact b_new _ _
  obtain ⟨-, g1, -, f0, f1, f2, f3, f4⟩ := b_cells8 hb
  have hB0 : Below w.heap.size w W0 := by rw [← hW]; exact (bthen hB (ablow _ _)).drew
  clear hW hb
  refine any_take later_goes 0 ?_ ?_ (by simp only [List.getElem?_toArray, List.getElem?_cons_succ, List.getElem?_cons_zero]; exact rfl) (by kernel_rfl) (by kernel_rfl) (by kernel_rfl) (fun _ _ _ _ _ h => h) (by rfl) ?_ ?_
  rotate_left
  · intro wl hL
    have lf0 := a_keep hL f0; have lf1 := a_keep hL f1; have lf2 := a_keep hL f2; have lf3 := a_keep hL f3; have lf4 := a_keep hL f4
    go_simp
    try with_reducible rfl
  try simp only [Act.put, List.setIfInBounds_toArray, List.set_cons_zero, List.set_cons_succ]
  refine any_take later_goes 1 ?_ ?_ (by simp only [List.getElem?_toArray, List.getElem?_cons_succ, List.getElem?_cons_zero]; exact rfl) (by kernel_rfl) (by kernel_rfl) (by kernel_rfl) (fun _ _ _ _ _ h => h) (by rfl) ?_ ?_
  rotate_left
  · intro wl hL
    have lf0 := a_keep hL f0; have lf1 := a_keep hL f1; have lf2 := a_keep hL f2; have lf3 := a_keep hL f3; have lf4 := a_keep hL f4
    go_simp
    try with_reducible rfl
  try simp only [Act.put, List.setIfInBounds_toArray, List.set_cons_zero, List.set_cons_succ]
  refine any_take later_goes 2 ?_ ?_ (by simp only [List.getElem?_toArray, List.getElem?_cons_succ, List.getElem?_cons_zero]; exact rfl) (by kernel_rfl) (by kernel_rfl) (by kernel_rfl) (fun _ _ _ _ _ h => h) (by rfl) ?_ ?_
  rotate_left
  · intro wl hL
    have lf0 := a_keep hL f0; have lf1 := a_keep hL f1; have lf2 := a_keep hL f2; have lf3 := a_keep hL f3; have lf4 := a_keep hL f4
    go_simp
    try with_reducible rfl
  try simp only [Act.put, List.setIfInBounds_toArray, List.set_cons_zero, List.set_cons_succ]
  refine any_take later_goes 3 ?_ ?_ (by simp only [List.getElem?_toArray, List.getElem?_cons_succ, List.getElem?_cons_zero]; exact rfl) (by kernel_rfl) (by kernel_rfl) (by kernel_rfl) (fun _ _ _ _ _ h => h) (by rfl) ?_ ?_
  rotate_left
  · intro wl hL
    have lf0 := a_keep hL f0; have lf1 := a_keep hL f1; have lf2 := a_keep hL f2; have lf3 := a_keep hL f3; have lf4 := a_keep hL f4
    go_simp
    try with_reducible rfl
  try simp only [Act.put, List.setIfInBounds_toArray, List.set_cons_zero, List.set_cons_succ]
  refine any_take later_goes 7 ?_ ?_ (by simp only [List.getElem?_toArray, List.getElem?_cons_succ, List.getElem?_cons_zero]; exact rfl) (by kernel_rfl) (by kernel_rfl) (by kernel_rfl) (fun _ _ _ _ _ h => h) (by rfl) ?_ ?_
  rotate_left
  · intro wl hL
    have lf0 := a_keep hL f0; have lf1 := a_keep hL f1; have lf2 := a_keep hL f2; have lf3 := a_keep hL f3; have lf4 := a_keep hL f4
    go_simp
    try with_reducible rfl
  try simp only [Act.put, List.setIfInBounds_toArray, List.set_cons_zero, List.set_cons_succ]
  refine any_take later_goes 8 ?_ ?_ (by simp only [List.getElem?_toArray, List.getElem?_cons_succ, List.getElem?_cons_zero]; exact rfl) (by kernel_rfl) (by kernel_rfl) (by kernel_rfl) (fun _ _ _ _ _ h => h) (by rfl) ?_ ?_
  rotate_left
  · intro wl hL
    have lf0 := a_keep hL f0; have lf1 := a_keep hL f1; have lf2 := a_keep hL f2; have lf3 := a_keep hL f3; have lf4 := a_keep hL f4
    go_simp
    try with_reducible rfl
  try simp only [Act.put, List.setIfInBounds_toArray, List.set_cons_zero, List.set_cons_succ]
  refine any_take later_goes 12 ?_ ?_ (by simp only [List.getElem?_toArray, List.getElem?_cons_succ, List.getElem?_cons_zero]; exact rfl) (by kernel_rfl) (by kernel_rfl) (by kernel_rfl) (fun _ _ _ _ _ h => h) (by rfl) ?_ ?_
  rotate_left
  · intro wl hL
    have lf0 := a_keep hL f0; have lf1 := a_keep hL f1; have lf2 := a_keep hL f2; have lf3 := a_keep hL f3; have lf4 := a_keep hL f4
    go_simp
    try with_reducible rfl
  try simp only [Act.put, List.setIfInBounds_toArray, List.set_cons_zero, List.set_cons_succ]
  refine any_take later_goes 13 ?_ ?_ (by simp only [List.getElem?_toArray, List.getElem?_cons_succ, List.getElem?_cons_zero]; exact rfl) (by kernel_rfl) (by kernel_rfl) (by kernel_rfl) (fun _ _ _ _ _ h => h) (by rfl) ?_ ?_
  rotate_left
  · intro wl hL
    have lf0 := a_keep hL f0; have lf1 := a_keep hL f1; have lf2 := a_keep hL f2; have lf3 := a_keep hL f3; have lf4 := a_keep hL f4
    go_simp
    try with_reducible rfl
  try simp only [Act.put, List.setIfInBounds_toArray, List.set_cons_zero, List.set_cons_succ]
  refine any_one 4 _ (by kernel_rfl) (by simp only [List.getElem?_toArray, List.getElem?_cons_succ, List.getElem?_cons_zero]; exact rfl) (fun K hK => ?_)
  go_simp
  refine (a_reg _ _ (by omega) (by omega)).mono ?_
  rintro e wr1 ⟨rfl, hBr⟩
  rw [HSA.out]
  refine hK.out _ _ hBr ?_
  clear hK K
  try simp only [Act.put, List.setIfInBounds_toArray, List.set_cons_zero, List.set_cons_succ]
  replace hB0 := bthen hB0 hBr
  clear hBr
  refine any_take later_goes 5 ?_ ?_ (by simp only [List.getElem?_toArray, List.getElem?_cons_succ, List.getElem?_cons_zero]; exact rfl) (by kernel_rfl) (by kernel_rfl) (by kernel_rfl) (fun _ _ _ _ _ h => h) (by rfl) ?_ ?_
  rotate_left
  · intro wl hL
    skip
    go_simp
    try with_reducible rfl
  try simp only [Act.put, List.setIfInBounds_toArray, List.set_cons_zero, List.set_cons_succ]
  refine any_take later_goes 6 ?_ ?_ (by simp only [List.getElem?_toArray, List.getElem?_cons_succ, List.getElem?_cons_zero]; exact rfl) (by kernel_rfl) (by kernel_rfl) (by kernel_rfl) (fun _ _ _ _ _ h => h) (by rfl) ?_ ?_
  rotate_left
  · intro wl hL
    skip
    go_simp
    try with_reducible rfl
  try simp only [Act.put, List.setIfInBounds_toArray, List.set_cons_zero, List.set_cons_succ]
  refine any_one 9 _ (by kernel_rfl) (by simp only [List.getElem?_toArray, List.getElem?_cons_succ, List.getElem?_cons_zero]; exact rfl) (fun K hK => ?_)
  go_simp
  refine (a_reg _ _ (by omega) (by omega)).mono ?_
  rintro e wr2 ⟨rfl, hBr⟩
  rw [HSB.out]
  refine hK.out _ _ hBr ?_
  clear hK K
  try simp only [Act.put, List.setIfInBounds_toArray, List.set_cons_zero, List.set_cons_succ]
  replace hB0 := bthen hB0 hBr
  clear hBr
  refine any_take later_goes 10 ?_ ?_ (by simp only [List.getElem?_toArray, List.getElem?_cons_succ, List.getElem?_cons_zero]; exact rfl) (by kernel_rfl) (by kernel_rfl) (by kernel_rfl) (fun _ _ _ _ _ h => h) (by rfl) ?_ ?_
  rotate_left
  · intro wl hL
    skip
    go_simp
    try with_reducible rfl
  try simp only [Act.put, List.setIfInBounds_toArray, List.set_cons_zero, List.set_cons_succ]
  refine any_take later_goes 11 ?_ ?_ (by simp only [List.getElem?_toArray, List.getElem?_cons_succ, List.getElem?_cons_zero]; exact rfl) (by kernel_rfl) (by kernel_rfl) (by kernel_rfl) (fun _ _ _ _ _ h => h) (by rfl) ?_ ?_
  rotate_left
  · intro wl hL
    skip
    go_simp
    try with_reducible rfl
  try simp only [Act.put, List.setIfInBounds_toArray, List.set_cons_zero, List.set_cons_succ]
  refine any_one 14 _ (by kernel_rfl) (by simp only [List.getElem?_toArray, List.getElem?_cons_succ, List.getElem?_cons_zero]; exact rfl) (fun K hK => ?_)
  go_simp
  refine (a_Dec _ _ i0 i1).mono ?_
  rintro e wr3 ⟨rfl, hBr⟩
  rw [HSI.out]
  refine hK.out _ _ hBr ?_
  clear hK K
  try simp only [Act.put, List.setIfInBounds_toArray, List.set_cons_zero, List.set_cons_succ]
  replace hB0 := bthen hB0 hBr
  clear hBr
  refine any_take later_goes 15 ?_ ?_ (by simp only [List.getElem?_toArray, List.getElem?_cons_succ, List.getElem?_cons_zero]; exact rfl) (by kernel_rfl) (by kernel_rfl) (by kernel_rfl) (fun _ _ _ _ _ h => h) (by rfl) ?_ ?_
  rotate_left
  · intro wl hL
    skip
    go_simp
    try with_reducible rfl
  try simp only [Act.put, List.setIfInBounds_toArray, List.set_cons_zero, List.set_cons_succ]
  refine any_take later_goes 16 ?_ ?_ (by simp only [List.getElem?_toArray, List.getElem?_cons_succ, List.getElem?_cons_zero]; exact rfl) (by kernel_rfl) (by kernel_rfl) (by kernel_rfl) (fun _ _ _ _ _ h => h) (by rfl) ?_ ?_
  rotate_left
  · intro wl hL
    skip
    go_simp
    try with_reducible rfl
  try simp only [Act.put, List.setIfInBounds_toArray, List.set_cons_zero, List.set_cons_succ]
  refine any_take later_goes 17 ?_ ?_ (by simp only [List.getElem?_toArray, List.getElem?_cons_succ, List.getElem?_cons_zero]; exact rfl) (by kernel_rfl) (by kernel_rfl) (by kernel_rfl) (fun _ _ _ _ _ h => h) (by rfl) ?_ ?_
  rotate_left
  · intro wl hL
    skip
    go_simp
    try with_reducible rfl
  try simp only [Act.put, List.setIfInBounds_toArray, List.set_cons_zero, List.set_cons_succ]
  refine any_done (by kernel_rfl) ?_ _
  go_wp2_with fail
  go_ret2
  exact ⟨by rw [HL.out, ← HF.out]; rfl, hB0⟩
set_option maxRecDepth 100000 in
set_option maxHeartbeats 8000000 in
theorem rline211 (x a b c op im : Int) (w : World) (h0 : 0 ≤ x) (h1 : x ≤ 4294967295) (hd : decW x = (⟨2, true, true, a, b, c, op, im⟩, 0)) (hl : lineW x = (lineI ⟨2, true, true, a, b, c, op, im⟩, 0))
    (a0 : 0 ≤ a) (a1 : a ≤ 15) (b0 : 0 ≤ b) (b1 : b ≤ 15) (c0 : 0 ≤ c) (c1 : c ≤ 15) (o0 : 0 ≤ op) (o1 : op ≤ 11) (i0 : -2147483648 < im) (i1 : im < 2147483648) : Calls Tryz.prog 22 #[.int .u32 x] w (AtLine x w) := by
  obtain ⟨SA, hSA⟩ : ∃ S : ByteArray, (⟨(regL a).toArray⟩ : ByteArray) = S := ⟨_, rfl⟩
  have zA : SA.size ≤ 21 := by rw [← hSA, size_mk]; exact regL_len (by omega) (by omega)
  obtain ⟨SB, hSB⟩ : ∃ S : ByteArray, (⟨(regL b).toArray⟩ : ByteArray) = S := ⟨_, rfl⟩
  have zB : SB.size ≤ 21 := by rw [← hSB, size_mk]; exact regL_len (by omega) (by omega)
  obtain ⟨SI, hSI⟩ : ∃ S : ByteArray, (⟨(Lib.itoa im).toArray⟩ : ByteArray) = S := ⟨_, rfl⟩
  have zI : SI.size ≤ 20 := by rw [← hSI, size_mk]; exact itoa_len i0 i1
  have y0 : ¬ (9223372036854775807 < 4 + SA.size) := by omega
  have y1 : ¬ (9223372036854775807 < 4 + SA.size + 2) := by omega
  have y2 : ¬ (9223372036854775807 < 4 + SA.size + 2 + SB.size) := by omega
  have y3 : ¬ (9223372036854775807 < 4 + SA.size + 2 + SB.size + 2) := by omega
  have y4 : ¬ (9223372036854775807 < 4 + SA.size + 2 + SB.size + 2 + SI.size) := by omega
  have hfin : (⟨#[83, 84]⟩ : ByteArray) ++ (⟨#[66]⟩ : ByteArray) ++ (⟨#[32]⟩ : ByteArray) ++ SA ++ (⟨#[44, 32]⟩ : ByteArray) ++ SB ++ (⟨#[44, 32]⟩ : ByteArray) ++ SI = ⟨(lineI ⟨2, true, true, a, b, c, op, im⟩).toArray⟩ := by
    apply str_of
    rw [← hSA, ← hSB, ← hSI]
    simp [ByteArray.data_append, lineI, nameI, restI, markL, regL]
  have HSA := Lib.hid hSA
  have HSB := Lib.hid hSB
  have HSI := Lib.hid hSI
  have HF := Lib.hid hfin
  clear hfin hSA hSB hSI
  have o2 : op < 12 := by omega
  have a2 : a < 16 := by omega
  have HD := Lib.hid hd
  have HL := Lib.hid hl
  clear hd hl
  go_enter Tryz.func22, Tryz.ntmps22
  go_wp2_with fail
  refine (rr_Decode x _ h0 h1).mono ?_
  rintro e w1 ⟨rfl, hB⟩
  rw [HD.out]
  simp only [insV_eq]
  go_wp2_with fail
  refine any_begin later_goes (by kernel_rfl) ?_
  generalize hW : World.drew _ = W0
  have hb : W0.heap[w1.heap.size]? = some (.cells #[.int .i64 2, .bool true, .bool true, .int .i64 a, .int .i64 b, .int .i64 c, .int .i64 op, .int .i64 im] 45 (0, 0)) := by rw [← hW]; exact b_new _ _
  obtain ⟨-, g1, -, f0, f1, f2, f3, f4⟩ := b_cells8 hb
  have hB0 : Below w.heap.size w W0 := by rw [← hW]; exact (bthen hB (ablow _ _)).drew
  clear hW hb
  refine any_take later_goes 0 ?_ ?_ (by simp only [List.getElem?_toArray, List.getElem?_cons_succ, List.getElem?_cons_zero]; exact rfl) (by kernel_rfl) (by kernel_rfl) (by kernel_rfl) (fun _ _ _ _ _ h => h) (by rfl) ?_ ?_
  rotate_left
  · intro wl hL
    have lf0 := a_keep hL f0; have lf1 := a_keep hL f1; have lf2 := a_keep hL f2; have lf3 := a_keep hL f3; have lf4 := a_keep hL f4
    go_simp
    try with_reducible rfl
  try simp only [Act.put, List.setIfInBounds_toArray, List.set_cons_zero, List.set_cons_succ]
  refine any_take later_goes 1 ?_ ?_ (by simp only [List.getElem?_toArray, List.getElem?_cons_succ, List.getElem?_cons_zero]; exact rfl) (by kernel_rfl) (by kernel_rfl) (by kernel_rfl) (fun _ _ _ _ _ h => h) (by rfl) ?_ ?_
  rotate_left
  · intro wl hL
    have lf0 := a_keep hL f0; have lf1 := a_keep hL f1; have lf2 := a_keep hL f2; have lf3 := a_keep hL f3; have lf4 := a_keep hL f4
    go_simp
    try with_reducible rfl
  try simp only [Act.put, List.setIfInBounds_toArray, List.set_cons_zero, List.set_cons_succ]
  refine any_take later_goes 2 ?_ ?_ (by simp only [List.getElem?_toArray, List.getElem?_cons_succ, List.getElem?_cons_zero]; exact rfl) (by kernel_rfl) (by kernel_rfl) (by kernel_rfl) (fun _ _ _ _ _ h => h) (by rfl) ?_ ?_
  rotate_left
  · intro wl hL
    have lf0 := a_keep hL f0; have lf1 := a_keep hL f1; have lf2 := a_keep hL f2; have lf3 := a_keep hL f3; have lf4 := a_keep hL f4
    go_simp
    try with_reducible rfl
  try simp only [Act.put, List.setIfInBounds_toArray, List.set_cons_zero, List.set_cons_succ]
  refine any_take later_goes 3 ?_ ?_ (by simp only [List.getElem?_toArray, List.getElem?_cons_succ, List.getElem?_cons_zero]; exact rfl) (by kernel_rfl) (by kernel_rfl) (by kernel_rfl) (fun _ _ _ _ _ h => h) (by rfl) ?_ ?_
  rotate_left
  · intro wl hL
    have lf0 := a_keep hL f0; have lf1 := a_keep hL f1; have lf2 := a_keep hL f2; have lf3 := a_keep hL f3; have lf4 := a_keep hL f4
    go_simp
    try with_reducible rfl
  try simp only [Act.put, List.setIfInBounds_toArray, List.set_cons_zero, List.set_cons_succ]
  refine any_take later_goes 7 ?_ ?_ (by simp only [List.getElem?_toArray, List.getElem?_cons_succ, List.getElem?_cons_zero]; exact rfl) (by kernel_rfl) (by kernel_rfl) (by kernel_rfl) (fun _ _ _ _ _ h => h) (by rfl) ?_ ?_
  rotate_left
  · intro wl hL
    have lf0 := a_keep hL f0; have lf1 := a_keep hL f1; have lf2 := a_keep hL f2; have lf3 := a_keep hL f3; have lf4 := a_keep hL f4
    go_simp
    try with_reducible rfl
  try simp only [Act.put, List.setIfInBounds_toArray, List.set_cons_zero, List.set_cons_succ]
  refine any_take later_goes 8 ?_ ?_ (by simp only [List.getElem?_toArray, List.getElem?_cons_succ, List.getElem?_cons_zero]; exact rfl) (by kernel_rfl) (by kernel_rfl) (by kernel_rfl) (fun _ _ _ _ _ h => h) (by rfl) ?_ ?_
  rotate_left
  · intro wl hL
    have lf0 := a_keep hL f0; have lf1 := a_keep hL f1; have lf2 := a_keep hL f2; have lf3 := a_keep hL f3; have lf4 := a_keep hL f4
    go_simp
    try with_reducible rfl
  try simp only [Act.put, List.setIfInBounds_toArray, List.set_cons_zero, List.set_cons_succ]
  refine any_take later_goes 12 ?_ ?_ (by simp only [List.getElem?_toArray, List.getElem?_cons_succ, List.getElem?_cons_zero]; exact rfl) (by kernel_rfl) (by kernel_rfl) (by kernel_rfl) (fun _ _ _ _ _ h => h) (by rfl) ?_ ?_
  rotate_left
  · intro wl hL
    have lf0 := a_keep hL f0; have lf1 := a_keep hL f1; have lf2 := a_keep hL f2; have lf3 := a_keep hL f3; have lf4 := a_keep hL f4
    go_simp
    try with_reducible rfl
  try simp only [Act.put, List.setIfInBounds_toArray, List.set_cons_zero, List.set_cons_succ]
  refine any_take later_goes 13 ?_ ?_ (by simp only [List.getElem?_toArray, List.getElem?_cons_succ, List.getElem?_cons_zero]; exact rfl) (by kernel_rfl) (by kernel_rfl) (by kernel_rfl) (fun _ _ _ _ _ h => h) (by rfl) ?_ ?_
  rotate_left
  · intro wl hL
    have lf0 := a_keep hL f0; have lf1 := a_keep hL f1; have lf2 := a_keep hL f2; have lf3 := a_keep hL f3; have lf4 := a_keep hL f4
    go_simp
    try with_reducible rfl
  try simp only [Act.put, List.setIfInBounds_toArray, List.set_cons_zero, List.set_cons_succ]
  refine any_one 4 _ (by kernel_rfl) (by simp only [List.getElem?_toArray, List.getElem?_cons_succ, List.getElem?_cons_zero]; exact rfl) (fun K hK => ?_)
  go_simp
  refine (a_reg _ _ (by omega) (by omega)).mono ?_
  rintro e wr1 ⟨rfl, hBr⟩
  rw [HSA.out]
  refine hK.out _ _ hBr ?_
  clear hK K
  try simp only [Act.put, List.setIfInBounds_toArray, List.set_cons_zero, List.set_cons_succ]
  replace hB0 := bthen hB0 hBr
  clear hBr
  refine any_take later_goes 5 ?_ ?_ (by simp only [List.getElem?_toArray, List.getElem?_cons_succ, List.getElem?_cons_zero]; exact rfl) (by kernel_rfl) (by kernel_rfl) (by kernel_rfl) (fun _ _ _ _ _ h => h) (by rfl) ?_ ?_
  rotate_left
  · intro wl hL
    skip
    go_simp
    try with_reducible rfl
  try simp only [Act.put, List.setIfInBounds_toArray, List.set_cons_zero, List.set_cons_succ]
  refine any_take later_goes 6 ?_ ?_ (by simp only [List.getElem?_toArray, List.getElem?_cons_succ, List.getElem?_cons_zero]; exact rfl) (by kernel_rfl) (by kernel_rfl) (by kernel_rfl) (fun _ _ _ _ _ h => h) (by rfl) ?_ ?_
  rotate_left
  · intro wl hL
    skip
    go_simp
    try with_reducible rfl
  try simp only [Act.put, List.setIfInBounds_toArray, List.set_cons_zero, List.set_cons_succ]
  refine any_one 9 _ (by kernel_rfl) (by simp only [List.getElem?_toArray, List.getElem?_cons_succ, List.getElem?_cons_zero]; exact rfl) (fun K hK => ?_)
  go_simp
  refine (a_reg _ _ (by omega) (by omega)).mono ?_
  rintro e wr2 ⟨rfl, hBr⟩
  rw [HSB.out]
  refine hK.out _ _ hBr ?_
  clear hK K
  try simp only [Act.put, List.setIfInBounds_toArray, List.set_cons_zero, List.set_cons_succ]
  replace hB0 := bthen hB0 hBr
  clear hBr
  refine any_take later_goes 10 ?_ ?_ (by simp only [List.getElem?_toArray, List.getElem?_cons_succ, List.getElem?_cons_zero]; exact rfl) (by kernel_rfl) (by kernel_rfl) (by kernel_rfl) (fun _ _ _ _ _ h => h) (by rfl) ?_ ?_
  rotate_left
  · intro wl hL
    skip
    go_simp
    try with_reducible rfl
  try simp only [Act.put, List.setIfInBounds_toArray, List.set_cons_zero, List.set_cons_succ]
  refine any_take later_goes 11 ?_ ?_ (by simp only [List.getElem?_toArray, List.getElem?_cons_succ, List.getElem?_cons_zero]; exact rfl) (by kernel_rfl) (by kernel_rfl) (by kernel_rfl) (fun _ _ _ _ _ h => h) (by rfl) ?_ ?_
  rotate_left
  · intro wl hL
    skip
    go_simp
    try with_reducible rfl
  try simp only [Act.put, List.setIfInBounds_toArray, List.set_cons_zero, List.set_cons_succ]
  refine any_one 14 _ (by kernel_rfl) (by simp only [List.getElem?_toArray, List.getElem?_cons_succ, List.getElem?_cons_zero]; exact rfl) (fun K hK => ?_)
  go_simp
  refine (a_Dec _ _ i0 i1).mono ?_
  rintro e wr3 ⟨rfl, hBr⟩
  rw [HSI.out]
  refine hK.out _ _ hBr ?_
  clear hK K
  try simp only [Act.put, List.setIfInBounds_toArray, List.set_cons_zero, List.set_cons_succ]
  replace hB0 := bthen hB0 hBr
  clear hBr
  refine any_take later_goes 15 ?_ ?_ (by simp only [List.getElem?_toArray, List.getElem?_cons_succ, List.getElem?_cons_zero]; exact rfl) (by kernel_rfl) (by kernel_rfl) (by kernel_rfl) (fun _ _ _ _ _ h => h) (by rfl) ?_ ?_
  rotate_left
  · intro wl hL
    skip
    go_simp
    try with_reducible rfl
  try simp only [Act.put, List.setIfInBounds_toArray, List.set_cons_zero, List.set_cons_succ]
  refine any_take later_goes 16 ?_ ?_ (by simp only [List.getElem?_toArray, List.getElem?_cons_succ, List.getElem?_cons_zero]; exact rfl) (by kernel_rfl) (by kernel_rfl) (by kernel_rfl) (fun _ _ _ _ _ h => h) (by rfl) ?_ ?_
  rotate_left
  · intro wl hL
    skip
    go_simp
    try with_reducible rfl
  try simp only [Act.put, List.setIfInBounds_toArray, List.set_cons_zero, List.set_cons_succ]
  refine any_take later_goes 17 ?_ ?_ (by simp only [List.getElem?_toArray, List.getElem?_cons_succ, List.getElem?_cons_zero]; exact rfl) (by kernel_rfl) (by kernel_rfl) (by kernel_rfl) (fun _ _ _ _ _ h => h) (by rfl) ?_ ?_
  rotate_left
  · intro wl hL
    skip
    go_simp
    try with_reducible rfl
  try simp only [Act.put, List.setIfInBounds_toArray, List.set_cons_zero, List.set_cons_succ]
  refine any_done (by kernel_rfl) ?_ _
  go_wp2_with fail
  go_ret2
  exact ⟨by rw [HL.out, ← HF.out]; rfl, hB0⟩
set_option maxRecDepth 100000 in
set_option maxHeartbeats 8000000 in
theorem rline300 (x a b c op im : Int) (w : World) (h0 : 0 ≤ x) (h1 : x ≤ 4294967295) (hd : decW x = (⟨3, false, false, a, b, c, op, im⟩, 0)) (hl : lineW x = (lineI ⟨3, false, false, a, b, c, op, im⟩, 0))
    (a0 : 0 ≤ a) (a1 : a ≤ 15) (b0 : 0 ≤ b) (b1 : b ≤ 15) (c0 : 0 ≤ c) (c1 : c ≤ 15) (o0 : 0 ≤ op) (o1 : op ≤ 11) (i0 : -2147483648 < im) (i1 : im < 2147483648) : Calls Tryz.prog 22 #[.int .u32 x] w (AtLine x w) := by
  obtain ⟨SD, hSD⟩ : ∃ S : ByteArray, (⟨(condN a).toArray⟩ : ByteArray) = S := ⟨_, rfl⟩
  have zD : SD.size ≤ 2 := by rw [← hSD, size_mk]; exact condN_len a
  obtain ⟨SC, hSC⟩ : ∃ S : ByteArray, (⟨(regL c).toArray⟩ : ByteArray) = S := ⟨_, rfl⟩
  have zC : SC.size ≤ 21 := by rw [← hSC, size_mk]; exact regL_len (by omega) (by omega)
  have y0 : ¬ (9223372036854775807 < 1 + SD.size) := by omega
  have y1 : ¬ (9223372036854775807 < 1 + SD.size + 1) := by omega
  have y2 : ¬ (9223372036854775807 < 1 + (1 + SD.size + 1)) := by omega
  have y3 : ¬ (9223372036854775807 < 1 + (1 + SD.size + 1) + SC.size) := by omega
  have hfin : (⟨#[66]⟩ : ByteArray) ++ ((⟨#[46]⟩ : ByteArray) ++ SD ++ (⟨#[32]⟩ : ByteArray)) ++ SC = ⟨(lineI ⟨3, false, false, a, b, c, op, im⟩).toArray⟩ := by
    apply str_of
    rw [← hSD, ← hSC]
    simp [ByteArray.data_append, lineI, nameI, restI, markL, regL]
  have HSD := Lib.hid hSD
  have HSC := Lib.hid hSC
  have HF := Lib.hid hfin
  clear hfin hSD hSC
  have o2 : op < 12 := by omega
  have a2 : a < 16 := by omega
  have HD := Lib.hid hd
  have HL := Lib.hid hl
  clear hd hl
  go_enter Tryz.func22, Tryz.ntmps22
  go_wp2_with fail
  refine (rr_Decode x _ h0 h1).mono ?_
  rintro e w1 ⟨rfl, hB⟩
  rw [HD.out]
  simp only [insV_eq]
  go_wp2_with fail
  refine any_begin later_goes (by kernel_rfl) ?_
  generalize hW : World.drew _ = W0
  have hb : W0.heap[w1.heap.size]? = some (.cells #[.int .i64 3, .bool false, .bool false, .int .i64 a, .int .i64 b, .int .i64 c, .int .i64 op, .int .i64 im] 45 (0, 0)) := by rw [← hW]; exact b_new _ _
  obtain ⟨-, g1, -, f0, f1, f2, f3, f4⟩ := b_cells8 hb
  have hB0 : Below w.heap.size w W0 := by rw [← hW]; exact (bthen hB (ablow _ _)).drew
  clear hW hb
  refine any_take later_goes 0 ?_ ?_ (by simp only [List.getElem?_toArray, List.getElem?_cons_succ, List.getElem?_cons_zero]; exact rfl) (by kernel_rfl) (by kernel_rfl) (by kernel_rfl) (fun _ _ _ _ _ h => h) (by rfl) ?_ ?_
  rotate_left
  · intro wl hL
    have lf0 := a_keep hL f0; have lf1 := a_keep hL f1; have lf2 := a_keep hL f2; have lf3 := a_keep hL f3; have lf4 := a_keep hL f4
    go_simp
    try with_reducible rfl
  try simp only [Act.put, List.setIfInBounds_toArray, List.set_cons_zero, List.set_cons_succ]
  refine any_take later_goes 2 ?_ ?_ (by simp only [List.getElem?_toArray, List.getElem?_cons_succ, List.getElem?_cons_zero]; exact rfl) (by kernel_rfl) (by kernel_rfl) (by kernel_rfl) (fun _ _ _ _ _ h => h) (by rfl) ?_ ?_
  rotate_left
  · intro wl hL
    have lf0 := a_keep hL f0; have lf1 := a_keep hL f1; have lf2 := a_keep hL f2; have lf3 := a_keep hL f3; have lf4 := a_keep hL f4
    go_simp
    try with_reducible rfl
  try simp only [Act.put, List.setIfInBounds_toArray, List.set_cons_zero, List.set_cons_succ]
  refine any_take later_goes 3 ?_ ?_ (by simp only [List.getElem?_toArray, List.getElem?_cons_succ, List.getElem?_cons_zero]; exact rfl) (by kernel_rfl) (by kernel_rfl) (by kernel_rfl) (fun _ _ _ _ _ h => h) (by rfl) ?_ ?_
  rotate_left
  · intro wl hL
    have lf0 := a_keep hL f0; have lf1 := a_keep hL f1; have lf2 := a_keep hL f2; have lf3 := a_keep hL f3; have lf4 := a_keep hL f4
    go_simp
    try with_reducible rfl
  try simp only [Act.put, List.setIfInBounds_toArray, List.set_cons_zero, List.set_cons_succ]
  refine any_one 1 _ (by kernel_rfl) (by simp only [List.getElem?_toArray, List.getElem?_cons_succ, List.getElem?_cons_zero]; exact rfl) (fun K hK => ?_)
  go_simp
  refine (a_conds _).mono ?_
  rintro e wo ⟨g, rfl, hg, hgl, hBo⟩
  refine hK.out _ _ hBo ?_
  clear hK K
  try simp only [Act.put, List.setIfInBounds_toArray, List.set_cons_zero, List.set_cons_succ]
  replace f2 := a_keep hBo f2
  replace f4 := a_keep hBo f4
  replace g1 := a_keep hBo g1
  have fg := strs_cell (n := 16) hg a a0 rfl (by omega) HSD.out
  replace hB0 := bthen hB0 hBo
  refine any_take later_goes 4 ?_ ?_ (by simp only [List.getElem?_toArray, List.getElem?_cons_succ, List.getElem?_cons_zero]; exact rfl) (by kernel_rfl) (by kernel_rfl) (by kernel_rfl) (fun _ _ _ _ _ h => h) (by rfl) ?_ ?_
  rotate_left
  · intro wl hL
    have lfg := a_keep hL fg
    go_simp
    try with_reducible rfl
  try simp only [Act.put, List.setIfInBounds_toArray, List.set_cons_zero, List.set_cons_succ]
  refine any_take later_goes 5 ?_ ?_ (by simp only [List.getElem?_toArray, List.getElem?_cons_succ, List.getElem?_cons_zero]; exact rfl) (by kernel_rfl) (by kernel_rfl) (by kernel_rfl) (fun _ _ _ _ _ h => h) (by rfl) ?_ ?_
  rotate_left
  · intro wl hL
    have lfg := a_keep hL fg
    go_simp
    try with_reducible rfl
  try simp only [Act.put, List.setIfInBounds_toArray, List.set_cons_zero, List.set_cons_succ]
  refine any_take later_goes 6 ?_ ?_ (by simp only [List.getElem?_toArray, List.getElem?_cons_succ, List.getElem?_cons_zero]; exact rfl) (by kernel_rfl) (by kernel_rfl) (by kernel_rfl) (fun _ _ _ _ _ h => h) (by rfl) ?_ ?_
  rotate_left
  · intro wl hL
    have lfg := a_keep hL fg
    go_simp
    try with_reducible rfl
  try simp only [Act.put, List.setIfInBounds_toArray, List.set_cons_zero, List.set_cons_succ]
  refine any_take later_goes 7 ?_ ?_ (by simp only [List.getElem?_toArray, List.getElem?_cons_succ, List.getElem?_cons_zero]; exact rfl) (by kernel_rfl) (by kernel_rfl) (by kernel_rfl) (fun _ _ _ _ _ h => h) (by rfl) ?_ ?_
  rotate_left
  · intro wl hL
    have lfg := a_keep hL fg
    go_simp
    try with_reducible rfl
  try simp only [Act.put, List.setIfInBounds_toArray, List.set_cons_zero, List.set_cons_succ]
  refine any_take later_goes 8 ?_ ?_ (by simp only [List.getElem?_toArray, List.getElem?_cons_succ, List.getElem?_cons_zero]; exact rfl) (by kernel_rfl) (by kernel_rfl) (by kernel_rfl) (fun _ _ _ _ _ h => h) (by rfl) ?_ ?_
  rotate_left
  · intro wl hL
    have lfg := a_keep hL fg
    go_simp
    try with_reducible rfl
  try simp only [Act.put, List.setIfInBounds_toArray, List.set_cons_zero, List.set_cons_succ]
  refine any_take later_goes 9 ?_ ?_ (by simp only [List.getElem?_toArray, List.getElem?_cons_succ, List.getElem?_cons_zero]; exact rfl) (by kernel_rfl) (by kernel_rfl) (by kernel_rfl) (fun _ _ _ _ _ h => h) (by rfl) ?_ ?_
  rotate_left
  · intro wl hL
    have lfg := a_keep hL fg
    go_simp
    try with_reducible rfl
  try simp only [Act.put, List.setIfInBounds_toArray, List.set_cons_zero, List.set_cons_succ]
  refine any_done (by kernel_rfl) ?_ _
  go_wp2_with fail
  refine (a_reg _ _ (by omega) (by omega)).mono ?_
  rintro e wr1 ⟨rfl, hBr⟩
  rw [HSC.out]
  replace hB0 := bthen hB0 hBr
  go_wp2_with fail
  go_ret2
  exact ⟨by rw [HL.out, ← HF.out]; rfl, hB0⟩
set_option maxRecDepth 100000 in
set_option maxHeartbeats 8000000 in
theorem rline301 (x a b c op im : Int) (w : World) (h0 : 0 ≤ x) (h1 : x ≤ 4294967295) (hd : decW x = (⟨3, false, true, a, b, c, op, im⟩, 0)) (hl : lineW x = (lineI ⟨3, false, true, a, b, c, op, im⟩, 0))
    (a0 : 0 ≤ a) (a1 : a ≤ 15) (b0 : 0 ≤ b) (b1 : b ≤ 15) (c0 : 0 ≤ c) (c1 : c ≤ 15) (o0 : 0 ≤ op) (o1 : op ≤ 11) (i0 : -2147483648 < im) (i1 : im < 2147483648) : Calls Tryz.prog 22 #[.int .u32 x] w (AtLine x w) := by
  obtain ⟨SD, hSD⟩ : ∃ S : ByteArray, (⟨(condN a).toArray⟩ : ByteArray) = S := ⟨_, rfl⟩
  have zD : SD.size ≤ 2 := by rw [← hSD, size_mk]; exact condN_len a
  obtain ⟨SC, hSC⟩ : ∃ S : ByteArray, (⟨(regL c).toArray⟩ : ByteArray) = S := ⟨_, rfl⟩
  have zC : SC.size ≤ 21 := by rw [← hSC, size_mk]; exact regL_len (by omega) (by omega)
  have y0 : ¬ (9223372036854775807 < 1 + SD.size) := by omega
  have y1 : ¬ (9223372036854775807 < 1 + SD.size + 1) := by omega
  have y2 : ¬ (9223372036854775807 < 2 + (1 + SD.size + 1)) := by omega
  have y3 : ¬ (9223372036854775807 < 2 + (1 + SD.size + 1) + SC.size) := by omega
  have hfin : (⟨#[66, 76]⟩ : ByteArray) ++ ((⟨#[46]⟩ : ByteArray) ++ SD ++ (⟨#[32]⟩ : ByteArray)) ++ SC = ⟨(lineI ⟨3, false, true, a, b, c, op, im⟩).toArray⟩ := by
    apply str_of
    rw [← hSD, ← hSC]
    simp [ByteArray.data_append, lineI, nameI, restI, markL, regL]
  have HSD := Lib.hid hSD
  have HSC := Lib.hid hSC
  have HF := Lib.hid hfin
  clear hfin hSD hSC
  have o2 : op < 12 := by omega
  have a2 : a < 16 := by omega
  have HD := Lib.hid hd
  have HL := Lib.hid hl
  clear hd hl
  go_enter Tryz.func22, Tryz.ntmps22
  go_wp2_with fail
  refine (rr_Decode x _ h0 h1).mono ?_
  rintro e w1 ⟨rfl, hB⟩
  rw [HD.out]
  simp only [insV_eq]
  go_wp2_with fail
  refine any_begin later_goes (by kernel_rfl) ?_
  generalize hW : World.drew _ = W0
  have hb : W0.heap[w1.heap.size]? = some (.cells #[.int .i64 3, .bool false, .bool true, .int .i64 a, .int .i64 b, .int .i64 c, .int .i64 op, .int .i64 im] 45 (0, 0)) := by rw [← hW]; exact b_new _ _
  obtain ⟨-, g1, -, f0, f1, f2, f3, f4⟩ := b_cells8 hb
  have hB0 : Below w.heap.size w W0 := by rw [← hW]; exact (bthen hB (ablow _ _)).drew
  clear hW hb
  refine any_take later_goes 0 ?_ ?_ (by simp only [List.getElem?_toArray, List.getElem?_cons_succ, List.getElem?_cons_zero]; exact rfl) (by kernel_rfl) (by kernel_rfl) (by kernel_rfl) (fun _ _ _ _ _ h => h) (by rfl) ?_ ?_
  rotate_left
  · intro wl hL
    have lf0 := a_keep hL f0; have lf1 := a_keep hL f1; have lf2 := a_keep hL f2; have lf3 := a_keep hL f3; have lf4 := a_keep hL f4
    go_simp
    try with_reducible rfl
  try simp only [Act.put, List.setIfInBounds_toArray, List.set_cons_zero, List.set_cons_succ]
  refine any_take later_goes 2 ?_ ?_ (by simp only [List.getElem?_toArray, List.getElem?_cons_succ, List.getElem?_cons_zero]; exact rfl) (by kernel_rfl) (by kernel_rfl) (by kernel_rfl) (fun _ _ _ _ _ h => h) (by rfl) ?_ ?_
  rotate_left
  · intro wl hL
    have lf0 := a_keep hL f0; have lf1 := a_keep hL f1; have lf2 := a_keep hL f2; have lf3 := a_keep hL f3; have lf4 := a_keep hL f4
    go_simp
    try with_reducible rfl
  try simp only [Act.put, List.setIfInBounds_toArray, List.set_cons_zero, List.set_cons_succ]
  refine any_take later_goes 3 ?_ ?_ (by simp only [List.getElem?_toArray, List.getElem?_cons_succ, List.getElem?_cons_zero]; exact rfl) (by kernel_rfl) (by kernel_rfl) (by kernel_rfl) (fun _ _ _ _ _ h => h) (by rfl) ?_ ?_
  rotate_left
  · intro wl hL
    have lf0 := a_keep hL f0; have lf1 := a_keep hL f1; have lf2 := a_keep hL f2; have lf3 := a_keep hL f3; have lf4 := a_keep hL f4
    go_simp
    try with_reducible rfl
  try simp only [Act.put, List.setIfInBounds_toArray, List.set_cons_zero, List.set_cons_succ]
  refine any_one 1 _ (by kernel_rfl) (by simp only [List.getElem?_toArray, List.getElem?_cons_succ, List.getElem?_cons_zero]; exact rfl) (fun K hK => ?_)
  go_simp
  refine (a_conds _).mono ?_
  rintro e wo ⟨g, rfl, hg, hgl, hBo⟩
  refine hK.out _ _ hBo ?_
  clear hK K
  try simp only [Act.put, List.setIfInBounds_toArray, List.set_cons_zero, List.set_cons_succ]
  replace f2 := a_keep hBo f2
  replace f4 := a_keep hBo f4
  replace g1 := a_keep hBo g1
  have fg := strs_cell (n := 16) hg a a0 rfl (by omega) HSD.out
  replace hB0 := bthen hB0 hBo
  refine any_take later_goes 4 ?_ ?_ (by simp only [List.getElem?_toArray, List.getElem?_cons_succ, List.getElem?_cons_zero]; exact rfl) (by kernel_rfl) (by kernel_rfl) (by kernel_rfl) (fun _ _ _ _ _ h => h) (by rfl) ?_ ?_
  rotate_left
  · intro wl hL
    have lfg := a_keep hL fg
    go_simp
    try with_reducible rfl
  try simp only [Act.put, List.setIfInBounds_toArray, List.set_cons_zero, List.set_cons_succ]
  refine any_take later_goes 5 ?_ ?_ (by simp only [List.getElem?_toArray, List.getElem?_cons_succ, List.getElem?_cons_zero]; exact rfl) (by kernel_rfl) (by kernel_rfl) (by kernel_rfl) (fun _ _ _ _ _ h => h) (by rfl) ?_ ?_
  rotate_left
  · intro wl hL
    have lfg := a_keep hL fg
    go_simp
    try with_reducible rfl
  try simp only [Act.put, List.setIfInBounds_toArray, List.set_cons_zero, List.set_cons_succ]
  refine any_take later_goes 6 ?_ ?_ (by simp only [List.getElem?_toArray, List.getElem?_cons_succ, List.getElem?_cons_zero]; exact rfl) (by kernel_rfl) (by kernel_rfl) (by kernel_rfl) (fun _ _ _ _ _ h => h) (by rfl) ?_ ?_
  rotate_left
  · intro wl hL
    have lfg := a_keep hL fg
    go_simp
    try with_reducible rfl
  try simp only [Act.put, List.setIfInBounds_toArray, List.set_cons_zero, List.set_cons_succ]
  refine any_take later_goes 7 ?_ ?_ (by simp only [List.getElem?_toArray, List.getElem?_cons_succ, List.getElem?_cons_zero]; exact rfl) (by kernel_rfl) (by kernel_rfl) (by kernel_rfl) (fun _ _ _ _ _ h => h) (by rfl) ?_ ?_
  rotate_left
  · intro wl hL
    have lfg := a_keep hL fg
    go_simp
    try with_reducible rfl
  try simp only [Act.put, List.setIfInBounds_toArray, List.set_cons_zero, List.set_cons_succ]
  refine any_take later_goes 8 ?_ ?_ (by simp only [List.getElem?_toArray, List.getElem?_cons_succ, List.getElem?_cons_zero]; exact rfl) (by kernel_rfl) (by kernel_rfl) (by kernel_rfl) (fun _ _ _ _ _ h => h) (by rfl) ?_ ?_
  rotate_left
  · intro wl hL
    have lfg := a_keep hL fg
    go_simp
    try with_reducible rfl
  try simp only [Act.put, List.setIfInBounds_toArray, List.set_cons_zero, List.set_cons_succ]
  refine any_take later_goes 9 ?_ ?_ (by simp only [List.getElem?_toArray, List.getElem?_cons_succ, List.getElem?_cons_zero]; exact rfl) (by kernel_rfl) (by kernel_rfl) (by kernel_rfl) (fun _ _ _ _ _ h => h) (by rfl) ?_ ?_
  rotate_left
  · intro wl hL
    have lfg := a_keep hL fg
    go_simp
    try with_reducible rfl
  try simp only [Act.put, List.setIfInBounds_toArray, List.set_cons_zero, List.set_cons_succ]
  refine any_done (by kernel_rfl) ?_ _
  go_wp2_with fail
  refine (a_reg _ _ (by omega) (by omega)).mono ?_
  rintro e wr1 ⟨rfl, hBr⟩
  rw [HSC.out]
  replace hB0 := bthen hB0 hBr
  go_wp2_with fail
  go_ret2
  exact ⟨by rw [HL.out, ← HF.out]; rfl, hB0⟩
set_option maxRecDepth 100000 in
set_option maxHeartbeats 8000000 in
theorem rline310 (x a b c op im : Int) (w : World) (h0 : 0 ≤ x) (h1 : x ≤ 4294967295) (hd : decW x = (⟨3, true, false, a, b, c, op, im⟩, 0)) (hl : lineW x = (lineI ⟨3, true, false, a, b, c, op, im⟩, 0))
    (a0 : 0 ≤ a) (a1 : a ≤ 15) (b0 : 0 ≤ b) (b1 : b ≤ 15) (c0 : 0 ≤ c) (c1 : c ≤ 15) (o0 : 0 ≤ op) (o1 : op ≤ 11) (i0 : -2147483648 < im) (i1 : im < 2147483648) : Calls Tryz.prog 22 #[.int .u32 x] w (AtLine x w) := by
  obtain ⟨SD, hSD⟩ : ∃ S : ByteArray, (⟨(condN a).toArray⟩ : ByteArray) = S := ⟨_, rfl⟩
  have zD : SD.size ≤ 2 := by rw [← hSD, size_mk]; exact condN_len a
  obtain ⟨SI, hSI⟩ : ∃ S : ByteArray, (⟨(Lib.itoa im).toArray⟩ : ByteArray) = S := ⟨_, rfl⟩
  have zI : SI.size ≤ 20 := by rw [← hSI, size_mk]; exact itoa_len i0 i1
  have y0 : ¬ (9223372036854775807 < 1 + SD.size) := by omega
  have y1 : ¬ (9223372036854775807 < 1 + SD.size + 1) := by omega
  have y2 : ¬ (9223372036854775807 < 1 + (1 + SD.size + 1)) := by omega
  have y3 : ¬ (9223372036854775807 < 1 + (1 + SD.size + 1) + SI.size) := by omega
  have hfin : (⟨#[66]⟩ : ByteArray) ++ ((⟨#[46]⟩ : ByteArray) ++ SD ++ (⟨#[32]⟩ : ByteArray)) ++ SI = ⟨(lineI ⟨3, true, false, a, b, c, op, im⟩).toArray⟩ := by
    apply str_of
    rw [← hSD, ← hSI]
    simp [ByteArray.data_append, lineI, nameI, restI, markL, regL]
  have HSD := Lib.hid hSD
  have HSI := Lib.hid hSI
  have HF := Lib.hid hfin
  clear hfin hSD hSI
  have o2 : op < 12 := by omega
  have a2 : a < 16 := by omega
  have HD := Lib.hid hd
  have HL := Lib.hid hl
  clear hd hl
  go_enter Tryz.func22, Tryz.ntmps22
  go_wp2_with fail
  refine (rr_Decode x _ h0 h1).mono ?_
  rintro e w1 ⟨rfl, hB⟩
  rw [HD.out]
  simp only [insV_eq]
  go_wp2_with fail
  refine any_begin later_goes (by kernel_rfl) ?_
  generalize hW : World.drew _ = W0
  have hb : W0.heap[w1.heap.size]? = some (.cells #[.int .i64 3, .bool true, .bool false, .int .i64 a, .int .i64 b, .int .i64 c, .int .i64 op, .int .i64 im] 45 (0, 0)) := by rw [← hW]; exact b_new _ _
  obtain ⟨-, g1, -, f0, f1, f2, f3, f4⟩ := b_cells8 hb
  have hB0 : Below w.heap.size w W0 := by rw [← hW]; exact (bthen hB (ablow _ _)).drew
  clear hW hb
  refine any_take later_goes 0 ?_ ?_ (by simp only [List.getElem?_toArray, List.getElem?_cons_succ, List.getElem?_cons_zero]; exact rfl) (by kernel_rfl) (by kernel_rfl) (by kernel_rfl) (fun _ _ _ _ _ h => h) (by rfl) ?_ ?_
  rotate_left
  · intro wl hL
    have lf0 := a_keep hL f0; have lf1 := a_keep hL f1; have lf2 := a_keep hL f2; have lf3 := a_keep hL f3; have lf4 := a_keep hL f4
    go_simp
    try with_reducible rfl
  try simp only [Act.put, List.setIfInBounds_toArray, List.set_cons_zero, List.set_cons_succ]
  refine any_take later_goes 2 ?_ ?_ (by simp only [List.getElem?_toArray, List.getElem?_cons_succ, List.getElem?_cons_zero]; exact rfl) (by kernel_rfl) (by kernel_rfl) (by kernel_rfl) (fun _ _ _ _ _ h => h) (by rfl) ?_ ?_
  rotate_left
  · intro wl hL
    have lf0 := a_keep hL f0; have lf1 := a_keep hL f1; have lf2 := a_keep hL f2; have lf3 := a_keep hL f3; have lf4 := a_keep hL f4
    go_simp
    try with_reducible rfl
  try simp only [Act.put, List.setIfInBounds_toArray, List.set_cons_zero, List.set_cons_succ]
  refine any_take later_goes 3 ?_ ?_ (by simp only [List.getElem?_toArray, List.getElem?_cons_succ, List.getElem?_cons_zero]; exact rfl) (by kernel_rfl) (by kernel_rfl) (by kernel_rfl) (fun _ _ _ _ _ h => h) (by rfl) ?_ ?_
  rotate_left
  · intro wl hL
    have lf0 := a_keep hL f0; have lf1 := a_keep hL f1; have lf2 := a_keep hL f2; have lf3 := a_keep hL f3; have lf4 := a_keep hL f4
    go_simp
    try with_reducible rfl
  try simp only [Act.put, List.setIfInBounds_toArray, List.set_cons_zero, List.set_cons_succ]
  refine any_one 1 _ (by kernel_rfl) (by simp only [List.getElem?_toArray, List.getElem?_cons_succ, List.getElem?_cons_zero]; exact rfl) (fun K hK => ?_)
  go_simp
  refine (a_conds _).mono ?_
  rintro e wo ⟨g, rfl, hg, hgl, hBo⟩
  refine hK.out _ _ hBo ?_
  clear hK K
  try simp only [Act.put, List.setIfInBounds_toArray, List.set_cons_zero, List.set_cons_succ]
  replace f2 := a_keep hBo f2
  replace f4 := a_keep hBo f4
  replace g1 := a_keep hBo g1
  have fg := strs_cell (n := 16) hg a a0 rfl (by omega) HSD.out
  replace hB0 := bthen hB0 hBo
  refine any_take later_goes 4 ?_ ?_ (by simp only [List.getElem?_toArray, List.getElem?_cons_succ, List.getElem?_cons_zero]; exact rfl) (by kernel_rfl) (by kernel_rfl) (by kernel_rfl) (fun _ _ _ _ _ h => h) (by rfl) ?_ ?_
  rotate_left
  · intro wl hL
    have lfg := a_keep hL fg
    go_simp
    try with_reducible rfl
  try simp only [Act.put, List.setIfInBounds_toArray, List.set_cons_zero, List.set_cons_succ]
  refine any_take later_goes 5 ?_ ?_ (by simp only [List.getElem?_toArray, List.getElem?_cons_succ, List.getElem?_cons_zero]; exact rfl) (by kernel_rfl) (by kernel_rfl) (by kernel_rfl) (fun _ _ _ _ _ h => h) (by rfl) ?_ ?_
  rotate_left
  · intro wl hL
    have lfg := a_keep hL fg
    go_simp
    try with_reducible rfl
  try simp only [Act.put, List.setIfInBounds_toArray, List.set_cons_zero, List.set_cons_succ]
  refine any_take later_goes 6 ?_ ?_ (by simp only [List.getElem?_toArray, List.getElem?_cons_succ, List.getElem?_cons_zero]; exact rfl) (by kernel_rfl) (by kernel_rfl) (by kernel_rfl) (fun _ _ _ _ _ h => h) (by rfl) ?_ ?_
  rotate_left
  · intro wl hL
    have lfg := a_keep hL fg
    go_simp
    try with_reducible rfl
  try simp only [Act.put, List.setIfInBounds_toArray, List.set_cons_zero, List.set_cons_succ]
  refine any_take later_goes 7 ?_ ?_ (by simp only [List.getElem?_toArray, List.getElem?_cons_succ, List.getElem?_cons_zero]; exact rfl) (by kernel_rfl) (by kernel_rfl) (by kernel_rfl) (fun _ _ _ _ _ h => h) (by rfl) ?_ ?_
  rotate_left
  · intro wl hL
    have lfg := a_keep hL fg
    go_simp
    try with_reducible rfl
  try simp only [Act.put, List.setIfInBounds_toArray, List.set_cons_zero, List.set_cons_succ]
  refine any_take later_goes 8 ?_ ?_ (by simp only [List.getElem?_toArray, List.getElem?_cons_succ, List.getElem?_cons_zero]; exact rfl) (by kernel_rfl) (by kernel_rfl) (by kernel_rfl) (fun _ _ _ _ _ h => h) (by rfl) ?_ ?_
  rotate_left
  · intro wl hL
    have lfg := a_keep hL fg
    go_simp
    try with_reducible rfl
  try simp only [Act.put, List.setIfInBounds_toArray, List.set_cons_zero, List.set_cons_succ]
  refine any_take later_goes 9 ?_ ?_ (by simp only [List.getElem?_toArray, List.getElem?_cons_succ, List.getElem?_cons_zero]; exact rfl) (by kernel_rfl) (by kernel_rfl) (by kernel_rfl) (fun _ _ _ _ _ h => h) (by rfl) ?_ ?_
  rotate_left
  · intro wl hL
    have lfg := a_keep hL fg
    go_simp
    try with_reducible rfl
  try simp only [Act.put, List.setIfInBounds_toArray, List.set_cons_zero, List.set_cons_succ]
  refine any_done (by kernel_rfl) ?_ _
  go_wp2_with fail
  refine (a_Dec _ _ i0 i1).mono ?_
  rintro e wr1 ⟨rfl, hBr⟩
  rw [HSI.out]
  replace hB0 := bthen hB0 hBr
  go_wp2_with fail
  go_ret2
  exact ⟨by rw [HL.out, ← HF.out]; rfl, hB0⟩
set_option maxRecDepth 100000 in
set_option maxHeartbeats 8000000 in
theorem rline311 (x a b c op im : Int) (w : World) (h0 : 0 ≤ x) (h1 : x ≤ 4294967295) (hd : decW x = (⟨3, true, true, a, b, c, op, im⟩, 0)) (hl : lineW x = (lineI ⟨3, true, true, a, b, c, op, im⟩, 0))
    (a0 : 0 ≤ a) (a1 : a ≤ 15) (b0 : 0 ≤ b) (b1 : b ≤ 15) (c0 : 0 ≤ c) (c1 : c ≤ 15) (o0 : 0 ≤ op) (o1 : op ≤ 11) (i0 : -2147483648 < im) (i1 : im < 2147483648) : Calls Tryz.prog 22 #[.int .u32 x] w (AtLine x w) := by
  obtain ⟨SD, hSD⟩ : ∃ S : ByteArray, (⟨(condN a).toArray⟩ : ByteArray) = S := ⟨_, rfl⟩
  have zD : SD.size ≤ 2 := by rw [← hSD, size_mk]; exact condN_len a
  obtain ⟨SI, hSI⟩ : ∃ S : ByteArray, (⟨(Lib.itoa im).toArray⟩ : ByteArray) = S := ⟨_, rfl⟩
  have zI : SI.size ≤ 20 := by rw [← hSI, size_mk]; exact itoa_len i0 i1
  have y0 : ¬ (9223372036854775807 < 1 + SD.size) := by omega
  have y1 : ¬ (9223372036854775807 < 1 + SD.size + 1) := by omega
  have y2 : ¬ (9223372036854775807 < 2 + (1 + SD.size + 1)) := by omega
  have y3 : ¬ (9223372036854775807 < 2 + (1 + SD.size + 1) + SI.size) := by omega
  have hfin : (⟨#[66, 76]⟩ : ByteArray) ++ ((⟨#[46]⟩ : ByteArray) ++ SD ++ (⟨#[32]⟩ : ByteArray)) ++ SI = ⟨(lineI ⟨3, true, true, a, b, c, op, im⟩).toArray⟩ := by
    apply str_of
    rw [← hSD, ← hSI]
    simp [ByteArray.data_append, lineI, nameI, restI, markL, regL]
  have HSD := Lib.hid hSD
  have HSI := Lib.hid hSI
  have HF := Lib.hid hfin
  clear hfin hSD hSI
  have o2 : op < 12 := by omega
  have a2 : a < 16 := by omega
  have HD := Lib.hid hd
  have HL := Lib.hid hl
  clear hd hl
  go_enter Tryz.func22, Tryz.ntmps22
  go_wp2_with fail
  refine (rr_Decode x _ h0 h1).mono ?_
  rintro e w1 ⟨rfl, hB⟩
  rw [HD.out]
  simp only [insV_eq]
  go_wp2_with fail
  refine any_begin later_goes (by kernel_rfl) ?_
  generalize hW : World.drew _ = W0
  have hb : W0.heap[w1.heap.size]? = some (.cells #[.int .i64 3, .bool true, .bool true, .int .i64 a, .int .i64 b, .int .i64 c, .int .i64 op, .int .i64 im] 45 (0, 0)) := by rw [← hW]; exact b_new _ _
  obtain ⟨-, g1, -, f0, f1, f2, f3, f4⟩ := b_cells8 hb
  have hB0 : Below w.heap.size w W0 := by rw [← hW]; exact (bthen hB (ablow _ _)).drew
  clear hW hb
  refine any_take later_goes 0 ?_ ?_ (by simp only [List.getElem?_toArray, List.getElem?_cons_succ, List.getElem?_cons_zero]; exact rfl) (by kernel_rfl) (by kernel_rfl) (by kernel_rfl) (fun _ _ _ _ _ h => h) (by rfl) ?_ ?_
  rotate_left
  · intro wl hL
    have lf0 := a_keep hL f0; have lf1 := a_keep hL f1; have lf2 := a_keep hL f2; have lf3 := a_keep hL f3; have lf4 := a_keep hL f4
    go_simp
    try with_reducible rfl
  try simp only [Act.put, List.setIfInBounds_toArray, List.set_cons_zero, List.set_cons_succ]
  refine any_take later_goes 2 ?_ ?_ (by simp only [List.getElem?_toArray, List.getElem?_cons_succ, List.getElem?_cons_zero]; exact rfl) (by kernel_rfl) (by kernel_rfl) (by kernel_rfl) (fun _ _ _ _ _ h => h) (by rfl) ?_ ?_
  rotate_left
  · intro wl hL
    have lf0 := a_keep hL f0; have lf1 := a_keep hL f1; have lf2 := a_keep hL f2; have lf3 := a_keep hL f3; have lf4 := a_keep hL f4
    go_simp
    try with_reducible rfl
  try simp only [Act.put, List.setIfInBounds_toArray, List.set_cons_zero, List.set_cons_succ]
  refine any_take later_goes 3 ?_ ?_ (by simp only [List.getElem?_toArray, List.getElem?_cons_succ, List.getElem?_cons_zero]; exact rfl) (by kernel_rfl) (by kernel_rfl) (by kernel_rfl) (fun _ _ _ _ _ h => h) (by rfl) ?_ ?_
  rotate_left
  · intro wl hL
    have lf0 := a_keep hL f0; have lf1 := a_keep hL f1; have lf2 := a_keep hL f2; have lf3 := a_keep hL f3; have lf4 := a_keep hL f4
    go_simp
    try with_reducible rfl
  try simp only [Act.put, List.setIfInBounds_toArray, List.set_cons_zero, List.set_cons_succ]
  refine any_one 1 _ (by kernel_rfl) (by simp only [List.getElem?_toArray, List.getElem?_cons_succ, List.getElem?_cons_zero]; exact rfl) (fun K hK => ?_)
  go_simp
  refine (a_conds _).mono ?_
  rintro e wo ⟨g, rfl, hg, hgl, hBo⟩
  refine hK.out _ _ hBo ?_
  clear hK K
  try simp only [Act.put, List.setIfInBounds_toArray, List.set_cons_zero, List.set_cons_succ]
  replace f2 := a_keep hBo f2
  replace f4 := a_keep hBo f4
  replace g1 := a_keep hBo g1
  have fg := strs_cell (n := 16) hg a a0 rfl (by omega) HSD.out
  replace hB0 := bthen hB0 hBo
  refine any_take later_goes 4 ?_ ?_ (by simp only [List.getElem?_toArray, List.getElem?_cons_succ, List.getElem?_cons_zero]; exact rfl) (by kernel_rfl) (by kernel_rfl) (by kernel_rfl) (fun _ _ _ _ _ h => h) (by rfl) ?_ ?_
  rotate_left
  · intro wl hL
    have lfg := a_keep hL fg
    go_simp
    try with_reducible rfl
  try simp only [Act.put, List.setIfInBounds_toArray, List.set_cons_zero, List.set_cons_succ]
  refine any_take later_goes 5 ?_ ?_ (by simp only [List.getElem?_toArray, List.getElem?_cons_succ, List.getElem?_cons_zero]; exact rfl) (by kernel_rfl) (by kernel_rfl) (by kernel_rfl) (fun _ _ _ _ _ h => h) (by rfl) ?_ ?_
  rotate_left
  · intro wl hL
    have lfg := a_keep hL fg
    go_simp
    try with_reducible rfl
  try simp only [Act.put, List.setIfInBounds_toArray, List.set_cons_zero, List.set_cons_succ]
  refine any_take later_goes 6 ?_ ?_ (by simp only [List.getElem?_toArray, List.getElem?_cons_succ, List.getElem?_cons_zero]; exact rfl) (by kernel_rfl) (by kernel_rfl) (by kernel_rfl) (fun _ _ _ _ _ h => h) (by rfl) ?_ ?_
  rotate_left
  · intro wl hL
    have lfg := a_keep hL fg
    go_simp
    try with_reducible rfl
  try simp only [Act.put, List.setIfInBounds_toArray, List.set_cons_zero, List.set_cons_succ]
  refine any_take later_goes 7 ?_ ?_ (by simp only [List.getElem?_toArray, List.getElem?_cons_succ, List.getElem?_cons_zero]; exact rfl) (by kernel_rfl) (by kernel_rfl) (by kernel_rfl) (fun _ _ _ _ _ h => h) (by rfl) ?_ ?_
  rotate_left
  · intro wl hL
    have lfg := a_keep hL fg
    go_simp
    try with_reducible rfl
  try simp only [Act.put, List.setIfInBounds_toArray, List.set_cons_zero, List.set_cons_succ]
  refine any_take later_goes 8 ?_ ?_ (by simp only [List.getElem?_toArray, List.getElem?_cons_succ, List.getElem?_cons_zero]; exact rfl) (by kernel_rfl) (by kernel_rfl) (by kernel_rfl) (fun _ _ _ _ _ h => h) (by rfl) ?_ ?_
  rotate_left
  · intro wl hL
    have lfg := a_keep hL fg
    go_simp
    try with_reducible rfl
  try simp only [Act.put, List.setIfInBounds_toArray, List.set_cons_zero, List.set_cons_succ]
  refine any_take later_goes 9 ?_ ?_ (by simp only [List.getElem?_toArray, List.getElem?_cons_succ, List.getElem?_cons_zero]; exact rfl) (by kernel_rfl) (by kernel_rfl) (by kernel_rfl) (fun _ _ _ _ _ h => h) (by rfl) ?_ ?_
  rotate_left
  · intro wl hL
    have lfg := a_keep hL fg
    go_simp
    try with_reducible rfl
  try simp only [Act.put, List.setIfInBounds_toArray, List.set_cons_zero, List.set_cons_succ]
  refine any_done (by kernel_rfl) ?_ _
  go_wp2_with fail
  refine (a_Dec _ _ i0 i1).mono ?_
  rintro e wr1 ⟨rfl, hBr⟩
  rw [HSI.out]
  replace hB0 := bthen hB0 hBr
  go_wp2_with fail
  go_ret2
  exact ⟨by rw [HL.out, ← HF.out]; rfl, hB0⟩
/-- The reference's line of a word. -/
theorem rr_Line (x : Int) (w : World) (h0 : 0 ≤ x) (h1 : x ≤ 4294967295) : Calls Tryz.prog 22 #[.int .u32 x] w (AtLine x w) := by
  rcases decW_cases x with ⟨hg, hd, hl⟩ | ⟨-, hd, hl⟩
  · have hi := insOf_small x h0 h1
    have hgi : goodI (insOf x) = true := by
      simp only [goodW, Bool.and_eq_true] at hg
      exact hg.1
    generalize insOf x = y at hi hgi hd hl
    obtain ⟨f, u, v, a, b, c, op, im⟩ := y
    have hi0 : -2147483648 < im := hi.1
    have hi1 : im < 2147483648 := hi.2
    have hf : f = 0 ∨ f = 1 ∨ f = 2 ∨ f = 3 := good_form hgi
    simp only [goodI, nib, Bool.and_eq_true, decide_eq_true_eq] at hgi
    obtain ⟨⟨⟨⟨⟨ha0, ha1⟩, hb0, hb1⟩, hc0, hc1⟩, ho0, ho1⟩, -⟩ := hgi
    rcases hf with rfl | rfl | rfl | rfl <;> cases u <;> cases v
    · exact rline000 x a b c op im w h0 h1 hd hl ha0 ha1 hb0 hb1 hc0 hc1 ho0 ho1 hi0 hi1
    · exact rline001 x a b c op im w h0 h1 hd hl ha0 ha1 hb0 hb1 hc0 hc1 ho0 ho1 hi0 hi1
    · exact rline010 x a b c op im w h0 h1 hd hl ha0 ha1 hb0 hb1 hc0 hc1 ho0 ho1 hi0 hi1
    · exact rline011 x a b c op im w h0 h1 hd hl ha0 ha1 hb0 hb1 hc0 hc1 ho0 ho1 hi0 hi1
    · exact rline100 x a b c op im w h0 h1 hd hl ha0 ha1 hb0 hb1 hc0 hc1 ho0 ho1 hi0 hi1
    · exact rline101 x a b c op im w h0 h1 hd hl ha0 ha1 hb0 hb1 hc0 hc1 ho0 ho1 hi0 hi1
    · exact rline110 x a b c op im w h0 h1 hd hl ha0 ha1 hb0 hb1 hc0 hc1 ho0 ho1 hi0 hi1
    · exact rline111 x a b c op im w h0 h1 hd hl ha0 ha1 hb0 hb1 hc0 hc1 ho0 ho1 hi0 hi1
    · exact rline200 x a b c op im w h0 h1 hd hl ha0 ha1 hb0 hb1 hc0 hc1 ho0 ho1 hi0 hi1
    · exact rline201 x a b c op im w h0 h1 hd hl ha0 ha1 hb0 hb1 hc0 hc1 ho0 ho1 hi0 hi1
    · exact rline210 x a b c op im w h0 h1 hd hl ha0 ha1 hb0 hb1 hc0 hc1 ho0 ho1 hi0 hi1
    · exact rline211 x a b c op im w h0 h1 hd hl ha0 ha1 hb0 hb1 hc0 hc1 ho0 ho1 hi0 hi1
    · exact rline300 x a b c op im w h0 h1 hd hl ha0 ha1 hb0 hb1 hc0 hc1 ho0 ho1 hi0 hi1
    · exact rline301 x a b c op im w h0 h1 hd hl ha0 ha1 hb0 hb1 hc0 hc1 ho0 ho1 hi0 hi1
    · exact rline310 x a b c op im w h0 h1 hd hl ha0 ha1 hb0 hb1 hc0 hc1 ho0 ho1 hi0 hi1
    · exact rline311 x a b c op im w h0 h1 hd hl ha0 ha1 hb0 hb1 hc0 hc1 ho0 ho1 hi0 hi1
  · exact rlineN x w h0 h1 hd hl
end Go.Proofs.YtjjgjadfnongfaaGreatDoor
