import Derived.Test.YtjjgjadfnongfaaGreatDoorALn0
set_option linter.unusedVariables false
set_option linter.unusedSimpArgs false
namespace Go.Proofs.YtjjgjadfnongfaaGreatDoor
open Go.RowKit Go.Maps Go.MapKept Go.ChangeMaps
theorem name_len {p : Shp × List UInt8} {i : Nat} (h : tableP[i]? = some p) : p.2.length ≤ 5 := table_short p (List.mem_of_getElem? h)
theorem look_S {i : Nat} {k : Shp} {nm : List UInt8} (h : tableP[i]? = some (k, nm)) (Bs : Nat) : ∀ w : World, w.heap[Bs]? = some (.map (entsOf (keysS tableP)) 84) → (Instr.lookup 67 (.map (some Bs)) (.agg #[.int .i64 k.form, .int .i64 k.op, .bool k.u, .bool k.v]) false).run Tryz.prog w = .ok (.int .i64 i) w := by
  intro w hw
  obtain ⟨kl, hkl⟩ := keyed_shape (List.mem_of_getElem? h)
  have := run_look_ents law_shape Tryz.underlying67 hw hkl hes_S nd_S keysS_ne (i := i) (by simp [keysS, h]) false
  exact this
theorem plineN (P : Nat) (x : Int) (w : World) (h0 : 0 ≤ x) (h1 : x ≤ 4294967295) (hd : decW x = (zeroI, 20)) (hl : lineW x = ([], 20)) : Calls Tryz.prog 27 #[.pointer (some ⟨P, 0, none⟩), .int .u32 x] w (AtLine x w) := by
  have HD := Lib.hid hd
  have HL := Lib.hid hl
  clear hd hl
  go_enter Tryz.func27, Tryz.ntmps27
  go_wp2_with fail
  refine (p_Decode x _ h0 h1).mono ?_
  rintro e w1 ⟨rfl, hB⟩
  rw [HD.out]
  simp only [zeroI, insV_eq]
  go_wp2_with fail
  go_ret2
  exact ⟨by rw [HL.out]; rfl, bthen hB (ablow _ _)⟩
set_option maxRecDepth 100000 in
set_option maxHeartbeats 8000000 in
theorem pline0 (P Bs Bn g1 C1 g2 C2 : Nat) (x a b c op im : Int) (u v : Bool) (w : World) (hn : Nmr P Bs Bn g1 C1 g2 C2 w) (hv : VarsA w) (h0 : 0 ≤ x) (h1 : x ≤ 4294967295) (hd : decW x = (⟨0, u, v, a, b, c, op, im⟩, 0)) (hl : lineW x = (lineI ⟨0, u, v, a, b, c, op, im⟩, 0))
    (hg : goodI ⟨0, u, v, a, b, c, op, im⟩ = true) (i0 : -2147483648 < im) (i1 : im < 2147483648) : Calls Tryz.prog 27 #[.pointer (some ⟨P, 0, none⟩), .int .u32 x] w (AtLine x w) := by
  obtain ⟨i, hi, ht⟩ := shape_at hg
  obtain ⟨⟨a0, a1⟩, ⟨b0, b1⟩, ⟨c0, c1⟩, o0, o1⟩ := good_nibs hg
  simp only at a0 a1 b0 b1 c0 c1 o0 o1
  obtain ⟨k, hk⟩ : ∃ k, shapeOf ⟨0, u, v, a, b, c, op, im⟩ = k := ⟨_, rfl⟩
  rw [hk] at ht
  have hlk := look_S ht Bs
  have hcap := hn.cap
  have hnl := name_len ht
  obtain ⟨SN, hSN⟩ : ∃ S : ByteArray, (⟨(nameI ⟨0, u, v, a, b, c, op, im⟩).toArray⟩ : ByteArray) = S := ⟨_, rfl⟩
  have zN : SN.size ≤ 5 := by rw [← hSN, size_mk]; exact hnl
  have hnm : (keysN tableP)[i]? = some (.string SN) := by simp [keysN, ht, strV, hSN]
  obtain ⟨SA, hSA⟩ : ∃ S : ByteArray, (⟨(regL a).toArray⟩ : ByteArray) = S := ⟨_, rfl⟩
  have zA : SA.size ≤ 21 := by rw [← hSA, size_mk]; exact regL_len (by omega) (by omega)
  obtain ⟨SB, hSB⟩ : ∃ S : ByteArray, (⟨(regL b).toArray⟩ : ByteArray) = S := ⟨_, rfl⟩
  have zB : SB.size ≤ 21 := by rw [← hSB, size_mk]; exact regL_len (by omega) (by omega)
  obtain ⟨SC, hSC⟩ : ∃ S : ByteArray, (⟨(regL c).toArray⟩ : ByteArray) = S := ⟨_, rfl⟩
  have zC : SC.size ≤ 21 := by rw [← hSC, size_mk]; exact regL_len (by omega) (by omega)
  have y0 : ¬ (9223372036854775807 < SN.size + 1) := by omega
  have y1 : ¬ (9223372036854775807 < SN.size + 1 + SA.size) := by omega
  have y2 : ¬ (9223372036854775807 < SN.size + 1 + SA.size + 2) := by omega
  have y3 : ¬ (9223372036854775807 < SN.size + 1 + SA.size + 2 + SB.size) := by omega
  have y4 : ¬ (9223372036854775807 < SN.size + 1 + SA.size + 2 + SB.size + 2) := by omega
  have y5 : ¬ (9223372036854775807 < SN.size + 1 + SA.size + 2 + SB.size + 2 + SC.size) := by omega
  have hfin : SN ++ (⟨#[32]⟩ : ByteArray) ++ SA ++ (⟨#[44, 32]⟩ : ByteArray) ++ SB ++ (⟨#[44, 32]⟩ : ByteArray) ++ SC = ⟨(lineI ⟨0, u, v, a, b, c, op, im⟩).toArray⟩ := by
    apply str_of
    rw [← hSN, ← hSA, ← hSB, ← hSC]
    simp [ByteArray.data_append, lineI, restI, regL]
  have HSN := Lib.hid hSN
  have HSA := Lib.hid hSA
  have HSB := Lib.hid hSB
  have HSC := Lib.hid hSC
  have HF := Lib.hid hfin
  have HK := Lib.hid hk
  have HLK := Aside.mk hlk
  have HNM := Lib.hid hnm
  have HN := Aside.mk hn
  have HV := Aside.mk hv
  have HD := Lib.hid hd
  have HL := Lib.hid hl
  clear hfin hk hlk hnm hn hv ht hd hl hg hnl hSN hSA hSB hSC
  have hi84 : (i : Int) < 84 := by omega
  obtain ⟨cp1, cp2, -, -⟩ := hcap
  unfold maxLen at cp2
  go_enter Tryz.func27, Tryz.ntmps27
  go_wp2_with fail
  refine (p_Decode x _ h0 h1).mono ?_
  rintro e w1 ⟨rfl, hB⟩
  rw [HD.out]
  simp only [insV_eq]
  go_wp2_with fail
  refine any_begin later_goes (by kernel_rfl) ?_
  generalize hW : World.drew _ = W0
  have hb : W0.heap[w1.heap.size]? = some (.cells #[.int .i64 0, .bool u, .bool v, .int .i64 a, .int .i64 b, .int .i64 c, .int .i64 op, .int .i64 im] 45 (0, 0)) := by rw [← hW]; exact b_new _ _
  obtain ⟨f0, f1, f2, f3, f4, f5, f6, f7⟩ := b_cells8 hb
  have hB0 : Below w.heap.size w W0 := by rw [← hW]; exact (bthen hB (ablow _ _)).drew
  have nm : Aside (Nmr P Bs Bn g1 C1 g2 C2 W0) := ⟨HN.out.stays hB0⟩
  clear hW hb
  refine any_take later_goes 0 ?_ ?_ (by simp only [List.getElem?_toArray, List.getElem?_cons_succ, List.getElem?_cons_zero]; exact rfl) (by kernel_rfl) (by kernel_rfl) (by kernel_rfl) (fun _ _ _ _ _ h => h) (by rfl) ?_ ?_
  rotate_left
  · intro wl hL
    have lf0 := a_keep hL f0; have lf1 := a_keep hL f1; have lf2 := a_keep hL f2; have lf3 := a_keep hL f3; have lf4 := a_keep hL f4; have lf5 := a_keep hL f5; have lf6 := a_keep hL f6; have lf7 := a_keep hL f7; have lp := b_below nm.out.str hL; have p0 : wl.cell? ⟨P, 0, none⟩ = some (.slice (some ⟨g1, 0, none⟩) 84 C1) := by (rw [cell_of_block lp]; rfl)
    have p2 : wl.cell? ⟨P, 2, none⟩ = some (.map (some Bs)) := by (rw [cell_of_block lp]; rfl)
    clear lp
    go_simp
    try with_reducible rfl
  try simp only [Act.put, List.setIfInBounds_toArray, List.set_cons_zero, List.set_cons_succ]
  refine any_take later_goes 1 ?_ ?_ (by simp only [List.getElem?_toArray, List.getElem?_cons_succ, List.getElem?_cons_zero]; exact rfl) (by kernel_rfl) (by kernel_rfl) (by kernel_rfl) (fun _ _ _ _ _ h => h) (by rfl) ?_ ?_
  rotate_left
  · intro wl hL
    have lf0 := a_keep hL f0; have lf1 := a_keep hL f1; have lf2 := a_keep hL f2; have lf3 := a_keep hL f3; have lf4 := a_keep hL f4; have lf5 := a_keep hL f5; have lf6 := a_keep hL f6; have lf7 := a_keep hL f7; have lp := b_below nm.out.str hL; have p0 : wl.cell? ⟨P, 0, none⟩ = some (.slice (some ⟨g1, 0, none⟩) 84 C1) := by (rw [cell_of_block lp]; rfl)
    have p2 : wl.cell? ⟨P, 2, none⟩ = some (.map (some Bs)) := by (rw [cell_of_block lp]; rfl)
    clear lp
    go_simp
    try with_reducible rfl
  try simp only [Act.put, List.setIfInBounds_toArray, List.set_cons_zero, List.set_cons_succ]
  refine any_take later_goes 2 ?_ ?_ (by simp only [List.getElem?_toArray, List.getElem?_cons_succ, List.getElem?_cons_zero]; exact rfl) (by kernel_rfl) (by kernel_rfl) (by kernel_rfl) (fun _ _ _ _ _ h => h) (by rfl) ?_ ?_
  rotate_left
  · intro wl hL
    have lf0 := a_keep hL f0; have lf1 := a_keep hL f1; have lf2 := a_keep hL f2; have lf3 := a_keep hL f3; have lf4 := a_keep hL f4; have lf5 := a_keep hL f5; have lf6 := a_keep hL f6; have lf7 := a_keep hL f7; have lp := b_below nm.out.str hL; have p0 : wl.cell? ⟨P, 0, none⟩ = some (.slice (some ⟨g1, 0, none⟩) 84 C1) := by (rw [cell_of_block lp]; rfl)
    have p2 : wl.cell? ⟨P, 2, none⟩ = some (.map (some Bs)) := by (rw [cell_of_block lp]; rfl)
    clear lp
    go_simp
    try with_reducible rfl
  try simp only [Act.put, List.setIfInBounds_toArray, List.set_cons_zero, List.set_cons_succ]
  refine any_take later_goes 3 ?_ ?_ (by simp only [List.getElem?_toArray, List.getElem?_cons_succ, List.getElem?_cons_zero]; exact rfl) (by kernel_rfl) (by kernel_rfl) (by kernel_rfl) (fun _ _ _ _ _ h => h) (by rfl) ?_ ?_
  rotate_left
  · intro wl hL
    have lf0 := a_keep hL f0; have lf1 := a_keep hL f1; have lf2 := a_keep hL f2; have lf3 := a_keep hL f3; have lf4 := a_keep hL f4; have lf5 := a_keep hL f5; have lf6 := a_keep hL f6; have lf7 := a_keep hL f7; have lp := b_below nm.out.str hL; have p0 : wl.cell? ⟨P, 0, none⟩ = some (.slice (some ⟨g1, 0, none⟩) 84 C1) := by (rw [cell_of_block lp]; rfl)
    have p2 : wl.cell? ⟨P, 2, none⟩ = some (.map (some Bs)) := by (rw [cell_of_block lp]; rfl)
    clear lp
    go_simp
    try with_reducible rfl
  try simp only [Act.put, List.setIfInBounds_toArray, List.set_cons_zero, List.set_cons_succ]
  refine any_take later_goes 4 ?_ ?_ (by simp only [List.getElem?_toArray, List.getElem?_cons_succ, List.getElem?_cons_zero]; exact rfl) (by kernel_rfl) (by kernel_rfl) (by kernel_rfl) (fun _ _ _ _ _ h => h) (by rfl) ?_ ?_
  rotate_left
  · intro wl hL
    have lf0 := a_keep hL f0; have lf1 := a_keep hL f1; have lf2 := a_keep hL f2; have lf3 := a_keep hL f3; have lf4 := a_keep hL f4; have lf5 := a_keep hL f5; have lf6 := a_keep hL f6; have lf7 := a_keep hL f7; have lp := b_below nm.out.str hL; have p0 : wl.cell? ⟨P, 0, none⟩ = some (.slice (some ⟨g1, 0, none⟩) 84 C1) := by (rw [cell_of_block lp]; rfl)
    have p2 : wl.cell? ⟨P, 2, none⟩ = some (.map (some Bs)) := by (rw [cell_of_block lp]; rfl)
    clear lp
    go_simp
    try with_reducible rfl
  try simp only [Act.put, List.setIfInBounds_toArray, List.set_cons_zero, List.set_cons_succ]
  refine any_take later_goes 5 ?_ ?_ (by simp only [List.getElem?_toArray, List.getElem?_cons_succ, List.getElem?_cons_zero]; exact rfl) (by kernel_rfl) (by kernel_rfl) (by kernel_rfl) (fun _ _ _ _ _ h => h) (by rfl) ?_ ?_
  rotate_left
  · intro wl hL
    have lf0 := a_keep hL f0; have lf1 := a_keep hL f1; have lf2 := a_keep hL f2; have lf3 := a_keep hL f3; have lf4 := a_keep hL f4; have lf5 := a_keep hL f5; have lf6 := a_keep hL f6; have lf7 := a_keep hL f7; have lp := b_below nm.out.str hL; have p0 : wl.cell? ⟨P, 0, none⟩ = some (.slice (some ⟨g1, 0, none⟩) 84 C1) := by (rw [cell_of_block lp]; rfl)
    have p2 : wl.cell? ⟨P, 2, none⟩ = some (.map (some Bs)) := by (rw [cell_of_block lp]; rfl)
    clear lp
    go_simp
    try with_reducible rfl
  try simp only [Act.put, List.setIfInBounds_toArray, List.set_cons_zero, List.set_cons_succ]
  refine any_take later_goes 6 ?_ ?_ (by simp only [List.getElem?_toArray, List.getElem?_cons_succ, List.getElem?_cons_zero]; exact rfl) (by kernel_rfl) (by kernel_rfl) (by kernel_rfl) (fun _ _ _ _ _ h => h) (by rfl) ?_ ?_
  rotate_left
  · intro wl hL
    have lf0 := a_keep hL f0; have lf1 := a_keep hL f1; have lf2 := a_keep hL f2; have lf3 := a_keep hL f3; have lf4 := a_keep hL f4; have lf5 := a_keep hL f5; have lf6 := a_keep hL f6; have lf7 := a_keep hL f7; have lp := b_below nm.out.str hL; have p0 : wl.cell? ⟨P, 0, none⟩ = some (.slice (some ⟨g1, 0, none⟩) 84 C1) := by (rw [cell_of_block lp]; rfl)
    have p2 : wl.cell? ⟨P, 2, none⟩ = some (.map (some Bs)) := by (rw [cell_of_block lp]; rfl)
    clear lp
    go_simp
    try with_reducible rfl
  try simp only [Act.put, List.setIfInBounds_toArray, List.set_cons_zero, List.set_cons_succ]
  refine any_take later_goes 7 ?_ ?_ (by simp only [List.getElem?_toArray, List.getElem?_cons_succ, List.getElem?_cons_zero]; exact rfl) (by kernel_rfl) (by kernel_rfl) (by kernel_rfl) (fun _ _ _ _ _ h => h) (by rfl) ?_ ?_
  rotate_left
  · intro wl hL
    have lf0 := a_keep hL f0; have lf1 := a_keep hL f1; have lf2 := a_keep hL f2; have lf3 := a_keep hL f3; have lf4 := a_keep hL f4; have lf5 := a_keep hL f5; have lf6 := a_keep hL f6; have lf7 := a_keep hL f7; have lp := b_below nm.out.str hL; have p0 : wl.cell? ⟨P, 0, none⟩ = some (.slice (some ⟨g1, 0, none⟩) 84 C1) := by (rw [cell_of_block lp]; rfl)
    have p2 : wl.cell? ⟨P, 2, none⟩ = some (.map (some Bs)) := by (rw [cell_of_block lp]; rfl)
    clear lp
    go_simp
    try with_reducible rfl
  try simp only [Act.put, List.setIfInBounds_toArray, List.set_cons_zero, List.set_cons_succ]
  refine any_take later_goes 8 ?_ ?_ (by simp only [List.getElem?_toArray, List.getElem?_cons_succ, List.getElem?_cons_zero]; exact rfl) (by kernel_rfl) (by kernel_rfl) (by kernel_rfl) (fun _ _ _ _ _ h => h) (by rfl) ?_ ?_
  rotate_left
  · intro wl hL
    have lf0 := a_keep hL f0; have lf1 := a_keep hL f1; have lf2 := a_keep hL f2; have lf3 := a_keep hL f3; have lf4 := a_keep hL f4; have lf5 := a_keep hL f5; have lf6 := a_keep hL f6; have lf7 := a_keep hL f7; have lp := b_below nm.out.str hL; have p0 : wl.cell? ⟨P, 0, none⟩ = some (.slice (some ⟨g1, 0, none⟩) 84 C1) := by (rw [cell_of_block lp]; rfl)
    have p2 : wl.cell? ⟨P, 2, none⟩ = some (.map (some Bs)) := by (rw [cell_of_block lp]; rfl)
    clear lp
    go_simp
    try with_reducible rfl
  try simp only [Act.put, List.setIfInBounds_toArray, List.set_cons_zero, List.set_cons_succ]
  refine any_one 9 _ (by kernel_rfl) (by simp only [List.getElem?_toArray, List.getElem?_cons_succ, List.getElem?_cons_zero]; exact rfl) (fun K hK => ?_)
  go_simp
  refine (p_of ⟨0, u, v, a, b, c, op, im⟩ _).mono ?_
  rintro e wo ⟨rfl, hBo⟩
  rw [HK.out]
  refine hK.out _ _ hBo ?_
  clear hK K
  try simp only [Act.put, List.setIfInBounds_toArray, List.set_cons_zero, List.set_cons_succ]
  replace f0 := a_keep hBo f0
  replace f1 := a_keep hBo f1
  replace f2 := a_keep hBo f2
  replace f3 := a_keep hBo f3
  replace f4 := a_keep hBo f4
  replace f5 := a_keep hBo f5
  replace f6 := a_keep hBo f6
  replace f7 := a_keep hBo f7
  replace nm := Aside.mk (nm.out.stays hBo)
  replace hB0 := bthen hB0 hBo
  clear hBo
  refine any_take later_goes 10 ?_ ?_ (by simp only [List.getElem?_toArray, List.getElem?_cons_succ, List.getElem?_cons_zero]; exact rfl) (by kernel_rfl) (by kernel_rfl) (by kernel_rfl) (fun _ _ _ _ _ h => h) (by rfl) ?_ ?_
  rotate_left
  · intro wl hL
    have hlk := HLK.out wl (b_below nm.out.byS hL)
    go_simp
    try with_reducible rfl
  try simp only [Act.put, List.setIfInBounds_toArray, List.set_cons_zero, List.set_cons_succ]
  refine any_take later_goes 11 ?_ ?_ (by simp only [List.getElem?_toArray, List.getElem?_cons_succ, List.getElem?_cons_zero]; exact rfl) (by kernel_rfl) (by kernel_rfl) (by kernel_rfl) (fun _ _ _ _ _ h => h) (by rfl) ?_ ?_
  rotate_left
  · intro wl hL
    skip
    go_simp
    try with_reducible rfl
  try simp only [Act.put, List.setIfInBounds_toArray, List.set_cons_zero, List.set_cons_succ]
  refine any_take later_goes 12 ?_ ?_ (by simp only [List.getElem?_toArray, List.getElem?_cons_succ, List.getElem?_cons_zero]; exact rfl) (by kernel_rfl) (by kernel_rfl) (by kernel_rfl) (fun _ _ _ _ _ h => h) (by rfl) ?_ ?_
  rotate_left
  · intro wl hL
    have hc := a_keep hL (nm.out.names i _ HNM.out)
    go_simp
    try with_reducible rfl
  try simp only [Act.put, List.setIfInBounds_toArray, List.set_cons_zero, List.set_cons_succ]
  refine any_take later_goes 13 ?_ ?_ (by simp only [List.getElem?_toArray, List.getElem?_cons_succ, List.getElem?_cons_zero]; exact rfl) (by kernel_rfl) (by kernel_rfl) (by kernel_rfl) (fun _ _ _ _ _ h => h) (by rfl) ?_ ?_
  rotate_left
  · intro wl hL
    skip
    go_simp
    try with_reducible rfl
  try simp only [Act.put, List.setIfInBounds_toArray, List.set_cons_zero, List.set_cons_succ]
  refine any_take later_goes 14 ?_ ?_ (by simp only [List.getElem?_toArray, List.getElem?_cons_succ, List.getElem?_cons_zero]; exact rfl) (by kernel_rfl) (by kernel_rfl) (by kernel_rfl) (fun _ _ _ _ _ h => h) (by rfl) ?_ ?_
  rotate_left
  · intro wl hL
    skip
    go_simp
    try with_reducible rfl
  try simp only [Act.put, List.setIfInBounds_toArray, List.set_cons_zero, List.set_cons_succ]
  refine any_done (by kernel_rfl) ?_ _
  go_wp2_with fail
  refine any_begin later_goes (by kernel_rfl) ?_
  generalize hW : World.drew _ = W1
  replace f0 := (show W1.cell? _ = some _ by rw [← hW]; exact f0)
  replace f1 := (show W1.cell? _ = some _ by rw [← hW]; exact f1)
  replace f2 := (show W1.cell? _ = some _ by rw [← hW]; exact f2)
  replace f3 := (show W1.cell? _ = some _ by rw [← hW]; exact f3)
  replace f4 := (show W1.cell? _ = some _ by rw [← hW]; exact f4)
  replace f5 := (show W1.cell? _ = some _ by rw [← hW]; exact f5)
  replace f6 := (show W1.cell? _ = some _ by rw [← hW]; exact f6)
  replace f7 := (show W1.cell? _ = some _ by rw [← hW]; exact f7)
  replace hB0 : Below w.heap.size w W1 := by rw [← hW]; exact hB0.drew
  clear hW
  refine any_take later_goes 0 ?_ ?_ (by simp only [List.getElem?_toArray, List.getElem?_cons_succ, List.getElem?_cons_zero]; exact rfl) (by kernel_rfl) (by kernel_rfl) (by kernel_rfl) (fun _ _ _ _ _ h => h) (by rfl) ?_ ?_
  rotate_left
  · intro wl hL
    have lf0 := a_keep hL f0; have lf1 := a_keep hL f1; have lf2 := a_keep hL f2; have lf3 := a_keep hL f3; have lf4 := a_keep hL f4; have lf5 := a_keep hL f5; have lf6 := a_keep hL f6; have lf7 := a_keep hL f7
    go_simp
    try with_reducible rfl
  try simp only [Act.put, List.setIfInBounds_toArray, List.set_cons_zero, List.set_cons_succ]
  refine any_take later_goes 1 ?_ ?_ (by simp only [List.getElem?_toArray, List.getElem?_cons_succ, List.getElem?_cons_zero]; exact rfl) (by kernel_rfl) (by kernel_rfl) (by kernel_rfl) (fun _ _ _ _ _ h => h) (by rfl) ?_ ?_
  rotate_left
  · intro wl hL
    have lf0 := a_keep hL f0; have lf1 := a_keep hL f1; have lf2 := a_keep hL f2; have lf3 := a_keep hL f3; have lf4 := a_keep hL f4; have lf5 := a_keep hL f5; have lf6 := a_keep hL f6; have lf7 := a_keep hL f7
    go_simp
    try with_reducible rfl
  try simp only [Act.put, List.setIfInBounds_toArray, List.set_cons_zero, List.set_cons_succ]
  refine any_take later_goes 2 ?_ ?_ (by simp only [List.getElem?_toArray, List.getElem?_cons_succ, List.getElem?_cons_zero]; exact rfl) (by kernel_rfl) (by kernel_rfl) (by kernel_rfl) (fun _ _ _ _ _ h => h) (by rfl) ?_ ?_
  rotate_left
  · intro wl hL
    have lf0 := a_keep hL f0; have lf1 := a_keep hL f1; have lf2 := a_keep hL f2; have lf3 := a_keep hL f3; have lf4 := a_keep hL f4; have lf5 := a_keep hL f5; have lf6 := a_keep hL f6; have lf7 := a_keep hL f7
    go_simp
    try with_reducible rfl
  try simp only [Act.put, List.setIfInBounds_toArray, List.set_cons_zero, List.set_cons_succ]
  refine any_take later_goes 6 ?_ ?_ (by simp only [List.getElem?_toArray, List.getElem?_cons_succ, List.getElem?_cons_zero]; exact rfl) (by kernel_rfl) (by kernel_rfl) (by kernel_rfl) (fun _ _ _ _ _ h => h) (by rfl) ?_ ?_
  rotate_left
  · intro wl hL
    have lf0 := a_keep hL f0; have lf1 := a_keep hL f1; have lf2 := a_keep hL f2; have lf3 := a_keep hL f3; have lf4 := a_keep hL f4; have lf5 := a_keep hL f5; have lf6 := a_keep hL f6; have lf7 := a_keep hL f7
    go_simp
    try with_reducible rfl
  try simp only [Act.put, List.setIfInBounds_toArray, List.set_cons_zero, List.set_cons_succ]
  refine any_take later_goes 7 ?_ ?_ (by simp only [List.getElem?_toArray, List.getElem?_cons_succ, List.getElem?_cons_zero]; exact rfl) (by kernel_rfl) (by kernel_rfl) (by kernel_rfl) (fun _ _ _ _ _ h => h) (by rfl) ?_ ?_
  rotate_left
  · intro wl hL
    have lf0 := a_keep hL f0; have lf1 := a_keep hL f1; have lf2 := a_keep hL f2; have lf3 := a_keep hL f3; have lf4 := a_keep hL f4; have lf5 := a_keep hL f5; have lf6 := a_keep hL f6; have lf7 := a_keep hL f7
    go_simp
    try with_reducible rfl
  try simp only [Act.put, List.setIfInBounds_toArray, List.set_cons_zero, List.set_cons_succ]
  refine any_take later_goes 11 ?_ ?_ (by simp only [List.getElem?_toArray, List.getElem?_cons_succ, List.getElem?_cons_zero]; exact rfl) (by kernel_rfl) (by kernel_rfl) (by kernel_rfl) (fun _ _ _ _ _ h => h) (by rfl) ?_ ?_
  rotate_left
  · intro wl hL
    have lf0 := a_keep hL f0; have lf1 := a_keep hL f1; have lf2 := a_keep hL f2; have lf3 := a_keep hL f3; have lf4 := a_keep hL f4; have lf5 := a_keep hL f5; have lf6 := a_keep hL f6; have lf7 := a_keep hL f7
    go_simp
    try with_reducible rfl
  try simp only [Act.put, List.setIfInBounds_toArray, List.set_cons_zero, List.set_cons_succ]
  refine any_take later_goes 12 ?_ ?_ (by simp only [List.getElem?_toArray, List.getElem?_cons_succ, List.getElem?_cons_zero]; exact rfl) (by kernel_rfl) (by kernel_rfl) (by kernel_rfl) (fun _ _ _ _ _ h => h) (by rfl) ?_ ?_
  rotate_left
  · intro wl hL
    have lf0 := a_keep hL f0; have lf1 := a_keep hL f1; have lf2 := a_keep hL f2; have lf3 := a_keep hL f3; have lf4 := a_keep hL f4; have lf5 := a_keep hL f5; have lf6 := a_keep hL f6; have lf7 := a_keep hL f7
    go_simp
    try with_reducible rfl
  try simp only [Act.put, List.setIfInBounds_toArray, List.set_cons_zero, List.set_cons_succ]
  refine any_one 3 _ (by kernel_rfl) (by simp only [List.getElem?_toArray, List.getElem?_cons_succ, List.getElem?_cons_zero]; exact rfl) (fun K hK => ?_)
  go_simp
  refine (p_register _ _ (by omega) (by omega)).mono ?_
  rintro e w2 ⟨rfl, rfl⟩
  rw [HSA.out]
  refine hK.out _ _ (later_goes.refl _) ?_
  clear hK K
  try simp only [Act.put, List.setIfInBounds_toArray, List.set_cons_zero, List.set_cons_succ]
  refine any_take later_goes 4 ?_ ?_ (by simp only [List.getElem?_toArray, List.getElem?_cons_succ, List.getElem?_cons_zero]; exact rfl) (by kernel_rfl) (by kernel_rfl) (by kernel_rfl) (fun _ _ _ _ _ h => h) (by rfl) ?_ ?_
  rotate_left
  · intro wl hL
    skip
    go_simp
    try with_reducible rfl
  try simp only [Act.put, List.setIfInBounds_toArray, List.set_cons_zero, List.set_cons_succ]
  refine any_take later_goes 5 ?_ ?_ (by simp only [List.getElem?_toArray, List.getElem?_cons_succ, List.getElem?_cons_zero]; exact rfl) (by kernel_rfl) (by kernel_rfl) (by kernel_rfl) (fun _ _ _ _ _ h => h) (by rfl) ?_ ?_
  rotate_left
  · intro wl hL
    skip
    go_simp
    try with_reducible rfl
  try simp only [Act.put, List.setIfInBounds_toArray, List.set_cons_zero, List.set_cons_succ]
  refine any_one 8 _ (by kernel_rfl) (by simp only [List.getElem?_toArray, List.getElem?_cons_succ, List.getElem?_cons_zero]; exact rfl) (fun K hK => ?_)
  go_simp
  refine (p_register _ _ (by omega) (by omega)).mono ?_
  rintro e w2 ⟨rfl, rfl⟩
  rw [HSB.out]
  refine hK.out _ _ (later_goes.refl _) ?_
  clear hK K
  try simp only [Act.put, List.setIfInBounds_toArray, List.set_cons_zero, List.set_cons_succ]
  refine any_take later_goes 9 ?_ ?_ (by simp only [List.getElem?_toArray, List.getElem?_cons_succ, List.getElem?_cons_zero]; exact rfl) (by kernel_rfl) (by kernel_rfl) (by kernel_rfl) (fun _ _ _ _ _ h => h) (by rfl) ?_ ?_
  rotate_left
  · intro wl hL
    skip
    go_simp
    try with_reducible rfl
  try simp only [Act.put, List.setIfInBounds_toArray, List.set_cons_zero, List.set_cons_succ]
  refine any_take later_goes 10 ?_ ?_ (by simp only [List.getElem?_toArray, List.getElem?_cons_succ, List.getElem?_cons_zero]; exact rfl) (by kernel_rfl) (by kernel_rfl) (by kernel_rfl) (fun _ _ _ _ _ h => h) (by rfl) ?_ ?_
  rotate_left
  · intro wl hL
    skip
    go_simp
    try with_reducible rfl
  try simp only [Act.put, List.setIfInBounds_toArray, List.set_cons_zero, List.set_cons_succ]
  refine any_one 13 _ (by kernel_rfl) (by simp only [List.getElem?_toArray, List.getElem?_cons_succ, List.getElem?_cons_zero]; exact rfl) (fun K hK => ?_)
  go_simp
  refine (p_register _ _ (by omega) (by omega)).mono ?_
  rintro e w2 ⟨rfl, rfl⟩
  rw [HSC.out]
  refine hK.out _ _ (later_goes.refl _) ?_
  clear hK K
  try simp only [Act.put, List.setIfInBounds_toArray, List.set_cons_zero, List.set_cons_succ]
  refine any_take later_goes 14 ?_ ?_ (by simp only [List.getElem?_toArray, List.getElem?_cons_succ, List.getElem?_cons_zero]; exact rfl) (by kernel_rfl) (by kernel_rfl) (by kernel_rfl) (fun _ _ _ _ _ h => h) (by rfl) ?_ ?_
  rotate_left
  · intro wl hL
    skip
    go_simp
    try with_reducible rfl
  try simp only [Act.put, List.setIfInBounds_toArray, List.set_cons_zero, List.set_cons_succ]
  refine any_take later_goes 15 ?_ ?_ (by simp only [List.getElem?_toArray, List.getElem?_cons_succ, List.getElem?_cons_zero]; exact rfl) (by kernel_rfl) (by kernel_rfl) (by kernel_rfl) (fun _ _ _ _ _ h => h) (by rfl) ?_ ?_
  rotate_left
  · intro wl hL
    skip
    go_simp
    try with_reducible rfl
  try simp only [Act.put, List.setIfInBounds_toArray, List.set_cons_zero, List.set_cons_succ]
  refine any_take later_goes 16 ?_ ?_ (by simp only [List.getElem?_toArray, List.getElem?_cons_succ, List.getElem?_cons_zero]; exact rfl) (by kernel_rfl) (by kernel_rfl) (by kernel_rfl) (fun _ _ _ _ _ h => h) (by rfl) ?_ ?_
  rotate_left
  · intro wl hL
    skip
    go_simp
    try with_reducible rfl
  try simp only [Act.put, List.setIfInBounds_toArray, List.set_cons_zero, List.set_cons_succ]
  refine any_done (by kernel_rfl) ?_ _
  go_wp2_with fail
  go_ret2
  exact ⟨by rw [HL.out, ← HF.out]; rfl, hB0⟩
set_option maxRecDepth 100000 in
set_option maxHeartbeats 8000000 in
theorem pline1 (P Bs Bn g1 C1 g2 C2 : Nat) (x a b c op im : Int) (u v : Bool) (w : World) (hn : Nmr P Bs Bn g1 C1 g2 C2 w) (hv : VarsA w) (h0 : 0 ≤ x) (h1 : x ≤ 4294967295) (hd : decW x = (⟨1, u, v, a, b, c, op, im⟩, 0)) (hl : lineW x = (lineI ⟨1, u, v, a, b, c, op, im⟩, 0))
    (hg : goodI ⟨1, u, v, a, b, c, op, im⟩ = true) (i0 : -2147483648 < im) (i1 : im < 2147483648) : Calls Tryz.prog 27 #[.pointer (some ⟨P, 0, none⟩), .int .u32 x] w (AtLine x w) := by
  obtain ⟨i, hi, ht⟩ := shape_at hg
  obtain ⟨⟨a0, a1⟩, ⟨b0, b1⟩, ⟨c0, c1⟩, o0, o1⟩ := good_nibs hg
  simp only at a0 a1 b0 b1 c0 c1 o0 o1
  obtain ⟨k, hk⟩ : ∃ k, shapeOf ⟨1, u, v, a, b, c, op, im⟩ = k := ⟨_, rfl⟩
  rw [hk] at ht
  have hlk := look_S ht Bs
  have hcap := hn.cap
  have hnl := name_len ht
  obtain ⟨SN, hSN⟩ : ∃ S : ByteArray, (⟨(nameI ⟨1, u, v, a, b, c, op, im⟩).toArray⟩ : ByteArray) = S := ⟨_, rfl⟩
  have zN : SN.size ≤ 5 := by rw [← hSN, size_mk]; exact hnl
  have hnm : (keysN tableP)[i]? = some (.string SN) := by simp [keysN, ht, strV, hSN]
  obtain ⟨SA, hSA⟩ : ∃ S : ByteArray, (⟨(regL a).toArray⟩ : ByteArray) = S := ⟨_, rfl⟩
  have zA : SA.size ≤ 21 := by rw [← hSA, size_mk]; exact regL_len (by omega) (by omega)
  obtain ⟨SB, hSB⟩ : ∃ S : ByteArray, (⟨(regL b).toArray⟩ : ByteArray) = S := ⟨_, rfl⟩
  have zB : SB.size ≤ 21 := by rw [← hSB, size_mk]; exact regL_len (by omega) (by omega)
  obtain ⟨SI, hSI⟩ : ∃ S : ByteArray, (⟨(Lib.itoa im).toArray⟩ : ByteArray) = S := ⟨_, rfl⟩
  have zI : SI.size ≤ 20 := by rw [← hSI, size_mk]; exact itoa_len i0 i1
  have y0 : ¬ (9223372036854775807 < SN.size + 1) := by omega
  have y1 : ¬ (9223372036854775807 < SN.size + 1 + SA.size) := by omega
  have y2 : ¬ (9223372036854775807 < SN.size + 1 + SA.size + 2) := by omega
  have y3 : ¬ (9223372036854775807 < SN.size + 1 + SA.size + 2 + SB.size) := by omega
  have y4 : ¬ (9223372036854775807 < SN.size + 1 + SA.size + 2 + SB.size + 2) := by omega
  have y5 : ¬ (9223372036854775807 < SN.size + 1 + SA.size + 2 + SB.size + 2 + SI.size) := by omega
  have hfin : SN ++ (⟨#[32]⟩ : ByteArray) ++ SA ++ (⟨#[44, 32]⟩ : ByteArray) ++ SB ++ (⟨#[44, 32]⟩ : ByteArray) ++ SI = ⟨(lineI ⟨1, u, v, a, b, c, op, im⟩).toArray⟩ := by
    apply str_of
    rw [← hSN, ← hSA, ← hSB, ← hSI]
    simp [ByteArray.data_append, lineI, restI, regL]
  have HSN := Lib.hid hSN
  have HSA := Lib.hid hSA
  have HSB := Lib.hid hSB
  have HSI := Lib.hid hSI
  have HF := Lib.hid hfin
  have HK := Lib.hid hk
  have HLK := Aside.mk hlk
  have HNM := Lib.hid hnm
  have HN := Aside.mk hn
  have HV := Aside.mk hv
  have HD := Lib.hid hd
  have HL := Lib.hid hl
  clear hfin hk hlk hnm hn hv ht hd hl hg hnl hSN hSA hSB hSI
  have hi84 : (i : Int) < 84 := by omega
  obtain ⟨cp1, cp2, -, -⟩ := hcap
  unfold maxLen at cp2
  go_enter Tryz.func27, Tryz.ntmps27
  go_wp2_with fail
  refine (p_Decode x _ h0 h1).mono ?_
  rintro e w1 ⟨rfl, hB⟩
  rw [HD.out]
  simp only [insV_eq]
  go_wp2_with fail
  refine any_begin later_goes (by kernel_rfl) ?_
  generalize hW : World.drew _ = W0
  have hb : W0.heap[w1.heap.size]? = some (.cells #[.int .i64 1, .bool u, .bool v, .int .i64 a, .int .i64 b, .int .i64 c, .int .i64 op, .int .i64 im] 45 (0, 0)) := by rw [← hW]; exact b_new _ _
  obtain ⟨f0, f1, f2, f3, f4, f5, f6, f7⟩ := b_cells8 hb
  have hB0 : Below w.heap.size w W0 := by rw [← hW]; exact (bthen hB (ablow _ _)).drew
  have nm : Aside (Nmr P Bs Bn g1 C1 g2 C2 W0) := ⟨HN.out.stays hB0⟩
  clear hW hb
  refine any_take later_goes 0 ?_ ?_ (by simp only [List.getElem?_toArray, List.getElem?_cons_succ, List.getElem?_cons_zero]; exact rfl) (by kernel_rfl) (by kernel_rfl) (by kernel_rfl) (fun _ _ _ _ _ h => h) (by rfl) ?_ ?_
  rotate_left
  · intro wl hL
    have lf0 := a_keep hL f0; have lf1 := a_keep hL f1; have lf2 := a_keep hL f2; have lf3 := a_keep hL f3; have lf4 := a_keep hL f4; have lf5 := a_keep hL f5; have lf6 := a_keep hL f6; have lf7 := a_keep hL f7; have lp := b_below nm.out.str hL; have p0 : wl.cell? ⟨P, 0, none⟩ = some (.slice (some ⟨g1, 0, none⟩) 84 C1) := by (rw [cell_of_block lp]; rfl)
    have p2 : wl.cell? ⟨P, 2, none⟩ = some (.map (some Bs)) := by (rw [cell_of_block lp]; rfl)
    clear lp
    go_simp
    try with_reducible rfl
  try simp only [Act.put, List.setIfInBounds_toArray, List.set_cons_zero, List.set_cons_succ]
  refine any_take later_goes 1 ?_ ?_ (by simp only [List.getElem?_toArray, List.getElem?_cons_succ, List.getElem?_cons_zero]; exact rfl) (by kernel_rfl) (by kernel_rfl) (by kernel_rfl) (fun _ _ _ _ _ h => h) (by rfl) ?_ ?_
  rotate_left
  · intro wl hL
    have lf0 := a_keep hL f0; have lf1 := a_keep hL f1; have lf2 := a_keep hL f2; have lf3 := a_keep hL f3; have lf4 := a_keep hL f4; have lf5 := a_keep hL f5; have lf6 := a_keep hL f6; have lf7 := a_keep hL f7; have lp := b_below nm.out.str hL; have p0 : wl.cell? ⟨P, 0, none⟩ = some (.slice (some ⟨g1, 0, none⟩) 84 C1) := by (rw [cell_of_block lp]; rfl)
    have p2 : wl.cell? ⟨P, 2, none⟩ = some (.map (some Bs)) := by (rw [cell_of_block lp]; rfl)
    clear lp
    go_simp
    try with_reducible rfl
  try simp only [Act.put, List.setIfInBounds_toArray, List.set_cons_zero, List.set_cons_succ]
  refine any_take later_goes 2 ?_ ?_ (by simp only [List.getElem?_toArray, List.getElem?_cons_succ, List.getElem?_cons_zero]; exact rfl) (by kernel_rfl) (by kernel_rfl) (by kernel_rfl) (fun _ _ _ _ _ h => h) (by rfl) ?_ ?_
  rotate_left
  · intro wl hL
    have lf0 := a_keep hL f0; have lf1 := a_keep hL f1; have lf2 := a_keep hL f2; have lf3 := a_keep hL f3; have lf4 := a_keep hL f4; have lf5 := a_keep hL f5; have lf6 := a_keep hL f6; have lf7 := a_keep hL f7; have lp := b_below nm.out.str hL; have p0 : wl.cell? ⟨P, 0, none⟩ = some (.slice (some ⟨g1, 0, none⟩) 84 C1) := by (rw [cell_of_block lp]; rfl)
    have p2 : wl.cell? ⟨P, 2, none⟩ = some (.map (some Bs)) := by (rw [cell_of_block lp]; rfl)
    clear lp
    go_simp
    try with_reducible rfl
  try simp only [Act.put, List.setIfInBounds_toArray, List.set_cons_zero, List.set_cons_succ]
  refine any_take later_goes 3 ?_ ?_ (by simp only [List.getElem?_toArray, List.getElem?_cons_succ, List.getElem?_cons_zero]; exact rfl) (by kernel_rfl) (by kernel_rfl) (by kernel_rfl) (fun _ _ _ _ _ h => h) (by rfl) ?_ ?_
  rotate_left
  · intro wl hL
    have lf0 := a_keep hL f0; have lf1 := a_keep hL f1; have lf2 := a_keep hL f2; have lf3 := a_keep hL f3; have lf4 := a_keep hL f4; have lf5 := a_keep hL f5; have lf6 := a_keep hL f6; have lf7 := a_keep hL f7; have lp := b_below nm.out.str hL; have p0 : wl.cell? ⟨P, 0, none⟩ = some (.slice (some ⟨g1, 0, none⟩) 84 C1) := by (rw [cell_of_block lp]; rfl)
    have p2 : wl.cell? ⟨P, 2, none⟩ = some (.map (some Bs)) := by (rw [cell_of_block lp]; rfl)
    clear lp
    go_simp
    try with_reducible rfl
  try simp only [Act.put, List.setIfInBounds_toArray, List.set_cons_zero, List.set_cons_succ]
  refine any_take later_goes 4 ?_ ?_ (by simp only [List.getElem?_toArray, List.getElem?_cons_succ, List.getElem?_cons_zero]; exact rfl) (by kernel_rfl) (by kernel_rfl) (by kernel_rfl) (fun _ _ _ _ _ h => h) (by rfl) ?_ ?_
  rotate_left
  · intro wl hL
    have lf0 := a_keep hL f0; have lf1 := a_keep hL f1; have lf2 := a_keep hL f2; have lf3 := a_keep hL f3; have lf4 := a_keep hL f4; have lf5 := a_keep hL f5; have lf6 := a_keep hL f6; have lf7 := a_keep hL f7; have lp := b_below nm.out.str hL; have p0 : wl.cell? ⟨P, 0, none⟩ = some (.slice (some ⟨g1, 0, none⟩) 84 C1) := by (rw [cell_of_block lp]; rfl)
    have p2 : wl.cell? ⟨P, 2, none⟩ = some (.map (some Bs)) := by (rw [cell_of_block lp]; rfl)
    clear lp
    go_simp
    try with_reducible rfl
  try simp only [Act.put, List.setIfInBounds_toArray, List.set_cons_zero, List.set_cons_succ]
  refine any_take later_goes 5 ?_ ?_ (by simp only [List.getElem?_toArray, List.getElem?_cons_succ, List.getElem?_cons_zero]; exact rfl) (by kernel_rfl) (by kernel_rfl) (by kernel_rfl) (fun _ _ _ _ _ h => h) (by rfl) ?_ ?_
  rotate_left
  · intro wl hL
    have lf0 := a_keep hL f0; have lf1 := a_keep hL f1; have lf2 := a_keep hL f2; have lf3 := a_keep hL f3; have lf4 := a_keep hL f4; have lf5 := a_keep hL f5; have lf6 := a_keep hL f6; have lf7 := a_keep hL f7; have lp := b_below nm.out.str hL; have p0 : wl.cell? ⟨P, 0, none⟩ = some (.slice (some ⟨g1, 0, none⟩) 84 C1) := by (rw [cell_of_block lp]; rfl)
    have p2 : wl.cell? ⟨P, 2, none⟩ = some (.map (some Bs)) := by (rw [cell_of_block lp]; rfl)
    clear lp
    go_simp
    try with_reducible rfl
  try simp only [Act.put, List.setIfInBounds_toArray, List.set_cons_zero, List.set_cons_succ]
  refine any_take later_goes 6 ?_ ?_ (by simp only [List.getElem?_toArray, List.getElem?_cons_succ, List.getElem?_cons_zero]; exact rfl) (by kernel_rfl) (by kernel_rfl) (by kernel_rfl) (fun _ _ _ _ _ h => h) (by rfl) ?_ ?_
  rotate_left
  · intro wl hL
    have lf0 := a_keep hL f0; have lf1 := a_keep hL f1; have lf2 := a_keep hL f2; have lf3 := a_keep hL f3; have lf4 := a_keep hL f4; have lf5 := a_keep hL f5; have lf6 := a_keep hL f6; have lf7 := a_keep hL f7; have lp := b_below nm.out.str hL; have p0 : wl.cell? ⟨P, 0, none⟩ = some (.slice (some ⟨g1, 0, none⟩) 84 C1) := by (rw [cell_of_block lp]; rfl)
    have p2 : wl.cell? ⟨P, 2, none⟩ = some (.map (some Bs)) := by (rw [cell_of_block lp]; rfl)
    clear lp
    go_simp
    try with_reducible rfl
  try simp only [Act.put, List.setIfInBounds_toArray, List.set_cons_zero, List.set_cons_succ]
  refine any_take later_goes 7 ?_ ?_ (by simp only [List.getElem?_toArray, List.getElem?_cons_succ, List.getElem?_cons_zero]; exact rfl) (by kernel_rfl) (by kernel_rfl) (by kernel_rfl) (fun _ _ _ _ _ h => h) (by rfl) ?_ ?_
  rotate_left
  · intro wl hL
    have lf0 := a_keep hL f0; have lf1 := a_keep hL f1; have lf2 := a_keep hL f2; have lf3 := a_keep hL f3; have lf4 := a_keep hL f4; have lf5 := a_keep hL f5; have lf6 := a_keep hL f6; have lf7 := a_keep hL f7; have lp := b_below nm.out.str hL; have p0 : wl.cell? ⟨P, 0, none⟩ = some (.slice (some ⟨g1, 0, none⟩) 84 C1) := by (rw [cell_of_block lp]; rfl)
    have p2 : wl.cell? ⟨P, 2, none⟩ = some (.map (some Bs)) := by (rw [cell_of_block lp]; rfl)
    clear lp
    go_simp
    try with_reducible rfl
  try simp only [Act.put, List.setIfInBounds_toArray, List.set_cons_zero, List.set_cons_succ]
  refine any_take later_goes 8 ?_ ?_ (by simp only [List.getElem?_toArray, List.getElem?_cons_succ, List.getElem?_cons_zero]; exact rfl) (by kernel_rfl) (by kernel_rfl) (by kernel_rfl) (fun _ _ _ _ _ h => h) (by rfl) ?_ ?_
  rotate_left
  · intro wl hL
    have lf0 := a_keep hL f0; have lf1 := a_keep hL f1; have lf2 := a_keep hL f2; have lf3 := a_keep hL f3; have lf4 := a_keep hL f4; have lf5 := a_keep hL f5; have lf6 := a_keep hL f6; have lf7 := a_keep hL f7; have lp := b_below nm.out.str hL; have p0 : wl.cell? ⟨P, 0, none⟩ = some (.slice (some ⟨g1, 0, none⟩) 84 C1) := by (rw [cell_of_block lp]; rfl)
    have p2 : wl.cell? ⟨P, 2, none⟩ = some (.map (some Bs)) := by (rw [cell_of_block lp]; rfl)
    clear lp
    go_simp
    try with_reducible rfl
  try simp only [Act.put, List.setIfInBounds_toArray, List.set_cons_zero, List.set_cons_succ]
  refine any_one 9 _ (by kernel_rfl) (by simp only [List.getElem?_toArray, List.getElem?_cons_succ, List.getElem?_cons_zero]; exact rfl) (fun K hK => ?_)
  go_simp
  refine (p_of ⟨1, u, v, a, b, c, op, im⟩ _).mono ?_
  rintro e wo ⟨rfl, hBo⟩
  rw [HK.out]
  refine hK.out _ _ hBo ?_
  clear hK K
  try simp only [Act.put, List.setIfInBounds_toArray, List.set_cons_zero, List.set_cons_succ]
  replace f0 := a_keep hBo f0
  replace f1 := a_keep hBo f1
  replace f2 := a_keep hBo f2
  replace f3 := a_keep hBo f3
  replace f4 := a_keep hBo f4
  replace f5 := a_keep hBo f5
  replace f6 := a_keep hBo f6
  replace f7 := a_keep hBo f7
  replace nm := Aside.mk (nm.out.stays hBo)
  replace hB0 := bthen hB0 hBo
  clear hBo
  refine any_take later_goes 10 ?_ ?_ (by simp only [List.getElem?_toArray, List.getElem?_cons_succ, List.getElem?_cons_zero]; exact rfl) (by kernel_rfl) (by kernel_rfl) (by kernel_rfl) (fun _ _ _ _ _ h => h) (by rfl) ?_ ?_
  rotate_left
  · intro wl hL
    have hlk := HLK.out wl (b_below nm.out.byS hL)
    go_simp
    try with_reducible rfl
  try simp only [Act.put, List.setIfInBounds_toArray, List.set_cons_zero, List.set_cons_succ]
  refine any_take later_goes 11 ?_ ?_ (by simp only [List.getElem?_toArray, List.getElem?_cons_succ, List.getElem?_cons_zero]; exact rfl) (by kernel_rfl) (by kernel_rfl) (by kernel_rfl) (fun _ _ _ _ _ h => h) (by rfl) ?_ ?_
  rotate_left
  · intro wl hL
    skip
    go_simp
    try with_reducible rfl
  try simp only [Act.put, List.setIfInBounds_toArray, List.set_cons_zero, List.set_cons_succ]
  refine any_take later_goes 12 ?_ ?_ (by simp only [List.getElem?_toArray, List.getElem?_cons_succ, List.getElem?_cons_zero]; exact rfl) (by kernel_rfl) (by kernel_rfl) (by kernel_rfl) (fun _ _ _ _ _ h => h) (by rfl) ?_ ?_
  rotate_left
  · intro wl hL
    have hc := a_keep hL (nm.out.names i _ HNM.out)
    go_simp
    try with_reducible rfl
  try simp only [Act.put, List.setIfInBounds_toArray, List.set_cons_zero, List.set_cons_succ]
  refine any_take later_goes 13 ?_ ?_ (by simp only [List.getElem?_toArray, List.getElem?_cons_succ, List.getElem?_cons_zero]; exact rfl) (by kernel_rfl) (by kernel_rfl) (by kernel_rfl) (fun _ _ _ _ _ h => h) (by rfl) ?_ ?_
  rotate_left
  · intro wl hL
    skip
    go_simp
    try with_reducible rfl
  try simp only [Act.put, List.setIfInBounds_toArray, List.set_cons_zero, List.set_cons_succ]
  refine any_take later_goes 14 ?_ ?_ (by simp only [List.getElem?_toArray, List.getElem?_cons_succ, List.getElem?_cons_zero]; exact rfl) (by kernel_rfl) (by kernel_rfl) (by kernel_rfl) (fun _ _ _ _ _ h => h) (by rfl) ?_ ?_
  rotate_left
  · intro wl hL
    skip
    go_simp
    try with_reducible rfl
  try simp only [Act.put, List.setIfInBounds_toArray, List.set_cons_zero, List.set_cons_succ]
  refine any_done (by kernel_rfl) ?_ _
  go_wp2_with fail
  refine any_begin later_goes (by kernel_rfl) ?_
  generalize hW : World.drew _ = W1
  replace f0 := (show W1.cell? _ = some _ by rw [← hW]; exact f0)
  replace f1 := (show W1.cell? _ = some _ by rw [← hW]; exact f1)
  replace f2 := (show W1.cell? _ = some _ by rw [← hW]; exact f2)
  replace f3 := (show W1.cell? _ = some _ by rw [← hW]; exact f3)
  replace f4 := (show W1.cell? _ = some _ by rw [← hW]; exact f4)
  replace f5 := (show W1.cell? _ = some _ by rw [← hW]; exact f5)
  replace f6 := (show W1.cell? _ = some _ by rw [← hW]; exact f6)
  replace f7 := (show W1.cell? _ = some _ by rw [← hW]; exact f7)
  replace hB0 : Below w.heap.size w W1 := by rw [← hW]; exact hB0.drew
  clear hW
  refine any_take later_goes 0 ?_ ?_ (by simp only [List.getElem?_toArray, List.getElem?_cons_succ, List.getElem?_cons_zero]; exact rfl) (by kernel_rfl) (by kernel_rfl) (by kernel_rfl) (fun _ _ _ _ _ h => h) (by rfl) ?_ ?_
  rotate_left
  · intro wl hL
    have lf0 := a_keep hL f0; have lf1 := a_keep hL f1; have lf2 := a_keep hL f2; have lf3 := a_keep hL f3; have lf4 := a_keep hL f4; have lf5 := a_keep hL f5; have lf6 := a_keep hL f6; have lf7 := a_keep hL f7
    go_simp
    try with_reducible rfl
  try simp only [Act.put, List.setIfInBounds_toArray, List.set_cons_zero, List.set_cons_succ]
  refine any_take later_goes 1 ?_ ?_ (by simp only [List.getElem?_toArray, List.getElem?_cons_succ, List.getElem?_cons_zero]; exact rfl) (by kernel_rfl) (by kernel_rfl) (by kernel_rfl) (fun _ _ _ _ _ h => h) (by rfl) ?_ ?_
  rotate_left
  · intro wl hL
    have lf0 := a_keep hL f0; have lf1 := a_keep hL f1; have lf2 := a_keep hL f2; have lf3 := a_keep hL f3; have lf4 := a_keep hL f4; have lf5 := a_keep hL f5; have lf6 := a_keep hL f6; have lf7 := a_keep hL f7
    go_simp
    try with_reducible rfl
  try simp only [Act.put, List.setIfInBounds_toArray, List.set_cons_zero, List.set_cons_succ]
  refine any_take later_goes 2 ?_ ?_ (by simp only [List.getElem?_toArray, List.getElem?_cons_succ, List.getElem?_cons_zero]; exact rfl) (by kernel_rfl) (by kernel_rfl) (by kernel_rfl) (fun _ _ _ _ _ h => h) (by rfl) ?_ ?_
  rotate_left
  · intro wl hL
    have lf0 := a_keep hL f0; have lf1 := a_keep hL f1; have lf2 := a_keep hL f2; have lf3 := a_keep hL f3; have lf4 := a_keep hL f4; have lf5 := a_keep hL f5; have lf6 := a_keep hL f6; have lf7 := a_keep hL f7
    go_simp
    try with_reducible rfl
  try simp only [Act.put, List.setIfInBounds_toArray, List.set_cons_zero, List.set_cons_succ]
  refine any_take later_goes 6 ?_ ?_ (by simp only [List.getElem?_toArray, List.getElem?_cons_succ, List.getElem?_cons_zero]; exact rfl) (by kernel_rfl) (by kernel_rfl) (by kernel_rfl) (fun _ _ _ _ _ h => h) (by rfl) ?_ ?_
  rotate_left
  · intro wl hL
    have lf0 := a_keep hL f0; have lf1 := a_keep hL f1; have lf2 := a_keep hL f2; have lf3 := a_keep hL f3; have lf4 := a_keep hL f4; have lf5 := a_keep hL f5; have lf6 := a_keep hL f6; have lf7 := a_keep hL f7
    go_simp
    try with_reducible rfl
  try simp only [Act.put, List.setIfInBounds_toArray, List.set_cons_zero, List.set_cons_succ]
  refine any_take later_goes 7 ?_ ?_ (by simp only [List.getElem?_toArray, List.getElem?_cons_succ, List.getElem?_cons_zero]; exact rfl) (by kernel_rfl) (by kernel_rfl) (by kernel_rfl) (fun _ _ _ _ _ h => h) (by rfl) ?_ ?_
  rotate_left
  · intro wl hL
    have lf0 := a_keep hL f0; have lf1 := a_keep hL f1; have lf2 := a_keep hL f2; have lf3 := a_keep hL f3; have lf4 := a_keep hL f4; have lf5 := a_keep hL f5; have lf6 := a_keep hL f6; have lf7 := a_keep hL f7
    go_simp
    try with_reducible rfl
  try simp only [Act.put, List.setIfInBounds_toArray, List.set_cons_zero, List.set_cons_succ]
  refine any_take later_goes 11 ?_ ?_ (by simp only [List.getElem?_toArray, List.getElem?_cons_succ, List.getElem?_cons_zero]; exact rfl) (by kernel_rfl) (by kernel_rfl) (by kernel_rfl) (fun _ _ _ _ _ h => h) (by rfl) ?_ ?_
  rotate_left
  · intro wl hL
    have lf0 := a_keep hL f0; have lf1 := a_keep hL f1; have lf2 := a_keep hL f2; have lf3 := a_keep hL f3; have lf4 := a_keep hL f4; have lf5 := a_keep hL f5; have lf6 := a_keep hL f6; have lf7 := a_keep hL f7
    go_simp
    try with_reducible rfl
  try simp only [Act.put, List.setIfInBounds_toArray, List.set_cons_zero, List.set_cons_succ]
  refine any_take later_goes 12 ?_ ?_ (by simp only [List.getElem?_toArray, List.getElem?_cons_succ, List.getElem?_cons_zero]; exact rfl) (by kernel_rfl) (by kernel_rfl) (by kernel_rfl) (fun _ _ _ _ _ h => h) (by rfl) ?_ ?_
  rotate_left
  · intro wl hL
    have lf0 := a_keep hL f0; have lf1 := a_keep hL f1; have lf2 := a_keep hL f2; have lf3 := a_keep hL f3; have lf4 := a_keep hL f4; have lf5 := a_keep hL f5; have lf6 := a_keep hL f6; have lf7 := a_keep hL f7
    go_simp
    try with_reducible rfl
  try simp only [Act.put, List.setIfInBounds_toArray, List.set_cons_zero, List.set_cons_succ]
  refine any_one 3 _ (by kernel_rfl) (by simp only [List.getElem?_toArray, List.getElem?_cons_succ, List.getElem?_cons_zero]; exact rfl) (fun K hK => ?_)
  go_simp
  refine (p_register _ _ (by omega) (by omega)).mono ?_
  rintro e w2 ⟨rfl, rfl⟩
  rw [HSA.out]
  refine hK.out _ _ (later_goes.refl _) ?_
  clear hK K
  try simp only [Act.put, List.setIfInBounds_toArray, List.set_cons_zero, List.set_cons_succ]
  refine any_take later_goes 4 ?_ ?_ (by simp only [List.getElem?_toArray, List.getElem?_cons_succ, List.getElem?_cons_zero]; exact rfl) (by kernel_rfl) (by kernel_rfl) (by kernel_rfl) (fun _ _ _ _ _ h => h) (by rfl) ?_ ?_
  rotate_left
  · intro wl hL
    skip
    go_simp
    try with_reducible rfl
  try simp only [Act.put, List.setIfInBounds_toArray, List.set_cons_zero, List.set_cons_succ]
  refine any_take later_goes 5 ?_ ?_ (by simp only [List.getElem?_toArray, List.getElem?_cons_succ, List.getElem?_cons_zero]; exact rfl) (by kernel_rfl) (by kernel_rfl) (by kernel_rfl) (fun _ _ _ _ _ h => h) (by rfl) ?_ ?_
  rotate_left
  · intro wl hL
    skip
    go_simp
    try with_reducible rfl
  try simp only [Act.put, List.setIfInBounds_toArray, List.set_cons_zero, List.set_cons_succ]
  refine any_one 8 _ (by kernel_rfl) (by simp only [List.getElem?_toArray, List.getElem?_cons_succ, List.getElem?_cons_zero]; exact rfl) (fun K hK => ?_)
  go_simp
  refine (p_register _ _ (by omega) (by omega)).mono ?_
  rintro e w2 ⟨rfl, rfl⟩
  rw [HSB.out]
  refine hK.out _ _ (later_goes.refl _) ?_
  clear hK K
  try simp only [Act.put, List.setIfInBounds_toArray, List.set_cons_zero, List.set_cons_succ]
  refine any_take later_goes 9 ?_ ?_ (by simp only [List.getElem?_toArray, List.getElem?_cons_succ, List.getElem?_cons_zero]; exact rfl) (by kernel_rfl) (by kernel_rfl) (by kernel_rfl) (fun _ _ _ _ _ h => h) (by rfl) ?_ ?_
  rotate_left
  · intro wl hL
    skip
    go_simp
    try with_reducible rfl
  try simp only [Act.put, List.setIfInBounds_toArray, List.set_cons_zero, List.set_cons_succ]
  refine any_take later_goes 10 ?_ ?_ (by simp only [List.getElem?_toArray, List.getElem?_cons_succ, List.getElem?_cons_zero]; exact rfl) (by kernel_rfl) (by kernel_rfl) (by kernel_rfl) (fun _ _ _ _ _ h => h) (by rfl) ?_ ?_
  rotate_left
  · intro wl hL
    skip
    go_simp
    try with_reducible rfl
  try simp only [Act.put, List.setIfInBounds_toArray, List.set_cons_zero, List.set_cons_succ]
  refine any_one 13 _ (by kernel_rfl) (by simp only [List.getElem?_toArray, List.getElem?_cons_succ, List.getElem?_cons_zero]; exact rfl) (fun K hK => ?_)
  go_simp
  refine (p_itoa _ _ i0 i1 (HV.out.stays hB0)).mono ?_
  rintro e w3 ⟨rfl, hB3⟩
  rw [HSI.out]
  refine hK.out _ _ hB3 ?_
  clear hK K
  try simp only [Act.put, List.setIfInBounds_toArray, List.set_cons_zero, List.set_cons_succ]
  replace hB0 := bthen hB0 hB3
  refine any_take later_goes 14 ?_ ?_ (by simp only [List.getElem?_toArray, List.getElem?_cons_succ, List.getElem?_cons_zero]; exact rfl) (by kernel_rfl) (by kernel_rfl) (by kernel_rfl) (fun _ _ _ _ _ h => h) (by rfl) ?_ ?_
  rotate_left
  · intro wl hL
    skip
    go_simp
    try with_reducible rfl
  try simp only [Act.put, List.setIfInBounds_toArray, List.set_cons_zero, List.set_cons_succ]
  refine any_take later_goes 15 ?_ ?_ (by simp only [List.getElem?_toArray, List.getElem?_cons_succ, List.getElem?_cons_zero]; exact rfl) (by kernel_rfl) (by kernel_rfl) (by kernel_rfl) (fun _ _ _ _ _ h => h) (by rfl) ?_ ?_
  rotate_left
  · intro wl hL
    skip
    go_simp
    try with_reducible rfl
  try simp only [Act.put, List.setIfInBounds_toArray, List.set_cons_zero, List.set_cons_succ]
  refine any_take later_goes 16 ?_ ?_ (by simp only [List.getElem?_toArray, List.getElem?_cons_succ, List.getElem?_cons_zero]; exact rfl) (by kernel_rfl) (by kernel_rfl) (by kernel_rfl) (fun _ _ _ _ _ h => h) (by rfl) ?_ ?_
  rotate_left
  · intro wl hL
    skip
    go_simp
    try with_reducible rfl
  try simp only [Act.put, List.setIfInBounds_toArray, List.set_cons_zero, List.set_cons_succ]
  refine any_done (by kernel_rfl) ?_ _
  go_wp2_with fail
  go_ret2
  exact ⟨by rw [HL.out, ← HF.out]; rfl, hB0⟩
set_option maxRecDepth 100000 in
set_option maxHeartbeats 8000000 in
theorem pline2 (P Bs Bn g1 C1 g2 C2 : Nat) (x a b c op im : Int) (u v : Bool) (w : World) (hn : Nmr P Bs Bn g1 C1 g2 C2 w) (hv : VarsA w) (h0 : 0 ≤ x) (h1 : x ≤ 4294967295) (hd : decW x = (⟨2, u, v, a, b, c, op, im⟩, 0)) (hl : lineW x = (lineI ⟨2, u, v, a, b, c, op, im⟩, 0))
    (hg : goodI ⟨2, u, v, a, b, c, op, im⟩ = true) (i0 : -2147483648 < im) (i1 : im < 2147483648) : Calls Tryz.prog 27 #[.pointer (some ⟨P, 0, none⟩), .int .u32 x] w (AtLine x w) := by
  obtain ⟨i, hi, ht⟩ := shape_at hg
  obtain ⟨⟨a0, a1⟩, ⟨b0, b1⟩, ⟨c0, c1⟩, o0, o1⟩ := good_nibs hg
  simp only at a0 a1 b0 b1 c0 c1 o0 o1
  obtain ⟨k, hk⟩ : ∃ k, shapeOf ⟨2, u, v, a, b, c, op, im⟩ = k := ⟨_, rfl⟩
  rw [hk] at ht
  have hlk := look_S ht Bs
  have hcap := hn.cap
  have hnl := name_len ht
  obtain ⟨SN, hSN⟩ : ∃ S : ByteArray, (⟨(nameI ⟨2, u, v, a, b, c, op, im⟩).toArray⟩ : ByteArray) = S := ⟨_, rfl⟩
  have zN : SN.size ≤ 5 := by rw [← hSN, size_mk]; exact hnl
  have hnm : (keysN tableP)[i]? = some (.string SN) := by simp [keysN, ht, strV, hSN]
  obtain ⟨SA, hSA⟩ : ∃ S : ByteArray, (⟨(regL a).toArray⟩ : ByteArray) = S := ⟨_, rfl⟩
  have zA : SA.size ≤ 21 := by rw [← hSA, size_mk]; exact regL_len (by omega) (by omega)
  obtain ⟨SB, hSB⟩ : ∃ S : ByteArray, (⟨(regL b).toArray⟩ : ByteArray) = S := ⟨_, rfl⟩
  have zB : SB.size ≤ 21 := by rw [← hSB, size_mk]; exact regL_len (by omega) (by omega)
  obtain ⟨SI, hSI⟩ : ∃ S : ByteArray, (⟨(Lib.itoa im).toArray⟩ : ByteArray) = S := ⟨_, rfl⟩
  have zI : SI.size ≤ 20 := by rw [← hSI, size_mk]; exact itoa_len i0 i1
  have y0 : ¬ (9223372036854775807 < SN.size + 1) := by omega
  have y1 : ¬ (9223372036854775807 < SN.size + 1 + SA.size) := by omega
  have y2 : ¬ (9223372036854775807 < SN.size + 1 + SA.size + 2) := by omega
  have y3 : ¬ (9223372036854775807 < SN.size + 1 + SA.size + 2 + SB.size) := by omega
  have y4 : ¬ (9223372036854775807 < SN.size + 1 + SA.size + 2 + SB.size + 2) := by omega
  have y5 : ¬ (9223372036854775807 < SN.size + 1 + SA.size + 2 + SB.size + 2 + SI.size) := by omega
  have hfin : SN ++ (⟨#[32]⟩ : ByteArray) ++ SA ++ (⟨#[44, 32]⟩ : ByteArray) ++ SB ++ (⟨#[44, 32]⟩ : ByteArray) ++ SI = ⟨(lineI ⟨2, u, v, a, b, c, op, im⟩).toArray⟩ := by
    apply str_of
    rw [← hSN, ← hSA, ← hSB, ← hSI]
    simp [ByteArray.data_append, lineI, restI, regL]
  have HSN := Lib.hid hSN
  have HSA := Lib.hid hSA
  have HSB := Lib.hid hSB
  have HSI := Lib.hid hSI
  have HF := Lib.hid hfin
  have HK := Lib.hid hk
  have HLK := Aside.mk hlk
  have HNM := Lib.hid hnm
  have HN := Aside.mk hn
  have HV := Aside.mk hv
  have HD := Lib.hid hd
  have HL := Lib.hid hl
  clear hfin hk hlk hnm hn hv ht hd hl hg hnl hSN hSA hSB hSI
  have hi84 : (i : Int) < 84 := by omega
  obtain ⟨cp1, cp2, -, -⟩ := hcap
  unfold maxLen at cp2
  go_enter Tryz.func27, Tryz.ntmps27
  go_wp2_with fail
  refine (p_Decode x _ h0 h1).mono ?_
  rintro e w1 ⟨rfl, hB⟩
  rw [HD.out]
  simp only [insV_eq]
  go_wp2_with fail
  refine any_begin later_goes (by kernel_rfl) ?_
  generalize hW : World.drew _ = W0
  have hb : W0.heap[w1.heap.size]? = some (.cells #[.int .i64 2, .bool u, .bool v, .int .i64 a, .int .i64 b, .int .i64 c, .int .i64 op, .int .i64 im] 45 (0, 0)) := by rw [← hW]; exact b_new _ _
  obtain ⟨f0, f1, f2, f3, f4, f5, f6, f7⟩ := b_cells8 hb
  have hB0 : Below w.heap.size w W0 := by rw [← hW]; exact (bthen hB (ablow _ _)).drew
  have nm : Aside (Nmr P Bs Bn g1 C1 g2 C2 W0) := ⟨HN.out.stays hB0⟩
  clear hW hb
  refine any_take later_goes 0 ?_ ?_ (by simp only [List.getElem?_toArray, List.getElem?_cons_succ, List.getElem?_cons_zero]; exact rfl) (by kernel_rfl) (by kernel_rfl) (by kernel_rfl) (fun _ _ _ _ _ h => h) (by rfl) ?_ ?_
  rotate_left
  · intro wl hL
    have lf0 := a_keep hL f0; have lf1 := a_keep hL f1; have lf2 := a_keep hL f2; have lf3 := a_keep hL f3; have lf4 := a_keep hL f4; have lf5 := a_keep hL f5; have lf6 := a_keep hL f6; have lf7 := a_keep hL f7; have lp := b_below nm.out.str hL; have p0 : wl.cell? ⟨P, 0, none⟩ = some (.slice (some ⟨g1, 0, none⟩) 84 C1) := by (rw [cell_of_block lp]; rfl)
    have p2 : wl.cell? ⟨P, 2, none⟩ = some (.map (some Bs)) := by (rw [cell_of_block lp]; rfl)
    clear lp
    go_simp
    try with_reducible rfl
  try simp only [Act.put, List.setIfInBounds_toArray, List.set_cons_zero, List.set_cons_succ]
  refine any_take later_goes 1 ?_ ?_ (by simp only [List.getElem?_toArray, List.getElem?_cons_succ, List.getElem?_cons_zero]; exact rfl) (by kernel_rfl) (by kernel_rfl) (by kernel_rfl) (fun _ _ _ _ _ h => h) (by rfl) ?_ ?_
  rotate_left
  · intro wl hL
    have lf0 := a_keep hL f0; have lf1 := a_keep hL f1; have lf2 := a_keep hL f2; have lf3 := a_keep hL f3; have lf4 := a_keep hL f4; have lf5 := a_keep hL f5; have lf6 := a_keep hL f6; have lf7 := a_keep hL f7; have lp := b_below nm.out.str hL; have p0 : wl.cell? ⟨P, 0, none⟩ = some (.slice (some ⟨g1, 0, none⟩) 84 C1) := by (rw [cell_of_block lp]; rfl)
    have p2 : wl.cell? ⟨P, 2, none⟩ = some (.map (some Bs)) := by (rw [cell_of_block lp]; rfl)
    clear lp
    go_simp
    try with_reducible rfl
  try simp only [Act.put, List.setIfInBounds_toArray, List.set_cons_zero, List.set_cons_succ]
  refine any_take later_goes 2 ?_ ?_ (by simp only [List.getElem?_toArray, List.getElem?_cons_succ, List.getElem?_cons_zero]; exact rfl) (by kernel_rfl) (by kernel_rfl) (by kernel_rfl) (fun _ _ _ _ _ h => h) (by rfl) ?_ ?_
  rotate_left
  · intro wl hL
    have lf0 := a_keep hL f0; have lf1 := a_keep hL f1; have lf2 := a_keep hL f2; have lf3 := a_keep hL f3; have lf4 := a_keep hL f4; have lf5 := a_keep hL f5; have lf6 := a_keep hL f6; have lf7 := a_keep hL f7; have lp := b_below nm.out.str hL; have p0 : wl.cell? ⟨P, 0, none⟩ = some (.slice (some ⟨g1, 0, none⟩) 84 C1) := by (rw [cell_of_block lp]; rfl)
    have p2 : wl.cell? ⟨P, 2, none⟩ = some (.map (some Bs)) := by (rw [cell_of_block lp]; rfl)
    clear lp
    go_simp
    try with_reducible rfl
  try simp only [Act.put, List.setIfInBounds_toArray, List.set_cons_zero, List.set_cons_succ]
  refine any_take later_goes 3 ?_ ?_ (by simp only [List.getElem?_toArray, List.getElem?_cons_succ, List.getElem?_cons_zero]; exact rfl) (by kernel_rfl) (by kernel_rfl) (by kernel_rfl) (fun _ _ _ _ _ h => h) (by rfl) ?_ ?_
  rotate_left
  · intro wl hL
    have lf0 := a_keep hL f0; have lf1 := a_keep hL f1; have lf2 := a_keep hL f2; have lf3 := a_keep hL f3; have lf4 := a_keep hL f4; have lf5 := a_keep hL f5; have lf6 := a_keep hL f6; have lf7 := a_keep hL f7; have lp := b_below nm.out.str hL; have p0 : wl.cell? ⟨P, 0, none⟩ = some (.slice (some ⟨g1, 0, none⟩) 84 C1) := by (rw [cell_of_block lp]; rfl)
    have p2 : wl.cell? ⟨P, 2, none⟩ = some (.map (some Bs)) := by (rw [cell_of_block lp]; rfl)
    clear lp
    go_simp
    try with_reducible rfl
  try simp only [Act.put, List.setIfInBounds_toArray, List.set_cons_zero, List.set_cons_succ]
  refine any_take later_goes 4 ?_ ?_ (by simp only [List.getElem?_toArray, List.getElem?_cons_succ, List.getElem?_cons_zero]; exact rfl) (by kernel_rfl) (by kernel_rfl) (by kernel_rfl) (fun _ _ _ _ _ h => h) (by rfl) ?_ ?_
  rotate_left
  · intro wl hL
    have lf0 := a_keep hL f0; have lf1 := a_keep hL f1; have lf2 := a_keep hL f2; have lf3 := a_keep hL f3; have lf4 := a_keep hL f4; have lf5 := a_keep hL f5; have lf6 := a_keep hL f6; have lf7 := a_keep hL f7; have lp := b_below nm.out.str hL; have p0 : wl.cell? ⟨P, 0, none⟩ = some (.slice (some ⟨g1, 0, none⟩) 84 C1) := by (rw [cell_of_block lp]; rfl)
    have p2 : wl.cell? ⟨P, 2, none⟩ = some (.map (some Bs)) := by (rw [cell_of_block lp]; rfl)
    clear lp
    go_simp
    try with_reducible rfl
  try simp only [Act.put, List.setIfInBounds_toArray, List.set_cons_zero, List.set_cons_succ]
  refine any_take later_goes 5 ?_ ?_ (by simp only [List.getElem?_toArray, List.getElem?_cons_succ, List.getElem?_cons_zero]; exact rfl) (by kernel_rfl) (by kernel_rfl) (by kernel_rfl) (fun _ _ _ _ _ h => h) (by rfl) ?_ ?_
  rotate_left
  · intro wl hL
    have lf0 := a_keep hL f0; have lf1 := a_keep hL f1; have lf2 := a_keep hL f2; have lf3 := a_keep hL f3; have lf4 := a_keep hL f4; have lf5 := a_keep hL f5; have lf6 := a_keep hL f6; have lf7 := a_keep hL f7; have lp := b_below nm.out.str hL; have p0 : wl.cell? ⟨P, 0, none⟩ = some (.slice (some ⟨g1, 0, none⟩) 84 C1) := by (rw [cell_of_block lp]; rfl)
    have p2 : wl.cell? ⟨P, 2, none⟩ = some (.map (some Bs)) := by (rw [cell_of_block lp]; rfl)
    clear lp
    go_simp
    try with_reducible rfl
  try simp only [Act.put, List.setIfInBounds_toArray, List.set_cons_zero, List.set_cons_succ]
  refine any_take later_goes 6 ?_ ?_ (by simp only [List.getElem?_toArray, List.getElem?_cons_succ, List.getElem?_cons_zero]; exact rfl) (by kernel_rfl) (by kernel_rfl) (by kernel_rfl) (fun _ _ _ _ _ h => h) (by rfl) ?_ ?_
  rotate_left
  · intro wl hL
    have lf0 := a_keep hL f0; have lf1 := a_keep hL f1; have lf2 := a_keep hL f2; have lf3 := a_keep hL f3; have lf4 := a_keep hL f4; have lf5 := a_keep hL f5; have lf6 := a_keep hL f6; have lf7 := a_keep hL f7; have lp := b_below nm.out.str hL; have p0 : wl.cell? ⟨P, 0, none⟩ = some (.slice (some ⟨g1, 0, none⟩) 84 C1) := by (rw [cell_of_block lp]; rfl)
    have p2 : wl.cell? ⟨P, 2, none⟩ = some (.map (some Bs)) := by (rw [cell_of_block lp]; rfl)
    clear lp
    go_simp
    try with_reducible rfl
  try simp only [Act.put, List.setIfInBounds_toArray, List.set_cons_zero, List.set_cons_succ]
  refine any_take later_goes 7 ?_ ?_ (by simp only [List.getElem?_toArray, List.getElem?_cons_succ, List.getElem?_cons_zero]; exact rfl) (by kernel_rfl) (by kernel_rfl) (by kernel_rfl) (fun _ _ _ _ _ h => h) (by rfl) ?_ ?_
  rotate_left
  · intro wl hL
    have lf0 := a_keep hL f0; have lf1 := a_keep hL f1; have lf2 := a_keep hL f2; have lf3 := a_keep hL f3; have lf4 := a_keep hL f4; have lf5 := a_keep hL f5; have lf6 := a_keep hL f6; have lf7 := a_keep hL f7; have lp := b_below nm.out.str hL; have p0 : wl.cell? ⟨P, 0, none⟩ = some (.slice (some ⟨g1, 0, none⟩) 84 C1) := by (rw [cell_of_block lp]; rfl)
    have p2 : wl.cell? ⟨P, 2, none⟩ = some (.map (some Bs)) := by (rw [cell_of_block lp]; rfl)
    clear lp
    go_simp
    try with_reducible rfl
  try simp only [Act.put, List.setIfInBounds_toArray, List.set_cons_zero, List.set_cons_succ]
  refine any_take later_goes 8 ?_ ?_ (by simp only [List.getElem?_toArray, List.getElem?_cons_succ, List.getElem?_cons_zero]; exact rfl) (by kernel_rfl) (by kernel_rfl) (by kernel_rfl) (fun _ _ _ _ _ h => h) (by rfl) ?_ ?_
  rotate_left
  · intro wl hL
    have lf0 := a_keep hL f0; have lf1 := a_keep hL f1; have lf2 := a_keep hL f2; have lf3 := a_keep hL f3; have lf4 := a_keep hL f4; have lf5 := a_keep hL f5; have lf6 := a_keep hL f6; have lf7 := a_keep hL f7; have lp := b_below nm.out.str hL; have p0 : wl.cell? ⟨P, 0, none⟩ = some (.slice (some ⟨g1, 0, none⟩) 84 C1) := by (rw [cell_of_block lp]; rfl)
    have p2 : wl.cell? ⟨P, 2, none⟩ = some (.map (some Bs)) := by (rw [cell_of_block lp]; rfl)
    clear lp
    go_simp
    try with_reducible rfl
  try simp only [Act.put, List.setIfInBounds_toArray, List.set_cons_zero, List.set_cons_succ]
  refine any_one 9 _ (by kernel_rfl) (by simp only [List.getElem?_toArray, List.getElem?_cons_succ, List.getElem?_cons_zero]; exact rfl) (fun K hK => ?_)
  go_simp
  refine (p_of ⟨2, u, v, a, b, c, op, im⟩ _).mono ?_
  rintro e wo ⟨rfl, hBo⟩
  rw [HK.out]
  refine hK.out _ _ hBo ?_
  clear hK K
  try simp only [Act.put, List.setIfInBounds_toArray, List.set_cons_zero, List.set_cons_succ]
  replace f0 := a_keep hBo f0
  replace f1 := a_keep hBo f1
  replace f2 := a_keep hBo f2
  replace f3 := a_keep hBo f3
  replace f4 := a_keep hBo f4
  replace f5 := a_keep hBo f5
  replace f6 := a_keep hBo f6
  replace f7 := a_keep hBo f7
  replace nm := Aside.mk (nm.out.stays hBo)
  replace hB0 := bthen hB0 hBo
  clear hBo
  refine any_take later_goes 10 ?_ ?_ (by simp only [List.getElem?_toArray, List.getElem?_cons_succ, List.getElem?_cons_zero]; exact rfl) (by kernel_rfl) (by kernel_rfl) (by kernel_rfl) (fun _ _ _ _ _ h => h) (by rfl) ?_ ?_
  rotate_left
  · intro wl hL
    have hlk := HLK.out wl (b_below nm.out.byS hL)
    go_simp
    try with_reducible rfl
  try simp only [Act.put, List.setIfInBounds_toArray, List.set_cons_zero, List.set_cons_succ]
  refine any_take later_goes 11 ?_ ?_ (by simp only [List.getElem?_toArray, List.getElem?_cons_succ, List.getElem?_cons_zero]; exact rfl) (by kernel_rfl) (by kernel_rfl) (by kernel_rfl) (fun _ _ _ _ _ h => h) (by rfl) ?_ ?_
  rotate_left
  · intro wl hL
    skip
    go_simp
    try with_reducible rfl
  try simp only [Act.put, List.setIfInBounds_toArray, List.set_cons_zero, List.set_cons_succ]
  refine any_take later_goes 12 ?_ ?_ (by simp only [List.getElem?_toArray, List.getElem?_cons_succ, List.getElem?_cons_zero]; exact rfl) (by kernel_rfl) (by kernel_rfl) (by kernel_rfl) (fun _ _ _ _ _ h => h) (by rfl) ?_ ?_
  rotate_left
  · intro wl hL
    have hc := a_keep hL (nm.out.names i _ HNM.out)
    go_simp
    try with_reducible rfl
  try simp only [Act.put, List.setIfInBounds_toArray, List.set_cons_zero, List.set_cons_succ]
  refine any_take later_goes 13 ?_ ?_ (by simp only [List.getElem?_toArray, List.getElem?_cons_succ, List.getElem?_cons_zero]; exact rfl) (by kernel_rfl) (by kernel_rfl) (by kernel_rfl) (fun _ _ _ _ _ h => h) (by rfl) ?_ ?_
  rotate_left
  · intro wl hL
    skip
    go_simp
    try with_reducible rfl
  try simp only [Act.put, List.setIfInBounds_toArray, List.set_cons_zero, List.set_cons_succ]
  refine any_take later_goes 14 ?_ ?_ (by simp only [List.getElem?_toArray, List.getElem?_cons_succ, List.getElem?_cons_zero]; exact rfl) (by kernel_rfl) (by kernel_rfl) (by kernel_rfl) (fun _ _ _ _ _ h => h) (by rfl) ?_ ?_
  rotate_left
  · intro wl hL
    skip
    go_simp
    try with_reducible rfl
  try simp only [Act.put, List.setIfInBounds_toArray, List.set_cons_zero, List.set_cons_succ]
  refine any_done (by kernel_rfl) ?_ _
  go_wp2_with fail
  refine any_begin later_goes (by kernel_rfl) ?_
  generalize hW : World.drew _ = W1
  replace f0 := (show W1.cell? _ = some _ by rw [← hW]; exact f0)
  replace f1 := (show W1.cell? _ = some _ by rw [← hW]; exact f1)
  replace f2 := (show W1.cell? _ = some _ by rw [← hW]; exact f2)
  replace f3 := (show W1.cell? _ = some _ by rw [← hW]; exact f3)
  replace f4 := (show W1.cell? _ = some _ by rw [← hW]; exact f4)
  replace f5 := (show W1.cell? _ = some _ by rw [← hW]; exact f5)
  replace f6 := (show W1.cell? _ = some _ by rw [← hW]; exact f6)
  replace f7 := (show W1.cell? _ = some _ by rw [← hW]; exact f7)
  replace hB0 : Below w.heap.size w W1 := by rw [← hW]; exact hB0.drew
  clear hW
  refine any_take later_goes 0 ?_ ?_ (by simp only [List.getElem?_toArray, List.getElem?_cons_succ, List.getElem?_cons_zero]; exact rfl) (by kernel_rfl) (by kernel_rfl) (by kernel_rfl) (fun _ _ _ _ _ h => h) (by rfl) ?_ ?_
  rotate_left
  · intro wl hL
    have lf0 := a_keep hL f0; have lf1 := a_keep hL f1; have lf2 := a_keep hL f2; have lf3 := a_keep hL f3; have lf4 := a_keep hL f4; have lf5 := a_keep hL f5; have lf6 := a_keep hL f6; have lf7 := a_keep hL f7
    go_simp
    try with_reducible rfl
  try simp only [Act.put, List.setIfInBounds_toArray, List.set_cons_zero, List.set_cons_succ]
  refine any_take later_goes 1 ?_ ?_ (by simp only [List.getElem?_toArray, List.getElem?_cons_succ, List.getElem?_cons_zero]; exact rfl) (by kernel_rfl) (by kernel_rfl) (by kernel_rfl) (fun _ _ _ _ _ h => h) (by rfl) ?_ ?_
  rotate_left
  · intro wl hL
    have lf0 := a_keep hL f0; have lf1 := a_keep hL f1; have lf2 := a_keep hL f2; have lf3 := a_keep hL f3; have lf4 := a_keep hL f4; have lf5 := a_keep hL f5; have lf6 := a_keep hL f6; have lf7 := a_keep hL f7
    go_simp
    try with_reducible rfl
  try simp only [Act.put, List.setIfInBounds_toArray, List.set_cons_zero, List.set_cons_succ]
  refine any_take later_goes 2 ?_ ?_ (by simp only [List.getElem?_toArray, List.getElem?_cons_succ, List.getElem?_cons_zero]; exact rfl) (by kernel_rfl) (by kernel_rfl) (by kernel_rfl) (fun _ _ _ _ _ h => h) (by rfl) ?_ ?_
  rotate_left
  · intro wl hL
    have lf0 := a_keep hL f0; have lf1 := a_keep hL f1; have lf2 := a_keep hL f2; have lf3 := a_keep hL f3; have lf4 := a_keep hL f4; have lf5 := a_keep hL f5; have lf6 := a_keep hL f6; have lf7 := a_keep hL f7
    go_simp
    try with_reducible rfl
  try simp only [Act.put, List.setIfInBounds_toArray, List.set_cons_zero, List.set_cons_succ]
  refine any_take later_goes 6 ?_ ?_ (by simp only [List.getElem?_toArray, List.getElem?_cons_succ, List.getElem?_cons_zero]; exact rfl) (by kernel_rfl) (by kernel_rfl) (by kernel_rfl) (fun _ _ _ _ _ h => h) (by rfl) ?_ ?_
  rotate_left
  · intro wl hL
    have lf0 := a_keep hL f0; have lf1 := a_keep hL f1; have lf2 := a_keep hL f2; have lf3 := a_keep hL f3; have lf4 := a_keep hL f4; have lf5 := a_keep hL f5; have lf6 := a_keep hL f6; have lf7 := a_keep hL f7
    go_simp
    try with_reducible rfl
  try simp only [Act.put, List.setIfInBounds_toArray, List.set_cons_zero, List.set_cons_succ]
  refine any_take later_goes 7 ?_ ?_ (by simp only [List.getElem?_toArray, List.getElem?_cons_succ, List.getElem?_cons_zero]; exact rfl) (by kernel_rfl) (by kernel_rfl) (by kernel_rfl) (fun _ _ _ _ _ h => h) (by rfl) ?_ ?_
  rotate_left
  · intro wl hL
    have lf0 := a_keep hL f0; have lf1 := a_keep hL f1; have lf2 := a_keep hL f2; have lf3 := a_keep hL f3; have lf4 := a_keep hL f4; have lf5 := a_keep hL f5; have lf6 := a_keep hL f6; have lf7 := a_keep hL f7
    go_simp
    try with_reducible rfl
  try simp only [Act.put, List.setIfInBounds_toArray, List.set_cons_zero, List.set_cons_succ]
  refine any_take later_goes 11 ?_ ?_ (by simp only [List.getElem?_toArray, List.getElem?_cons_succ, List.getElem?_cons_zero]; exact rfl) (by kernel_rfl) (by kernel_rfl) (by kernel_rfl) (fun _ _ _ _ _ h => h) (by rfl) ?_ ?_
  rotate_left
  · intro wl hL
    have lf0 := a_keep hL f0; have lf1 := a_keep hL f1; have lf2 := a_keep hL f2; have lf3 := a_keep hL f3; have lf4 := a_keep hL f4; have lf5 := a_keep hL f5; have lf6 := a_keep hL f6; have lf7 := a_keep hL f7
    go_simp
    try with_reducible rfl
  try simp only [Act.put, List.setIfInBounds_toArray, List.set_cons_zero, List.set_cons_succ]
  refine any_take later_goes 12 ?_ ?_ (by simp only [List.getElem?_toArray, List.getElem?_cons_succ, List.getElem?_cons_zero]; exact rfl) (by kernel_rfl) (by kernel_rfl) (by kernel_rfl) (fun _ _ _ _ _ h => h) (by rfl) ?_ ?_
  rotate_left
  · intro wl hL
    have lf0 := a_keep hL f0; have lf1 := a_keep hL f1; have lf2 := a_keep hL f2; have lf3 := a_keep hL f3; have lf4 := a_keep hL f4; have lf5 := a_keep hL f5; have lf6 := a_keep hL f6; have lf7 := a_keep hL f7
    go_simp
    try with_reducible rfl
  try simp only [Act.put, List.setIfInBounds_toArray, List.set_cons_zero, List.set_cons_succ]
  refine any_one 3 _ (by kernel_rfl) (by simp only [List.getElem?_toArray, List.getElem?_cons_succ, List.getElem?_cons_zero]; exact rfl) (fun K hK => ?_)
  go_simp
  refine (p_register _ _ (by omega) (by omega)).mono ?_
  rintro e w2 ⟨rfl, rfl⟩
  rw [HSA.out]
  refine hK.out _ _ (later_goes.refl _) ?_
  clear hK K
  try simp only [Act.put, List.setIfInBounds_toArray, List.set_cons_zero, List.set_cons_succ]
  refine any_take later_goes 4 ?_ ?_ (by simp only [List.getElem?_toArray, List.getElem?_cons_succ, List.getElem?_cons_zero]; exact rfl) (by kernel_rfl) (by kernel_rfl) (by kernel_rfl) (fun _ _ _ _ _ h => h) (by rfl) ?_ ?_
  rotate_left
  · intro wl hL
    skip
    go_simp
    try with_reducible rfl
  try simp only [Act.put, List.setIfInBounds_toArray, List.set_cons_zero, List.set_cons_succ]
  refine any_take later_goes 5 ?_ ?_ (by simp only [List.getElem?_toArray, List.getElem?_cons_succ, List.getElem?_cons_zero]; exact rfl) (by kernel_rfl) (by kernel_rfl) (by kernel_rfl) (fun _ _ _ _ _ h => h) (by rfl) ?_ ?_
  rotate_left
  · intro wl hL
    skip
    go_simp
    try with_reducible rfl
  try simp only [Act.put, List.setIfInBounds_toArray, List.set_cons_zero, List.set_cons_succ]
  refine any_one 8 _ (by kernel_rfl) (by simp only [List.getElem?_toArray, List.getElem?_cons_succ, List.getElem?_cons_zero]; exact rfl) (fun K hK => ?_)
  go_simp
  refine (p_register _ _ (by omega) (by omega)).mono ?_
  rintro e w2 ⟨rfl, rfl⟩
  rw [HSB.out]
  refine hK.out _ _ (later_goes.refl _) ?_
  clear hK K
  try simp only [Act.put, List.setIfInBounds_toArray, List.set_cons_zero, List.set_cons_succ]
  refine any_take later_goes 9 ?_ ?_ (by simp only [List.getElem?_toArray, List.getElem?_cons_succ, List.getElem?_cons_zero]; exact rfl) (by kernel_rfl) (by kernel_rfl) (by kernel_rfl) (fun _ _ _ _ _ h => h) (by rfl) ?_ ?_
  rotate_left
  · intro wl hL
    skip
    go_simp
    try with_reducible rfl
  try simp only [Act.put, List.setIfInBounds_toArray, List.set_cons_zero, List.set_cons_succ]
  refine any_take later_goes 10 ?_ ?_ (by simp only [List.getElem?_toArray, List.getElem?_cons_succ, List.getElem?_cons_zero]; exact rfl) (by kernel_rfl) (by kernel_rfl) (by kernel_rfl) (fun _ _ _ _ _ h => h) (by rfl) ?_ ?_
  rotate_left
  · intro wl hL
    skip
    go_simp
    try with_reducible rfl
  try simp only [Act.put, List.setIfInBounds_toArray, List.set_cons_zero, List.set_cons_succ]
  refine any_one 13 _ (by kernel_rfl) (by simp only [List.getElem?_toArray, List.getElem?_cons_succ, List.getElem?_cons_zero]; exact rfl) (fun K hK => ?_)
  go_simp
  refine (p_itoa _ _ i0 i1 (HV.out.stays hB0)).mono ?_
  rintro e w3 ⟨rfl, hB3⟩
  rw [HSI.out]
  refine hK.out _ _ hB3 ?_
  clear hK K
  try simp only [Act.put, List.setIfInBounds_toArray, List.set_cons_zero, List.set_cons_succ]
  replace hB0 := bthen hB0 hB3
  refine any_take later_goes 14 ?_ ?_ (by simp only [List.getElem?_toArray, List.getElem?_cons_succ, List.getElem?_cons_zero]; exact rfl) (by kernel_rfl) (by kernel_rfl) (by kernel_rfl) (fun _ _ _ _ _ h => h) (by rfl) ?_ ?_
  rotate_left
  · intro wl hL
    skip
    go_simp
    try with_reducible rfl
  try simp only [Act.put, List.setIfInBounds_toArray, List.set_cons_zero, List.set_cons_succ]
  refine any_take later_goes 15 ?_ ?_ (by simp only [List.getElem?_toArray, List.getElem?_cons_succ, List.getElem?_cons_zero]; exact rfl) (by kernel_rfl) (by kernel_rfl) (by kernel_rfl) (fun _ _ _ _ _ h => h) (by rfl) ?_ ?_
  rotate_left
  · intro wl hL
    skip
    go_simp
    try with_reducible rfl
  try simp only [Act.put, List.setIfInBounds_toArray, List.set_cons_zero, List.set_cons_succ]
  refine any_take later_goes 16 ?_ ?_ (by simp only [List.getElem?_toArray, List.getElem?_cons_succ, List.getElem?_cons_zero]; exact rfl) (by kernel_rfl) (by kernel_rfl) (by kernel_rfl) (fun _ _ _ _ _ h => h) (by rfl) ?_ ?_
  rotate_left
  · intro wl hL
    skip
    go_simp
    try with_reducible rfl
  try simp only [Act.put, List.setIfInBounds_toArray, List.set_cons_zero, List.set_cons_succ]
  refine any_done (by kernel_rfl) ?_ _
  go_wp2_with fail
  go_ret2
  exact ⟨by rw [HL.out, ← HF.out]; rfl, hB0⟩
set_option maxRecDepth 100000 in
set_option maxHeartbeats 8000000 in
theorem pline3t (P Bs Bn g1 C1 g2 C2 : Nat) (x a b c op im : Int) (v : Bool) (w : World) (hn : Nmr P Bs Bn g1 C1 g2 C2 w) (hv : VarsA w) (h0 : 0 ≤ x) (h1 : x ≤ 4294967295) (hd : decW x = (⟨3, true, v, a, b, c, op, im⟩, 0)) (hl : lineW x = (lineI ⟨3, true, v, a, b, c, op, im⟩, 0))
    (hg : goodI ⟨3, true, v, a, b, c, op, im⟩ = true) (i0 : -2147483648 < im) (i1 : im < 2147483648) : Calls Tryz.prog 27 #[.pointer (some ⟨P, 0, none⟩), .int .u32 x] w (AtLine x w) := by
  obtain ⟨i, hi, ht⟩ := shape_at hg
  obtain ⟨⟨a0, a1⟩, ⟨b0, b1⟩, ⟨c0, c1⟩, o0, o1⟩ := good_nibs hg
  simp only at a0 a1 b0 b1 c0 c1 o0 o1
  obtain ⟨k, hk⟩ : ∃ k, shapeOf ⟨3, true, v, a, b, c, op, im⟩ = k := ⟨_, rfl⟩
  rw [hk] at ht
  have hlk := look_S ht Bs
  have hcap := hn.cap
  have hnl := name_len ht
  obtain ⟨SN, hSN⟩ : ∃ S : ByteArray, (⟨(nameI ⟨3, true, v, a, b, c, op, im⟩).toArray⟩ : ByteArray) = S := ⟨_, rfl⟩
  have zN : SN.size ≤ 5 := by rw [← hSN, size_mk]; exact hnl
  have hnm : (keysN tableP)[i]? = some (.string SN) := by simp [keysN, ht, strV, hSN]
  obtain ⟨SI, hSI⟩ : ∃ S : ByteArray, (⟨(Lib.itoa im).toArray⟩ : ByteArray) = S := ⟨_, rfl⟩
  have zI : SI.size ≤ 20 := by rw [← hSI, size_mk]; exact itoa_len i0 i1
  have y0 : ¬ (9223372036854775807 < SN.size + 1) := by omega
  have y1 : ¬ (9223372036854775807 < SN.size + 1 + SI.size) := by omega
  have hfin : SN ++ (⟨#[32]⟩ : ByteArray) ++ SI = ⟨(lineI ⟨3, true, v, a, b, c, op, im⟩).toArray⟩ := by
    apply str_of
    rw [← hSN, ← hSI]
    simp [ByteArray.data_append, lineI, restI, regL]
  have HSN := Lib.hid hSN
  have HSI := Lib.hid hSI
  have HF := Lib.hid hfin
  have HK := Lib.hid hk
  have HLK := Aside.mk hlk
  have HNM := Lib.hid hnm
  have HN := Aside.mk hn
  have HV := Aside.mk hv
  have HD := Lib.hid hd
  have HL := Lib.hid hl
  clear hfin hk hlk hnm hn hv ht hd hl hg hnl hSN hSI
  have hi84 : (i : Int) < 84 := by omega
  obtain ⟨cp1, cp2, -, -⟩ := hcap
  unfold maxLen at cp2
  go_enter Tryz.func27, Tryz.ntmps27
  go_wp2_with fail
  refine (p_Decode x _ h0 h1).mono ?_
  rintro e w1 ⟨rfl, hB⟩
  rw [HD.out]
  simp only [insV_eq]
  go_wp2_with fail
  refine any_begin later_goes (by kernel_rfl) ?_
  generalize hW : World.drew _ = W0
  have hb : W0.heap[w1.heap.size]? = some (.cells #[.int .i64 3, .bool true, .bool v, .int .i64 a, .int .i64 b, .int .i64 c, .int .i64 op, .int .i64 im] 45 (0, 0)) := by rw [← hW]; exact b_new _ _
  obtain ⟨f0, f1, f2, f3, f4, f5, f6, f7⟩ := b_cells8 hb
  have hB0 : Below w.heap.size w W0 := by rw [← hW]; exact (bthen hB (ablow _ _)).drew
  have nm : Aside (Nmr P Bs Bn g1 C1 g2 C2 W0) := ⟨HN.out.stays hB0⟩
  clear hW hb
  refine any_take later_goes 0 ?_ ?_ (by simp only [List.getElem?_toArray, List.getElem?_cons_succ, List.getElem?_cons_zero]; exact rfl) (by kernel_rfl) (by kernel_rfl) (by kernel_rfl) (fun _ _ _ _ _ h => h) (by rfl) ?_ ?_
  rotate_left
  · intro wl hL
    have lf0 := a_keep hL f0; have lf1 := a_keep hL f1; have lf2 := a_keep hL f2; have lf3 := a_keep hL f3; have lf4 := a_keep hL f4; have lf5 := a_keep hL f5; have lf6 := a_keep hL f6; have lf7 := a_keep hL f7; have lp := b_below nm.out.str hL; have p0 : wl.cell? ⟨P, 0, none⟩ = some (.slice (some ⟨g1, 0, none⟩) 84 C1) := by (rw [cell_of_block lp]; rfl)
    have p2 : wl.cell? ⟨P, 2, none⟩ = some (.map (some Bs)) := by (rw [cell_of_block lp]; rfl)
    clear lp
    go_simp
    try with_reducible rfl
  try simp only [Act.put, List.setIfInBounds_toArray, List.set_cons_zero, List.set_cons_succ]
  refine any_take later_goes 1 ?_ ?_ (by simp only [List.getElem?_toArray, List.getElem?_cons_succ, List.getElem?_cons_zero]; exact rfl) (by kernel_rfl) (by kernel_rfl) (by kernel_rfl) (fun _ _ _ _ _ h => h) (by rfl) ?_ ?_
  rotate_left
  · intro wl hL
    have lf0 := a_keep hL f0; have lf1 := a_keep hL f1; have lf2 := a_keep hL f2; have lf3 := a_keep hL f3; have lf4 := a_keep hL f4; have lf5 := a_keep hL f5; have lf6 := a_keep hL f6; have lf7 := a_keep hL f7; have lp := b_below nm.out.str hL; have p0 : wl.cell? ⟨P, 0, none⟩ = some (.slice (some ⟨g1, 0, none⟩) 84 C1) := by (rw [cell_of_block lp]; rfl)
    have p2 : wl.cell? ⟨P, 2, none⟩ = some (.map (some Bs)) := by (rw [cell_of_block lp]; rfl)
    clear lp
    go_simp
    try with_reducible rfl
  try simp only [Act.put, List.setIfInBounds_toArray, List.set_cons_zero, List.set_cons_succ]
  refine any_take later_goes 2 ?_ ?_ (by simp only [List.getElem?_toArray, List.getElem?_cons_succ, List.getElem?_cons_zero]; exact rfl) (by kernel_rfl) (by kernel_rfl) (by kernel_rfl) (fun _ _ _ _ _ h => h) (by rfl) ?_ ?_
  rotate_left
  · intro wl hL
    have lf0 := a_keep hL f0; have lf1 := a_keep hL f1; have lf2 := a_keep hL f2; have lf3 := a_keep hL f3; have lf4 := a_keep hL f4; have lf5 := a_keep hL f5; have lf6 := a_keep hL f6; have lf7 := a_keep hL f7; have lp := b_below nm.out.str hL; have p0 : wl.cell? ⟨P, 0, none⟩ = some (.slice (some ⟨g1, 0, none⟩) 84 C1) := by (rw [cell_of_block lp]; rfl)
    have p2 : wl.cell? ⟨P, 2, none⟩ = some (.map (some Bs)) := by (rw [cell_of_block lp]; rfl)
    clear lp
    go_simp
    try with_reducible rfl
  try simp only [Act.put, List.setIfInBounds_toArray, List.set_cons_zero, List.set_cons_succ]
  refine any_take later_goes 3 ?_ ?_ (by simp only [List.getElem?_toArray, List.getElem?_cons_succ, List.getElem?_cons_zero]; exact rfl) (by kernel_rfl) (by kernel_rfl) (by kernel_rfl) (fun _ _ _ _ _ h => h) (by rfl) ?_ ?_
  rotate_left
  · intro wl hL
    have lf0 := a_keep hL f0; have lf1 := a_keep hL f1; have lf2 := a_keep hL f2; have lf3 := a_keep hL f3; have lf4 := a_keep hL f4; have lf5 := a_keep hL f5; have lf6 := a_keep hL f6; have lf7 := a_keep hL f7; have lp := b_below nm.out.str hL; have p0 : wl.cell? ⟨P, 0, none⟩ = some (.slice (some ⟨g1, 0, none⟩) 84 C1) := by (rw [cell_of_block lp]; rfl)
    have p2 : wl.cell? ⟨P, 2, none⟩ = some (.map (some Bs)) := by (rw [cell_of_block lp]; rfl)
    clear lp
    go_simp
    try with_reducible rfl
  try simp only [Act.put, List.setIfInBounds_toArray, List.set_cons_zero, List.set_cons_succ]
  refine any_take later_goes 4 ?_ ?_ (by simp only [List.getElem?_toArray, List.getElem?_cons_succ, List.getElem?_cons_zero]; exact rfl) (by kernel_rfl) (by kernel_rfl) (by kernel_rfl) (fun _ _ _ _ _ h => h) (by rfl) ?_ ?_
  rotate_left
  · intro wl hL
    have lf0 := a_keep hL f0; have lf1 := a_keep hL f1; have lf2 := a_keep hL f2; have lf3 := a_keep hL f3; have lf4 := a_keep hL f4; have lf5 := a_keep hL f5; have lf6 := a_keep hL f6; have lf7 := a_keep hL f7; have lp := b_below nm.out.str hL; have p0 : wl.cell? ⟨P, 0, none⟩ = some (.slice (some ⟨g1, 0, none⟩) 84 C1) := by (rw [cell_of_block lp]; rfl)
    have p2 : wl.cell? ⟨P, 2, none⟩ = some (.map (some Bs)) := by (rw [cell_of_block lp]; rfl)
    clear lp
    go_simp
    try with_reducible rfl
  try simp only [Act.put, List.setIfInBounds_toArray, List.set_cons_zero, List.set_cons_succ]
  refine any_take later_goes 5 ?_ ?_ (by simp only [List.getElem?_toArray, List.getElem?_cons_succ, List.getElem?_cons_zero]; exact rfl) (by kernel_rfl) (by kernel_rfl) (by kernel_rfl) (fun _ _ _ _ _ h => h) (by rfl) ?_ ?_
  rotate_left
  · intro wl hL
    have lf0 := a_keep hL f0; have lf1 := a_keep hL f1; have lf2 := a_keep hL f2; have lf3 := a_keep hL f3; have lf4 := a_keep hL f4; have lf5 := a_keep hL f5; have lf6 := a_keep hL f6; have lf7 := a_keep hL f7; have lp := b_below nm.out.str hL; have p0 : wl.cell? ⟨P, 0, none⟩ = some (.slice (some ⟨g1, 0, none⟩) 84 C1) := by (rw [cell_of_block lp]; rfl)
    have p2 : wl.cell? ⟨P, 2, none⟩ = some (.map (some Bs)) := by (rw [cell_of_block lp]; rfl)
    clear lp
    go_simp
    try with_reducible rfl
  try simp only [Act.put, List.setIfInBounds_toArray, List.set_cons_zero, List.set_cons_succ]
  refine any_take later_goes 6 ?_ ?_ (by simp only [List.getElem?_toArray, List.getElem?_cons_succ, List.getElem?_cons_zero]; exact rfl) (by kernel_rfl) (by kernel_rfl) (by kernel_rfl) (fun _ _ _ _ _ h => h) (by rfl) ?_ ?_
  rotate_left
  · intro wl hL
    have lf0 := a_keep hL f0; have lf1 := a_keep hL f1; have lf2 := a_keep hL f2; have lf3 := a_keep hL f3; have lf4 := a_keep hL f4; have lf5 := a_keep hL f5; have lf6 := a_keep hL f6; have lf7 := a_keep hL f7; have lp := b_below nm.out.str hL; have p0 : wl.cell? ⟨P, 0, none⟩ = some (.slice (some ⟨g1, 0, none⟩) 84 C1) := by (rw [cell_of_block lp]; rfl)
    have p2 : wl.cell? ⟨P, 2, none⟩ = some (.map (some Bs)) := by (rw [cell_of_block lp]; rfl)
    clear lp
    go_simp
    try with_reducible rfl
  try simp only [Act.put, List.setIfInBounds_toArray, List.set_cons_zero, List.set_cons_succ]
  refine any_take later_goes 7 ?_ ?_ (by simp only [List.getElem?_toArray, List.getElem?_cons_succ, List.getElem?_cons_zero]; exact rfl) (by kernel_rfl) (by kernel_rfl) (by kernel_rfl) (fun _ _ _ _ _ h => h) (by rfl) ?_ ?_
  rotate_left
  · intro wl hL
    have lf0 := a_keep hL f0; have lf1 := a_keep hL f1; have lf2 := a_keep hL f2; have lf3 := a_keep hL f3; have lf4 := a_keep hL f4; have lf5 := a_keep hL f5; have lf6 := a_keep hL f6; have lf7 := a_keep hL f7; have lp := b_below nm.out.str hL; have p0 : wl.cell? ⟨P, 0, none⟩ = some (.slice (some ⟨g1, 0, none⟩) 84 C1) := by (rw [cell_of_block lp]; rfl)
    have p2 : wl.cell? ⟨P, 2, none⟩ = some (.map (some Bs)) := by (rw [cell_of_block lp]; rfl)
    clear lp
    go_simp
    try with_reducible rfl
  try simp only [Act.put, List.setIfInBounds_toArray, List.set_cons_zero, List.set_cons_succ]
  refine any_take later_goes 8 ?_ ?_ (by simp only [List.getElem?_toArray, List.getElem?_cons_succ, List.getElem?_cons_zero]; exact rfl) (by kernel_rfl) (by kernel_rfl) (by kernel_rfl) (fun _ _ _ _ _ h => h) (by rfl) ?_ ?_
  rotate_left
  · intro wl hL
    have lf0 := a_keep hL f0; have lf1 := a_keep hL f1; have lf2 := a_keep hL f2; have lf3 := a_keep hL f3; have lf4 := a_keep hL f4; have lf5 := a_keep hL f5; have lf6 := a_keep hL f6; have lf7 := a_keep hL f7; have lp := b_below nm.out.str hL; have p0 : wl.cell? ⟨P, 0, none⟩ = some (.slice (some ⟨g1, 0, none⟩) 84 C1) := by (rw [cell_of_block lp]; rfl)
    have p2 : wl.cell? ⟨P, 2, none⟩ = some (.map (some Bs)) := by (rw [cell_of_block lp]; rfl)
    clear lp
    go_simp
    try with_reducible rfl
  try simp only [Act.put, List.setIfInBounds_toArray, List.set_cons_zero, List.set_cons_succ]
  refine any_one 9 _ (by kernel_rfl) (by simp only [List.getElem?_toArray, List.getElem?_cons_succ, List.getElem?_cons_zero]; exact rfl) (fun K hK => ?_)
  go_simp
  refine (p_of ⟨3, true, v, a, b, c, op, im⟩ _).mono ?_
  rintro e wo ⟨rfl, hBo⟩
  rw [HK.out]
  refine hK.out _ _ hBo ?_
  clear hK K
  try simp only [Act.put, List.setIfInBounds_toArray, List.set_cons_zero, List.set_cons_succ]
  replace f0 := a_keep hBo f0
  replace f1 := a_keep hBo f1
  replace f2 := a_keep hBo f2
  replace f3 := a_keep hBo f3
  replace f4 := a_keep hBo f4
  replace f5 := a_keep hBo f5
  replace f6 := a_keep hBo f6
  replace f7 := a_keep hBo f7
  replace nm := Aside.mk (nm.out.stays hBo)
  replace hB0 := bthen hB0 hBo
  clear hBo
  refine any_take later_goes 10 ?_ ?_ (by simp only [List.getElem?_toArray, List.getElem?_cons_succ, List.getElem?_cons_zero]; exact rfl) (by kernel_rfl) (by kernel_rfl) (by kernel_rfl) (fun _ _ _ _ _ h => h) (by rfl) ?_ ?_
  rotate_left
  · intro wl hL
    have hlk := HLK.out wl (b_below nm.out.byS hL)
    go_simp
    try with_reducible rfl
  try simp only [Act.put, List.setIfInBounds_toArray, List.set_cons_zero, List.set_cons_succ]
  refine any_take later_goes 11 ?_ ?_ (by simp only [List.getElem?_toArray, List.getElem?_cons_succ, List.getElem?_cons_zero]; exact rfl) (by kernel_rfl) (by kernel_rfl) (by kernel_rfl) (fun _ _ _ _ _ h => h) (by rfl) ?_ ?_
  rotate_left
  · intro wl hL
    skip
    go_simp
    try with_reducible rfl
  try simp only [Act.put, List.setIfInBounds_toArray, List.set_cons_zero, List.set_cons_succ]
  refine any_take later_goes 12 ?_ ?_ (by simp only [List.getElem?_toArray, List.getElem?_cons_succ, List.getElem?_cons_zero]; exact rfl) (by kernel_rfl) (by kernel_rfl) (by kernel_rfl) (fun _ _ _ _ _ h => h) (by rfl) ?_ ?_
  rotate_left
  · intro wl hL
    have hc := a_keep hL (nm.out.names i _ HNM.out)
    go_simp
    try with_reducible rfl
  try simp only [Act.put, List.setIfInBounds_toArray, List.set_cons_zero, List.set_cons_succ]
  refine any_take later_goes 13 ?_ ?_ (by simp only [List.getElem?_toArray, List.getElem?_cons_succ, List.getElem?_cons_zero]; exact rfl) (by kernel_rfl) (by kernel_rfl) (by kernel_rfl) (fun _ _ _ _ _ h => h) (by rfl) ?_ ?_
  rotate_left
  · intro wl hL
    skip
    go_simp
    try with_reducible rfl
  try simp only [Act.put, List.setIfInBounds_toArray, List.set_cons_zero, List.set_cons_succ]
  refine any_take later_goes 14 ?_ ?_ (by simp only [List.getElem?_toArray, List.getElem?_cons_succ, List.getElem?_cons_zero]; exact rfl) (by kernel_rfl) (by kernel_rfl) (by kernel_rfl) (fun _ _ _ _ _ h => h) (by rfl) ?_ ?_
  rotate_left
  · intro wl hL
    skip
    go_simp
    try with_reducible rfl
  try simp only [Act.put, List.setIfInBounds_toArray, List.set_cons_zero, List.set_cons_succ]
  refine any_done (by kernel_rfl) ?_ _
  go_wp2_with fail
  refine (p_itoa _ _ i0 i1 (HV.out.stays hB0)).mono ?_
  rintro e w3 ⟨rfl, hB3⟩
  rw [HSI.out]
  replace hB0 := bthen hB0 hB3
  go_wp2_with fail
  go_ret2
  exact ⟨by rw [HL.out, ← HF.out]; rfl, hB0⟩
set_option maxRecDepth 100000 in
set_option maxHeartbeats 8000000 in
theorem pline3f (P Bs Bn g1 C1 g2 C2 : Nat) (x a b c op im : Int) (v : Bool) (w : World) (hn : Nmr P Bs Bn g1 C1 g2 C2 w) (hv : VarsA w) (h0 : 0 ≤ x) (h1 : x ≤ 4294967295) (hd : decW x = (⟨3, false, v, a, b, c, op, im⟩, 0)) (hl : lineW x = (lineI ⟨3, false, v, a, b, c, op, im⟩, 0))
    (hg : goodI ⟨3, false, v, a, b, c, op, im⟩ = true) (i0 : -2147483648 < im) (i1 : im < 2147483648) : Calls Tryz.prog 27 #[.pointer (some ⟨P, 0, none⟩), .int .u32 x] w (AtLine x w) := by
  obtain ⟨i, hi, ht⟩ := shape_at hg
  obtain ⟨⟨a0, a1⟩, ⟨b0, b1⟩, ⟨c0, c1⟩, o0, o1⟩ := good_nibs hg
  simp only at a0 a1 b0 b1 c0 c1 o0 o1
  obtain ⟨k, hk⟩ : ∃ k, shapeOf ⟨3, false, v, a, b, c, op, im⟩ = k := ⟨_, rfl⟩
  rw [hk] at ht
  have hlk := look_S ht Bs
  have hcap := hn.cap
  have hnl := name_len ht
  obtain ⟨SN, hSN⟩ : ∃ S : ByteArray, (⟨(nameI ⟨3, false, v, a, b, c, op, im⟩).toArray⟩ : ByteArray) = S := ⟨_, rfl⟩
  have zN : SN.size ≤ 5 := by rw [← hSN, size_mk]; exact hnl
  have hnm : (keysN tableP)[i]? = some (.string SN) := by simp [keysN, ht, strV, hSN]
  obtain ⟨SC, hSC⟩ : ∃ S : ByteArray, (⟨(regL c).toArray⟩ : ByteArray) = S := ⟨_, rfl⟩
  have zC : SC.size ≤ 21 := by rw [← hSC, size_mk]; exact regL_len (by omega) (by omega)
  have y0 : ¬ (9223372036854775807 < SN.size + 1) := by omega
  have y1 : ¬ (9223372036854775807 < SN.size + 1 + SC.size) := by omega
  have hfin : SN ++ (⟨#[32]⟩ : ByteArray) ++ SC = ⟨(lineI ⟨3, false, v, a, b, c, op, im⟩).toArray⟩ := by
    apply str_of
    rw [← hSN, ← hSC]
    simp [ByteArray.data_append, lineI, restI, regL]
  have HSN := Lib.hid hSN
  have HSC := Lib.hid hSC
  have HF := Lib.hid hfin
  have HK := Lib.hid hk
  have HLK := Aside.mk hlk
  have HNM := Lib.hid hnm
  have HN := Aside.mk hn
  have HV := Aside.mk hv
  have HD := Lib.hid hd
  have HL := Lib.hid hl
  clear hfin hk hlk hnm hn hv ht hd hl hg hnl hSN hSC
  have hi84 : (i : Int) < 84 := by omega
  obtain ⟨cp1, cp2, -, -⟩ := hcap
  unfold maxLen at cp2
  go_enter Tryz.func27, Tryz.ntmps27
  go_wp2_with fail
  refine (p_Decode x _ h0 h1).mono ?_
  rintro e w1 ⟨rfl, hB⟩
  rw [HD.out]
  simp only [insV_eq]
  go_wp2_with fail
  refine any_begin later_goes (by kernel_rfl) ?_
  generalize hW : World.drew _ = W0
  have hb : W0.heap[w1.heap.size]? = some (.cells #[.int .i64 3, .bool false, .bool v, .int .i64 a, .int .i64 b, .int .i64 c, .int .i64 op, .int .i64 im] 45 (0, 0)) := by rw [← hW]; exact b_new _ _
  obtain ⟨f0, f1, f2, f3, f4, f5, f6, f7⟩ := b_cells8 hb
  have hB0 : Below w.heap.size w W0 := by rw [← hW]; exact (bthen hB (ablow _ _)).drew
  have nm : Aside (Nmr P Bs Bn g1 C1 g2 C2 W0) := ⟨HN.out.stays hB0⟩
  clear hW hb
  refine any_take later_goes 0 ?_ ?_ (by simp only [List.getElem?_toArray, List.getElem?_cons_succ, List.getElem?_cons_zero]; exact rfl) (by kernel_rfl) (by kernel_rfl) (by kernel_rfl) (fun _ _ _ _ _ h => h) (by rfl) ?_ ?_
  rotate_left
  · intro wl hL
    have lf0 := a_keep hL f0; have lf1 := a_keep hL f1; have lf2 := a_keep hL f2; have lf3 := a_keep hL f3; have lf4 := a_keep hL f4; have lf5 := a_keep hL f5; have lf6 := a_keep hL f6; have lf7 := a_keep hL f7; have lp := b_below nm.out.str hL; have p0 : wl.cell? ⟨P, 0, none⟩ = some (.slice (some ⟨g1, 0, none⟩) 84 C1) := by (rw [cell_of_block lp]; rfl)
    have p2 : wl.cell? ⟨P, 2, none⟩ = some (.map (some Bs)) := by (rw [cell_of_block lp]; rfl)
    clear lp
    go_simp
    try with_reducible rfl
  try simp only [Act.put, List.setIfInBounds_toArray, List.set_cons_zero, List.set_cons_succ]
  refine any_take later_goes 1 ?_ ?_ (by simp only [List.getElem?_toArray, List.getElem?_cons_succ, List.getElem?_cons_zero]; exact rfl) (by kernel_rfl) (by kernel_rfl) (by kernel_rfl) (fun _ _ _ _ _ h => h) (by rfl) ?_ ?_
  rotate_left
  · intro wl hL
    have lf0 := a_keep hL f0; have lf1 := a_keep hL f1; have lf2 := a_keep hL f2; have lf3 := a_keep hL f3; have lf4 := a_keep hL f4; have lf5 := a_keep hL f5; have lf6 := a_keep hL f6; have lf7 := a_keep hL f7; have lp := b_below nm.out.str hL; have p0 : wl.cell? ⟨P, 0, none⟩ = some (.slice (some ⟨g1, 0, none⟩) 84 C1) := by (rw [cell_of_block lp]; rfl)
    have p2 : wl.cell? ⟨P, 2, none⟩ = some (.map (some Bs)) := by (rw [cell_of_block lp]; rfl)
    clear lp
    go_simp
    try with_reducible rfl
  try simp only [Act.put, List.setIfInBounds_toArray, List.set_cons_zero, List.set_cons_succ]
  refine any_take later_goes 2 ?_ ?_ (by simp only [List.getElem?_toArray, List.getElem?_cons_succ, List.getElem?_cons_zero]; exact rfl) (by kernel_rfl) (by kernel_rfl) (by kernel_rfl) (fun _ _ _ _ _ h => h) (by rfl) ?_ ?_
  rotate_left
  · intro wl hL
    have lf0 := a_keep hL f0; have lf1 := a_keep hL f1; have lf2 := a_keep hL f2; have lf3 := a_keep hL f3; have lf4 := a_keep hL f4; have lf5 := a_keep hL f5; have lf6 := a_keep hL f6; have lf7 := a_keep hL f7; have lp := b_below nm.out.str hL; have p0 : wl.cell? ⟨P, 0, none⟩ = some (.slice (some ⟨g1, 0, none⟩) 84 C1) := by (rw [cell_of_block lp]; rfl)
    have p2 : wl.cell? ⟨P, 2, none⟩ = some (.map (some Bs)) := by (rw [cell_of_block lp]; rfl)
    clear lp
    go_simp
    try with_reducible rfl
  try simp only [Act.put, List.setIfInBounds_toArray, List.set_cons_zero, List.set_cons_succ]
  refine any_take later_goes 3 ?_ ?_ (by simp only [List.getElem?_toArray, List.getElem?_cons_succ, List.getElem?_cons_zero]; exact rfl) (by kernel_rfl) (by kernel_rfl) (by kernel_rfl) (fun _ _ _ _ _ h => h) (by rfl) ?_ ?_
  rotate_left
  · intro wl hL
    have lf0 := a_keep hL f0; have lf1 := a_keep hL f1; have lf2 := a_keep hL f2; have lf3 := a_keep hL f3; have lf4 := a_keep hL f4; have lf5 := a_keep hL f5; have lf6 := a_keep hL f6; have lf7 := a_keep hL f7; have lp := b_below nm.out.str hL; have p0 : wl.cell? ⟨P, 0, none⟩ = some (.slice (some ⟨g1, 0, none⟩) 84 C1) := by (rw [cell_of_block lp]; rfl)
    have p2 : wl.cell? ⟨P, 2, none⟩ = some (.map (some Bs)) := by (rw [cell_of_block lp]; rfl)
    clear lp
    go_simp
    try with_reducible rfl
  try simp only [Act.put, List.setIfInBounds_toArray, List.set_cons_zero, List.set_cons_succ]
  refine any_take later_goes 4 ?_ ?_ (by simp only [List.getElem?_toArray, List.getElem?_cons_succ, List.getElem?_cons_zero]; exact rfl) (by kernel_rfl) (by kernel_rfl) (by kernel_rfl) (fun _ _ _ _ _ h => h) (by rfl) ?_ ?_
  rotate_left
  · intro wl hL
    have lf0 := a_keep hL f0; have lf1 := a_keep hL f1; have lf2 := a_keep hL f2; have lf3 := a_keep hL f3; have lf4 := a_keep hL f4; have lf5 := a_keep hL f5; have lf6 := a_keep hL f6; have lf7 := a_keep hL f7; have lp := b_below nm.out.str hL; have p0 : wl.cell? ⟨P, 0, none⟩ = some (.slice (some ⟨g1, 0, none⟩) 84 C1) := by (rw [cell_of_block lp]; rfl)
    have p2 : wl.cell? ⟨P, 2, none⟩ = some (.map (some Bs)) := by (rw [cell_of_block lp]; rfl)
    clear lp
    go_simp
    try with_reducible rfl
  try simp only [Act.put, List.setIfInBounds_toArray, List.set_cons_zero, List.set_cons_succ]
  refine any_take later_goes 5 ?_ ?_ (by simp only [List.getElem?_toArray, List.getElem?_cons_succ, List.getElem?_cons_zero]; exact rfl) (by kernel_rfl) (by kernel_rfl) (by kernel_rfl) (fun _ _ _ _ _ h => h) (by rfl) ?_ ?_
  rotate_left
  · intro wl hL
    have lf0 := a_keep hL f0; have lf1 := a_keep hL f1; have lf2 := a_keep hL f2; have lf3 := a_keep hL f3; have lf4 := a_keep hL f4; have lf5 := a_keep hL f5; have lf6 := a_keep hL f6; have lf7 := a_keep hL f7; have lp := b_below nm.out.str hL; have p0 : wl.cell? ⟨P, 0, none⟩ = some (.slice (some ⟨g1, 0, none⟩) 84 C1) := by (rw [cell_of_block lp]; rfl)
    have p2 : wl.cell? ⟨P, 2, none⟩ = some (.map (some Bs)) := by (rw [cell_of_block lp]; rfl)
    clear lp
    go_simp
    try with_reducible rfl
  try simp only [Act.put, List.setIfInBounds_toArray, List.set_cons_zero, List.set_cons_succ]
  refine any_take later_goes 6 ?_ ?_ (by simp only [List.getElem?_toArray, List.getElem?_cons_succ, List.getElem?_cons_zero]; exact rfl) (by kernel_rfl) (by kernel_rfl) (by kernel_rfl) (fun _ _ _ _ _ h => h) (by rfl) ?_ ?_
  rotate_left
  · intro wl hL
    have lf0 := a_keep hL f0; have lf1 := a_keep hL f1; have lf2 := a_keep hL f2; have lf3 := a_keep hL f3; have lf4 := a_keep hL f4; have lf5 := a_keep hL f5; have lf6 := a_keep hL f6; have lf7 := a_keep hL f7; have lp := b_below nm.out.str hL; have p0 : wl.cell? ⟨P, 0, none⟩ = some (.slice (some ⟨g1, 0, none⟩) 84 C1) := by (rw [cell_of_block lp]; rfl)
    have p2 : wl.cell? ⟨P, 2, none⟩ = some (.map (some Bs)) := by (rw [cell_of_block lp]; rfl)
    clear lp
    go_simp
    try with_reducible rfl
  try simp only [Act.put, List.setIfInBounds_toArray, List.set_cons_zero, List.set_cons_succ]
  refine any_take later_goes 7 ?_ ?_ (by simp only [List.getElem?_toArray, List.getElem?_cons_succ, List.getElem?_cons_zero]; exact rfl) (by kernel_rfl) (by kernel_rfl) (by kernel_rfl) (fun _ _ _ _ _ h => h) (by rfl) ?_ ?_
  rotate_left
  · intro wl hL
    have lf0 := a_keep hL f0; have lf1 := a_keep hL f1; have lf2 := a_keep hL f2; have lf3 := a_keep hL f3; have lf4 := a_keep hL f4; have lf5 := a_keep hL f5; have lf6 := a_keep hL f6; have lf7 := a_keep hL f7; have lp := b_below nm.out.str hL; have p0 : wl.cell? ⟨P, 0, none⟩ = some (.slice (some ⟨g1, 0, none⟩) 84 C1) := by (rw [cell_of_block lp]; rfl)
    have p2 : wl.cell? ⟨P, 2, none⟩ = some (.map (some Bs)) := by (rw [cell_of_block lp]; rfl)
    clear lp
    go_simp
    try with_reducible rfl
  try simp only [Act.put, List.setIfInBounds_toArray, List.set_cons_zero, List.set_cons_succ]
  refine any_take later_goes 8 ?_ ?_ (by simp only [List.getElem?_toArray, List.getElem?_cons_succ, List.getElem?_cons_zero]; exact rfl) (by kernel_rfl) (by kernel_rfl) (by kernel_rfl) (fun _ _ _ _ _ h => h) (by rfl) ?_ ?_
  rotate_left
  · intro wl hL
    have lf0 := a_keep hL f0; have lf1 := a_keep hL f1; have lf2 := a_keep hL f2; have lf3 := a_keep hL f3; have lf4 := a_keep hL f4; have lf5 := a_keep hL f5; have lf6 := a_keep hL f6; have lf7 := a_keep hL f7; have lp := b_below nm.out.str hL; have p0 : wl.cell? ⟨P, 0, none⟩ = some (.slice (some ⟨g1, 0, none⟩) 84 C1) := by (rw [cell_of_block lp]; rfl)
    have p2 : wl.cell? ⟨P, 2, none⟩ = some (.map (some Bs)) := by (rw [cell_of_block lp]; rfl)
    clear lp
    go_simp
    try with_reducible rfl
  try simp only [Act.put, List.setIfInBounds_toArray, List.set_cons_zero, List.set_cons_succ]
  refine any_one 9 _ (by kernel_rfl) (by simp only [List.getElem?_toArray, List.getElem?_cons_succ, List.getElem?_cons_zero]; exact rfl) (fun K hK => ?_)
  go_simp
  refine (p_of ⟨3, false, v, a, b, c, op, im⟩ _).mono ?_
  rintro e wo ⟨rfl, hBo⟩
  rw [HK.out]
  refine hK.out _ _ hBo ?_
  clear hK K
  try simp only [Act.put, List.setIfInBounds_toArray, List.set_cons_zero, List.set_cons_succ]
  replace f0 := a_keep hBo f0
  replace f1 := a_keep hBo f1
  replace f2 := a_keep hBo f2
  replace f3 := a_keep hBo f3
  replace f4 := a_keep hBo f4
  replace f5 := a_keep hBo f5
  replace f6 := a_keep hBo f6
  replace f7 := a_keep hBo f7
  replace nm := Aside.mk (nm.out.stays hBo)
  replace hB0 := bthen hB0 hBo
  clear hBo
  refine any_take later_goes 10 ?_ ?_ (by simp only [List.getElem?_toArray, List.getElem?_cons_succ, List.getElem?_cons_zero]; exact rfl) (by kernel_rfl) (by kernel_rfl) (by kernel_rfl) (fun _ _ _ _ _ h => h) (by rfl) ?_ ?_
  rotate_left
  · intro wl hL
    have hlk := HLK.out wl (b_below nm.out.byS hL)
    go_simp
    try with_reducible rfl
  try simp only [Act.put, List.setIfInBounds_toArray, List.set_cons_zero, List.set_cons_succ]
  refine any_take later_goes 11 ?_ ?_ (by simp only [List.getElem?_toArray, List.getElem?_cons_succ, List.getElem?_cons_zero]; exact rfl) (by kernel_rfl) (by kernel_rfl) (by kernel_rfl) (fun _ _ _ _ _ h => h) (by rfl) ?_ ?_
  rotate_left
  · intro wl hL
    skip
    go_simp
    try with_reducible rfl
  try simp only [Act.put, List.setIfInBounds_toArray, List.set_cons_zero, List.set_cons_succ]
  refine any_take later_goes 12 ?_ ?_ (by simp only [List.getElem?_toArray, List.getElem?_cons_succ, List.getElem?_cons_zero]; exact rfl) (by kernel_rfl) (by kernel_rfl) (by kernel_rfl) (fun _ _ _ _ _ h => h) (by rfl) ?_ ?_
  rotate_left
  · intro wl hL
    have hc := a_keep hL (nm.out.names i _ HNM.out)
    go_simp
    try with_reducible rfl
  try simp only [Act.put, List.setIfInBounds_toArray, List.set_cons_zero, List.set_cons_succ]
  refine any_take later_goes 13 ?_ ?_ (by simp only [List.getElem?_toArray, List.getElem?_cons_succ, List.getElem?_cons_zero]; exact rfl) (by kernel_rfl) (by kernel_rfl) (by kernel_rfl) (fun _ _ _ _ _ h => h) (by rfl) ?_ ?_
  rotate_left
  · intro wl hL
    skip
    go_simp
    try with_reducible rfl
  try simp only [Act.put, List.setIfInBounds_toArray, List.set_cons_zero, List.set_cons_succ]
  refine any_take later_goes 14 ?_ ?_ (by simp only [List.getElem?_toArray, List.getElem?_cons_succ, List.getElem?_cons_zero]; exact rfl) (by kernel_rfl) (by kernel_rfl) (by kernel_rfl) (fun _ _ _ _ _ h => h) (by rfl) ?_ ?_
  rotate_left
  · intro wl hL
    skip
    go_simp
    try with_reducible rfl
  try simp only [Act.put, List.setIfInBounds_toArray, List.set_cons_zero, List.set_cons_succ]
  refine any_done (by kernel_rfl) ?_ _
  go_wp2_with fail
  refine (p_register _ _ (by omega) (by omega)).mono ?_
  rintro e w3 ⟨rfl, rfl⟩
  rw [HSC.out]
  go_wp2_with fail
  go_ret2
  exact ⟨by rw [HL.out, ← HF.out]; rfl, hB0⟩
/-- The line of a word, by the namer. -/
theorem p_lineM (P Bs Bn g1 C1 g2 C2 : Nat) (x : Int) (w : World) (hm : Nmr P Bs Bn g1 C1 g2 C2 w) (hv : VarsA w) (h0 : 0 ≤ x) (h1 : x ≤ 4294967295) : Calls Tryz.prog 27 #[.pointer (some ⟨P, 0, none⟩), .int .u32 x] w (AtLine x w) := by
  rcases decW_cases x with ⟨hg, hd, hl⟩ | ⟨-, hd, hl⟩
  · have hi := insOf_small x h0 h1
    have hgi : goodI (insOf x) = true := by
      simp only [goodW, Bool.and_eq_true] at hg
      exact hg.1
    generalize insOf x = y at hi hgi hd hl
    obtain ⟨f, u, v, a, b, c, op, im⟩ := y
    have hi0 : -2147483648 < im := hi.1
    have hi1 : im < 2147483648 := hi.2
    have hf : f = 0 ∨ f = 1 ∨ f = 2 ∨ f = 3 := good_form hgi
    rcases hf with rfl | rfl | rfl | rfl
    · exact pline0 P Bs Bn g1 C1 g2 C2 x a b c op im u v w hm hv h0 h1 hd hl hgi hi0 hi1
    · exact pline1 P Bs Bn g1 C1 g2 C2 x a b c op im u v w hm hv h0 h1 hd hl hgi hi0 hi1
    · exact pline2 P Bs Bn g1 C1 g2 C2 x a b c op im u v w hm hv h0 h1 hd hl hgi hi0 hi1
    · cases u
      · exact pline3f P Bs Bn g1 C1 g2 C2 x a b c op im v w hm hv h0 h1 hd hl hgi hi0 hi1
      · exact pline3t P Bs Bn g1 C1 g2 C2 x a b c op im v w hm hv h0 h1 hd hl hgi hi0 hi1
  · exact plineN P x w h0 h1 hd hl
theorem p_line (v : Value) (x : Int) (w : World) (hn : IsNamer w v) (hv : VarsA w) (h0 : 0 ≤ x) (h1 : x ≤ 4294967295) : Calls Tryz.prog 27 #[v, .int .u32 x] w (AtLine x w) := by
  obtain ⟨P, Bs, Bn, g1, C1, g2, C2, rfl, hm⟩ := namer_of hn
  exact p_lineM P Bs Bn g1 C1 g2 C2 x w hm hv h0 h1
/-- asm.Line. -/
theorem p_Line (x : Int) (w : World) (hv : VarsA w) (h0 : 0 ≤ x) (h1 : x ≤ 4294967295) : Calls Tryz.prog 14 #[.int .u32 x] w (AtLine x w) := by
  have HV := Aside.mk hv
  clear hv
  go_enter Tryz.func14, Tryz.ntmps14
  go_wp2_with fail
  refine (named_any _ HV.out.space).mono ?_
  rintro e w1 ⟨v, rfl, hN, hB⟩
  have HN := Aside.mk hN
  clear hN
  go_wp2_with fail
  refine (p_line v x _ HN.out (HV.out.stays hB) h0 h1).mono ?_
  rintro e w2 ⟨rfl, hB2⟩
  go_wp2_with fail
  go_ret2
  exact ⟨rfl, bthen hB hB2⟩
end Go.Proofs.YtjjgjadfnongfaaGreatDoor
