import Derived.Test.YtjjgjadfnongfaaGreatDoorALn1
set_option linter.unusedVariables false
set_option linter.unusedSimpArgs false
namespace Go.Proofs.YtjjgjadfnongfaaGreatDoor
open Go.RowKit Go.Maps Go.MapKept Go.ChangeMaps
/-- asm.operand. -/
def AtOpnd (s : List UInt8) (w : World) (e : Ending) (w' : World) : Prop := ∃ n : Int, e = .returned (.tuple #[.int .i64 n, .bool (opnd s).2.1, .bool (opnd s).2.2]) ∧ ((opnd s).2.2 = true → n = (opnd s).1) ∧ Below w.heap.size w w'
theorem iface_nil (t : TypeId) (v : Value) (w : World) : (Go.binOp .eql 62 (.iface t v) .nilIface).run Tryz.prog w = .ok (.bool false) w := by kernel_rfl
theorem nil_nil (w : World) : (Go.binOp .eql 62 .nilIface .nilIface).run Tryz.prog w = .ok (.bool true) w := by kernel_rfl
set_option maxRecDepth 100000 in
theorem p_operand_ok (s : List UInt8) (w : World) (hv : VarsA w) (hs : s.length ≤ 1000) (v : Int) (h : Lib.atoiAll (Lib.trimPrefix s [82]) = .ok v) : Calls Tryz.prog 36 #[.string ⟨s.toArray⟩] w (AtOpnd s w) := by
  obtain ⟨D, hD⟩ : ∃ D : ByteArray, (⟨(Lib.trimPrefix s [82]).toArray⟩ : ByteArray) = D := ⟨_, rfl⟩
  have hDl : D.data.toList = Lib.trimPrefix s [82] := by rw [← hD]
  have hDz : D.size ≤ 1000 := by
    rw [← len_list, hDl]
    unfold Lib.trimPrefix
    split
    · simp; omega
    · exact hs
  obtain ⟨reg, hreg⟩ : ∃ reg, Lib.hasPrefix s [82] = reg := ⟨_, rfl⟩
  have ho : opnd s = (v, reg, true) := by unfold opnd; rw [h, hreg]
  rw [← hDl] at h
  have H := Lib.hid h
  have HD := Lib.hid hD
  have HR := Lib.hid hreg
  have HO := Lib.hid ho
  have HV := Aside.mk hv
  clear h hD hDl hreg ho hv
  go_enter Tryz.func36, Tryz.ntmps36
  go_wp2_with fail
  refine (Tryz.strings_CutPrefix _ _ _).mono ?_
  rintro e w1 ⟨rfl, rfl⟩
  rw [show (Lib.trimPrefix s [82]).toArray = D.data from congrArg ByteArray.data HD.out, HR.out]
  go_wp2_with fail
  refine (Tryz.strconv_Atoi_ok D (by omega) v H.out _).mono ?_
  rintro e w2 ⟨rfl, hw2⟩
  have hB : Below w1.heap.size w1 w2 := by
    rcases hw2 with rfl | ⟨t, rfl⟩
    · exact Below.refl _ _
    · exact Lib.bytesWorld_below _ _ _
  clear hw2
  go_wp2_with fail
  refine any_begin later_goes (by kernel_rfl) ?_
  generalize hW : World.drew _ = W0
  have hB0 : Below w1.heap.size w1 W0 := by rw [← hW]; exact hB.drew
  clear hW
  refine any_take later_goes 0 ?_ ?_ (by simp only [List.getElem?_toArray, List.getElem?_cons_succ, List.getElem?_cons_zero]; exact rfl) (by kernel_rfl) (by kernel_rfl) (by kernel_rfl) (fun _ _ _ _ _ h => h) (by rfl) ?_ ?_
  rotate_left
  · intro wl hL
    skip
    go_simp
    try with_reducible rfl
  try simp only [Act.put, List.setIfInBounds_toArray, List.set_cons_zero, List.set_cons_succ]
  refine any_take later_goes 1 ?_ ?_ (by simp only [List.getElem?_toArray, List.getElem?_cons_succ, List.getElem?_cons_zero]; exact rfl) (by kernel_rfl) (by kernel_rfl) (by kernel_rfl) (fun _ _ _ _ _ h => h) (by rfl) ?_ ?_
  rotate_left
  · intro wl hL
    skip
    go_simp
    try with_reducible rfl
  try simp only [Act.put, List.setIfInBounds_toArray, List.set_cons_zero, List.set_cons_succ]
  refine any_take later_goes 2 ?_ ?_ (by simp only [List.getElem?_toArray, List.getElem?_cons_succ, List.getElem?_cons_zero]; exact rfl) (by kernel_rfl) (by kernel_rfl) (by kernel_rfl) (fun _ _ _ _ _ h => h) (by rfl) ?_ ?_
  rotate_left
  · intro wl hL
    skip
    go_simp
    try with_reducible rfl
  try simp only [Act.put, List.setIfInBounds_toArray, List.set_cons_zero, List.set_cons_succ]
  refine any_take later_goes 3 ?_ ?_ (by simp only [List.getElem?_toArray, List.getElem?_cons_succ, List.getElem?_cons_zero]; exact rfl) (by kernel_rfl) (by kernel_rfl) (by kernel_rfl) (fun _ _ _ _ _ h => h) (by rfl) ?_ ?_
  rotate_left
  · intro wl hL
    have q := nil_nil wl
    go_simp
    try with_reducible rfl
  try simp only [Act.put, List.setIfInBounds_toArray, List.set_cons_zero, List.set_cons_succ]
  refine any_take later_goes 4 ?_ ?_ (by simp only [List.getElem?_toArray, List.getElem?_cons_succ, List.getElem?_cons_zero]; exact rfl) (by kernel_rfl) (by kernel_rfl) (by kernel_rfl) (fun _ _ _ _ _ h => h) (by rfl) ?_ ?_
  rotate_left
  · intro wl hL
    skip
    go_simp
    try with_reducible rfl
  try simp only [Act.put, List.setIfInBounds_toArray, List.set_cons_zero, List.set_cons_succ]
  refine any_take later_goes 5 ?_ ?_ (by simp only [List.getElem?_toArray, List.getElem?_cons_succ, List.getElem?_cons_zero]; exact rfl) (by kernel_rfl) (by kernel_rfl) (by kernel_rfl) (fun _ _ _ _ _ h => h) (by rfl) ?_ ?_
  rotate_left
  · intro wl hL
    skip
    go_simp
    try with_reducible rfl
  try simp only [Act.put, List.setIfInBounds_toArray, List.set_cons_zero, List.set_cons_succ]
  refine any_take later_goes 6 ?_ ?_ (by simp only [List.getElem?_toArray, List.getElem?_cons_succ, List.getElem?_cons_zero]; exact rfl) (by kernel_rfl) (by kernel_rfl) (by kernel_rfl) (fun _ _ _ _ _ h => h) (by rfl) ?_ ?_
  rotate_left
  · intro wl hL
    skip
    go_simp
    try with_reducible rfl
  try simp only [Act.put, List.setIfInBounds_toArray, List.set_cons_zero, List.set_cons_succ]
  refine any_done (by kernel_rfl) ?_ _
  go_wp2_with fail
  go_ret3
  refine ⟨v, by rw [HO.out]; rfl, ?_, hB0⟩
  · intro _; rw [HO.out]
set_option maxRecDepth 100000 in
theorem p_operand_syn (s : List UInt8) (w : World) (hv : VarsA w) (hs : s.length ≤ 1000) (h : Lib.atoiAll (Lib.trimPrefix s [82]) = .syntax) : Calls Tryz.prog 36 #[.string ⟨s.toArray⟩] w (AtOpnd s w) := by
  obtain ⟨D, hD⟩ : ∃ D : ByteArray, (⟨(Lib.trimPrefix s [82]).toArray⟩ : ByteArray) = D := ⟨_, rfl⟩
  have hDl : D.data.toList = Lib.trimPrefix s [82] := by rw [← hD]
  have hDz : D.size ≤ 1000 := by
    rw [← len_list, hDl]
    unfold Lib.trimPrefix
    split
    · simp; omega
    · exact hs
  obtain ⟨reg, hreg⟩ : ∃ reg, Lib.hasPrefix s [82] = reg := ⟨_, rfl⟩
  have ho : opnd s = (0, reg, false) := by unfold opnd; rw [h, hreg]
  rw [← hDl] at h
  have H := Lib.hid h
  have HD := Lib.hid hD
  have HR := Lib.hid hreg
  have HO := Lib.hid ho
  have HV := Aside.mk hv
  obtain ⟨ev, hev, hev2⟩ := hv.syn
  have HE := Lib.hid hev
  have HE2 := Lib.hid hev2
  clear hev hev2
  clear h hD hDl hreg ho hv
  go_enter Tryz.func36, Tryz.ntmps36
  go_wp2_with fail
  refine (Tryz.strings_CutPrefix _ _ _).mono ?_
  rintro e w1 ⟨rfl, rfl⟩
  rw [show (Lib.trimPrefix s [82]).toArray = D.data from congrArg ByteArray.data HD.out, HR.out]
  go_wp2_with fail
  refine (Tryz.strconv_Atoi_syntax D (by omega) H.out ev _ HE.out HE2.out).mono ?_
  rintro e w2 ⟨N, rfl, -, -, hB⟩
  go_wp2_with fail
  refine any_begin later_goes (by kernel_rfl) ?_
  generalize hW : World.drew _ = W0
  have hB0 : Below w1.heap.size w1 W0 := by rw [← hW]; exact hB.drew
  clear hW
  refine any_take later_goes 0 ?_ ?_ (by simp only [List.getElem?_toArray, List.getElem?_cons_succ, List.getElem?_cons_zero]; exact rfl) (by kernel_rfl) (by kernel_rfl) (by kernel_rfl) (fun _ _ _ _ _ h => h) (by rfl) ?_ ?_
  rotate_left
  · intro wl hL
    skip
    go_simp
    try with_reducible rfl
  try simp only [Act.put, List.setIfInBounds_toArray, List.set_cons_zero, List.set_cons_succ]
  refine any_take later_goes 1 ?_ ?_ (by simp only [List.getElem?_toArray, List.getElem?_cons_succ, List.getElem?_cons_zero]; exact rfl) (by kernel_rfl) (by kernel_rfl) (by kernel_rfl) (fun _ _ _ _ _ h => h) (by rfl) ?_ ?_
  rotate_left
  · intro wl hL
    skip
    go_simp
    try with_reducible rfl
  try simp only [Act.put, List.setIfInBounds_toArray, List.set_cons_zero, List.set_cons_succ]
  refine any_take later_goes 2 ?_ ?_ (by simp only [List.getElem?_toArray, List.getElem?_cons_succ, List.getElem?_cons_zero]; exact rfl) (by kernel_rfl) (by kernel_rfl) (by kernel_rfl) (fun _ _ _ _ _ h => h) (by rfl) ?_ ?_
  rotate_left
  · intro wl hL
    skip
    go_simp
    try with_reducible rfl
  try simp only [Act.put, List.setIfInBounds_toArray, List.set_cons_zero, List.set_cons_succ]
  refine any_take later_goes 3 ?_ ?_ (by simp only [List.getElem?_toArray, List.getElem?_cons_succ, List.getElem?_cons_zero]; exact rfl) (by kernel_rfl) (by kernel_rfl) (by kernel_rfl) (fun _ _ _ _ _ h => h) (by rfl) ?_ ?_
  rotate_left
  · intro wl hL
    have q := iface_nil 134 (.pointer (some ⟨N, 0, none⟩)) wl
    go_simp
    try with_reducible rfl
  try simp only [Act.put, List.setIfInBounds_toArray, List.set_cons_zero, List.set_cons_succ]
  refine any_take later_goes 4 ?_ ?_ (by simp only [List.getElem?_toArray, List.getElem?_cons_succ, List.getElem?_cons_zero]; exact rfl) (by kernel_rfl) (by kernel_rfl) (by kernel_rfl) (fun _ _ _ _ _ h => h) (by rfl) ?_ ?_
  rotate_left
  · intro wl hL
    skip
    go_simp
    try with_reducible rfl
  try simp only [Act.put, List.setIfInBounds_toArray, List.set_cons_zero, List.set_cons_succ]
  refine any_take later_goes 5 ?_ ?_ (by simp only [List.getElem?_toArray, List.getElem?_cons_succ, List.getElem?_cons_zero]; exact rfl) (by kernel_rfl) (by kernel_rfl) (by kernel_rfl) (fun _ _ _ _ _ h => h) (by rfl) ?_ ?_
  rotate_left
  · intro wl hL
    skip
    go_simp
    try with_reducible rfl
  try simp only [Act.put, List.setIfInBounds_toArray, List.set_cons_zero, List.set_cons_succ]
  refine any_take later_goes 6 ?_ ?_ (by simp only [List.getElem?_toArray, List.getElem?_cons_succ, List.getElem?_cons_zero]; exact rfl) (by kernel_rfl) (by kernel_rfl) (by kernel_rfl) (fun _ _ _ _ _ h => h) (by rfl) ?_ ?_
  rotate_left
  · intro wl hL
    skip
    go_simp
    try with_reducible rfl
  try simp only [Act.put, List.setIfInBounds_toArray, List.set_cons_zero, List.set_cons_succ]
  refine any_done (by kernel_rfl) ?_ _
  go_wp2_with fail
  go_ret3
  refine ⟨0, by rw [HO.out]; rfl, ?_, hB0⟩
  · intro h; rw [HO.out] at h; cases h
set_option maxRecDepth 100000 in
theorem p_operand_rng (s : List UInt8) (w : World) (hv : VarsA w) (hs : s.length ≤ 1000) (h : Lib.atoiAll (Lib.trimPrefix s [82]) = .range) : Calls Tryz.prog 36 #[.string ⟨s.toArray⟩] w (AtOpnd s w) := by
  obtain ⟨D, hD⟩ : ∃ D : ByteArray, (⟨(Lib.trimPrefix s [82]).toArray⟩ : ByteArray) = D := ⟨_, rfl⟩
  have hDl : D.data.toList = Lib.trimPrefix s [82] := by rw [← hD]
  have hDz : D.size ≤ 1000 := by
    rw [← len_list, hDl]
    unfold Lib.trimPrefix
    split
    · simp; omega
    · exact hs
  obtain ⟨reg, hreg⟩ : ∃ reg, Lib.hasPrefix s [82] = reg := ⟨_, rfl⟩
  have ho : opnd s = (0, reg, false) := by unfold opnd; rw [h, hreg]
  rw [← hDl] at h
  have H := Lib.hid h
  have HD := Lib.hid hD
  have HR := Lib.hid hreg
  have HO := Lib.hid ho
  have HV := Aside.mk hv
  obtain ⟨ev, hev, hev2⟩ := hv.range
  have HE := Lib.hid hev
  have HE2 := Lib.hid hev2
  clear hev hev2
  clear h hD hDl hreg ho hv
  go_enter Tryz.func36, Tryz.ntmps36
  go_wp2_with fail
  refine (Tryz.strings_CutPrefix _ _ _).mono ?_
  rintro e w1 ⟨rfl, rfl⟩
  rw [show (Lib.trimPrefix s [82]).toArray = D.data from congrArg ByteArray.data HD.out, HR.out]
  go_wp2_with fail
  refine (Tryz.strconv_Atoi_range D (by omega) H.out ev _ HE.out HE2.out).mono ?_
  rintro e w2 ⟨N, rfl, -, -, hB⟩
  generalize Lib.atoiSat _ = sat
  go_wp2_with fail
  refine any_begin later_goes (by kernel_rfl) ?_
  generalize hW : World.drew _ = W0
  have hB0 : Below w1.heap.size w1 W0 := by rw [← hW]; exact hB.drew
  clear hW
  refine any_take later_goes 0 ?_ ?_ (by simp only [List.getElem?_toArray, List.getElem?_cons_succ, List.getElem?_cons_zero]; exact rfl) (by kernel_rfl) (by kernel_rfl) (by kernel_rfl) (fun _ _ _ _ _ h => h) (by rfl) ?_ ?_
  rotate_left
  · intro wl hL
    skip
    go_simp
    try with_reducible rfl
  try simp only [Act.put, List.setIfInBounds_toArray, List.set_cons_zero, List.set_cons_succ]
  refine any_take later_goes 1 ?_ ?_ (by simp only [List.getElem?_toArray, List.getElem?_cons_succ, List.getElem?_cons_zero]; exact rfl) (by kernel_rfl) (by kernel_rfl) (by kernel_rfl) (fun _ _ _ _ _ h => h) (by rfl) ?_ ?_
  rotate_left
  · intro wl hL
    skip
    go_simp
    try with_reducible rfl
  try simp only [Act.put, List.setIfInBounds_toArray, List.set_cons_zero, List.set_cons_succ]
  refine any_take later_goes 2 ?_ ?_ (by simp only [List.getElem?_toArray, List.getElem?_cons_succ, List.getElem?_cons_zero]; exact rfl) (by kernel_rfl) (by kernel_rfl) (by kernel_rfl) (fun _ _ _ _ _ h => h) (by rfl) ?_ ?_
  rotate_left
  · intro wl hL
    skip
    go_simp
    try with_reducible rfl
  try simp only [Act.put, List.setIfInBounds_toArray, List.set_cons_zero, List.set_cons_succ]
  refine any_take later_goes 3 ?_ ?_ (by simp only [List.getElem?_toArray, List.getElem?_cons_succ, List.getElem?_cons_zero]; exact rfl) (by kernel_rfl) (by kernel_rfl) (by kernel_rfl) (fun _ _ _ _ _ h => h) (by rfl) ?_ ?_
  rotate_left
  · intro wl hL
    have q := iface_nil 134 (.pointer (some ⟨N, 0, none⟩)) wl
    go_simp
    try with_reducible rfl
  try simp only [Act.put, List.setIfInBounds_toArray, List.set_cons_zero, List.set_cons_succ]
  refine any_take later_goes 4 ?_ ?_ (by simp only [List.getElem?_toArray, List.getElem?_cons_succ, List.getElem?_cons_zero]; exact rfl) (by kernel_rfl) (by kernel_rfl) (by kernel_rfl) (fun _ _ _ _ _ h => h) (by rfl) ?_ ?_
  rotate_left
  · intro wl hL
    skip
    go_simp
    try with_reducible rfl
  try simp only [Act.put, List.setIfInBounds_toArray, List.set_cons_zero, List.set_cons_succ]
  refine any_take later_goes 5 ?_ ?_ (by simp only [List.getElem?_toArray, List.getElem?_cons_succ, List.getElem?_cons_zero]; exact rfl) (by kernel_rfl) (by kernel_rfl) (by kernel_rfl) (fun _ _ _ _ _ h => h) (by rfl) ?_ ?_
  rotate_left
  · intro wl hL
    skip
    go_simp
    try with_reducible rfl
  try simp only [Act.put, List.setIfInBounds_toArray, List.set_cons_zero, List.set_cons_succ]
  refine any_take later_goes 6 ?_ ?_ (by simp only [List.getElem?_toArray, List.getElem?_cons_succ, List.getElem?_cons_zero]; exact rfl) (by kernel_rfl) (by kernel_rfl) (by kernel_rfl) (fun _ _ _ _ _ h => h) (by rfl) ?_ ?_
  rotate_left
  · intro wl hL
    skip
    go_simp
    try with_reducible rfl
  try simp only [Act.put, List.setIfInBounds_toArray, List.set_cons_zero, List.set_cons_succ]
  refine any_done (by kernel_rfl) ?_ _
  go_wp2_with fail
  go_ret3
  refine ⟨sat, by rw [HO.out]; rfl, ?_, hB0⟩
  · intro h; rw [HO.out] at h; cases h
theorem p_operand (s : List UInt8) (w : World) (hv : VarsA w) (hs : s.length ≤ 1000) : Calls Tryz.prog 36 #[.string ⟨s.toArray⟩] w (AtOpnd s w) := by
  cases h : Lib.atoiAll (Lib.trimPrefix s [82]) with
  | ok v => exact p_operand_ok s w hv hs v h
  | «syntax» => exact p_operand_syn s w hv hs h
  | range => exact p_operand_rng s w hv hs h
end Go.Proofs.YtjjgjadfnongfaaGreatDoor
