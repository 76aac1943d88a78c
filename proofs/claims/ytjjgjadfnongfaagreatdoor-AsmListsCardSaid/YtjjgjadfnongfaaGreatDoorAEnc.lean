import Derived.Test.YtjjgjadfnongfaaGreatDoorAGood
set_option linter.unusedVariables false
set_option linter.unusedSimpArgs false
namespace Go.Proofs.YtjjgjadfnongfaaGreatDoor
open Go.RowKit Go.Maps Go.MapKept
theorem p_bit29 (b : Bool) (w : World) : Calls Tryz.prog 67 #[.bool b, .int .i64 29] w (Is (.int .u32 (bitN b 536870912)) w) := by
  cases b <;>
  · go_enter Tryz.func67, Tryz.ntmps67
    go_wp2
    go_ret
    exact is_int (by rfl)
theorem p_bit28 (b : Bool) (w : World) : Calls Tryz.prog 67 #[.bool b, .int .i64 28] w (Is (.int .u32 (bitN b 268435456)) w) := by
  cases b <;>
  · go_enter Tryz.func67, Tryz.ntmps67
    go_wp2
    go_ret
    exact is_int (by rfl)
theorem p_bit (b : Bool) (n : Int) (w : World) (hn : n = 28 ∨ n = 29) : Calls Tryz.prog 67 #[.bool b, .int .i64 n] w (Is (.int .u32 (bitK b n)) w) := by
  rcases hn with rfl | rfl
  · exact p_bit28 b w
  · exact p_bit29 b w
theorem ablow (w : World) (o : Obj) : Below w.heap.size w (w.alloc o) := (Below.refl _ _).alloc (Nat.le_refl _) _
theorem ins_cells {w : World} {g : Nat} {x : Ins} (h : w.heap[g]? = some (.cells #[.int .i64 x.form, .bool x.u, .bool x.v, .int .i64 x.a, .int .i64 x.b, .int .i64 x.c, .int .i64 x.op, .int .i64 x.im] 45 (0, 0))) :
    w.cell? ⟨g, 0, none⟩ = some (.int .i64 x.form) ∧ w.cell? ⟨g, 1, none⟩ = some (.bool x.u) ∧ w.cell? ⟨g, 2, none⟩ = some (.bool x.v) ∧ w.cell? ⟨g, 3, none⟩ = some (.int .i64 x.a) ∧
    w.cell? ⟨g, 4, none⟩ = some (.int .i64 x.b) ∧ w.cell? ⟨g, 5, none⟩ = some (.int .i64 x.c) ∧ w.cell? ⟨g, 6, none⟩ = some (.int .i64 x.op) ∧ w.cell? ⟨g, 7, none⟩ = some (.int .i64 x.im) := by
  refine ⟨?_, ?_, ?_, ?_, ?_, ?_, ?_, ?_⟩ <;> (rw [cell_of_block h]; rfl)
theorem ret_u32 {a b c : Int} (h : a = b) : Ending.returned (.tuple #[.int .u32 a, .int .i64 c]) = .returned (.tuple #[.int .u32 b, .int .i64 c]) := by rw [h]
set_option maxRecDepth 100000 in
set_option maxHeartbeats 8000000 in
theorem p_Enc0 (u v : Bool) (a b c op im : Int) (w : World) (him : InR im) (hg : goodI ⟨0, u, v, a, b, c, op, im⟩ = true) : Calls Tryz.prog 37 #[insV ⟨0, u, v, a, b, c, op, im⟩] w (Gives (.tuple #[.int .u32 (encI ⟨0, u, v, a, b, c, op, im⟩), .int .i64 0]) w) := by
  obtain ⟨r, hr⟩ : ∃ r, encI ⟨0, u, v, a, b, c, op, im⟩ = r := ⟨_, rfl⟩
  have he := enc_or0 hg
  rw [hr] at he
  rw [hr, insV_eq]
  have HE := Lib.hid he
  have HG := Lib.hid hg
  have HIM := Lib.hid him
  clear hr hg he him
  go_enter Tryz.func37, Tryz.ntmps37
  go_wp2_with fail
  rw [← insV_eq]
  refine (p_Good _ _ HIM.out).mono ?_
  rintro e w1 ⟨rfl, hB1⟩
  rw [HG.out]
  have hblk := below_block hB1 (by simp) (alloc_block w (.cells #[.int .i64 0, .bool u, .bool v, .int .i64 a, .int .i64 b, .int .i64 c, .int .i64 op, .int .i64 im] 45))
  obtain ⟨q0, q1, q2, q3, q4, q5, q6, q7⟩ := ins_cells (x := ⟨0, u, v, a, b, c, op, im⟩) hblk
  simp only at q0 q1 q2 q3 q4 q5 q6 q7
  have hB2 := bthen (ablow w _) hB1
  clear hblk hB1
  go_wp2_with fail
  go_quiet ((go_at_call 67; exact Calls.quiet_of_same (p_bit _ _ _ (by omega))))
  go_wp2
  go_ret2
  exact ⟨ret_u32 HE.out, bthen hB2 (bdrew _ _ _)⟩
set_option maxRecDepth 100000 in
set_option maxHeartbeats 8000000 in
theorem p_Enc1 (u v : Bool) (a b c op im : Int) (w : World) (him : InR im) (hg : goodI ⟨1, u, v, a, b, c, op, im⟩ = true) : Calls Tryz.prog 37 #[insV ⟨1, u, v, a, b, c, op, im⟩] w (Gives (.tuple #[.int .u32 (encI ⟨1, u, v, a, b, c, op, im⟩), .int .i64 0]) w) := by
  obtain ⟨r, hr⟩ : ∃ r, encI ⟨1, u, v, a, b, c, op, im⟩ = r := ⟨_, rfl⟩
  have he := enc_or1 hg
  rw [hr] at he
  rw [hr, insV_eq]
  have HE := Lib.hid he
  have HG := Lib.hid hg
  have HIM := Lib.hid him
  clear hr hg he him
  go_enter Tryz.func37, Tryz.ntmps37
  go_wp2_with fail
  rw [← insV_eq]
  refine (p_Good _ _ HIM.out).mono ?_
  rintro e w1 ⟨rfl, hB1⟩
  rw [HG.out]
  have hblk := below_block hB1 (by simp) (alloc_block w (.cells #[.int .i64 1, .bool u, .bool v, .int .i64 a, .int .i64 b, .int .i64 c, .int .i64 op, .int .i64 im] 45))
  obtain ⟨q0, q1, q2, q3, q4, q5, q6, q7⟩ := ins_cells (x := ⟨1, u, v, a, b, c, op, im⟩) hblk
  simp only at q0 q1 q2 q3 q4 q5 q6 q7
  have hB2 := bthen (ablow w _) hB1
  clear hblk hB1
  go_wp2_with fail
  go_quiet ((go_at_call 67; exact Calls.quiet_of_same (p_bit _ _ _ (by omega))))
  go_wp2
  go_ret2
  exact ⟨ret_u32 HE.out, bthen hB2 (bdrew _ _ _)⟩
set_option maxRecDepth 100000 in
set_option maxHeartbeats 8000000 in
theorem p_Enc2 (u v : Bool) (a b c op im : Int) (w : World) (him : InR im) (hg : goodI ⟨2, u, v, a, b, c, op, im⟩ = true) : Calls Tryz.prog 37 #[insV ⟨2, u, v, a, b, c, op, im⟩] w (Gives (.tuple #[.int .u32 (encI ⟨2, u, v, a, b, c, op, im⟩), .int .i64 0]) w) := by
  obtain ⟨r, hr⟩ : ∃ r, encI ⟨2, u, v, a, b, c, op, im⟩ = r := ⟨_, rfl⟩
  have he := enc_or2 hg
  rw [hr] at he
  rw [hr, insV_eq]
  have HE := Lib.hid he
  have HG := Lib.hid hg
  have HIM := Lib.hid him
  clear hr hg he him
  go_enter Tryz.func37, Tryz.ntmps37
  go_wp2_with fail
  rw [← insV_eq]
  refine (p_Good _ _ HIM.out).mono ?_
  rintro e w1 ⟨rfl, hB1⟩
  rw [HG.out]
  have hblk := below_block hB1 (by simp) (alloc_block w (.cells #[.int .i64 2, .bool u, .bool v, .int .i64 a, .int .i64 b, .int .i64 c, .int .i64 op, .int .i64 im] 45))
  obtain ⟨q0, q1, q2, q3, q4, q5, q6, q7⟩ := ins_cells (x := ⟨2, u, v, a, b, c, op, im⟩) hblk
  simp only at q0 q1 q2 q3 q4 q5 q6 q7
  have hB2 := bthen (ablow w _) hB1
  clear hblk hB1
  go_wp2_with fail
  go_quiet ((go_at_call 67; exact Calls.quiet_of_same (p_bit _ _ _ (by omega))))
  go_wp2
  go_ret2
  exact ⟨ret_u32 HE.out, bthen hB2 (bdrew _ _ _)⟩
set_option maxRecDepth 100000 in
set_option maxHeartbeats 8000000 in
theorem p_Enc3 (u v : Bool) (a b c op im : Int) (w : World) (him : InR im) (hg : goodI ⟨3, u, v, a, b, c, op, im⟩ = true) : Calls Tryz.prog 37 #[insV ⟨3, u, v, a, b, c, op, im⟩] w (Gives (.tuple #[.int .u32 (encI ⟨3, u, v, a, b, c, op, im⟩), .int .i64 0]) w) := by
  obtain ⟨r, hr⟩ : ∃ r, encI ⟨3, u, v, a, b, c, op, im⟩ = r := ⟨_, rfl⟩
  have he := enc_or3 hg
  rw [hr] at he
  rw [hr, insV_eq]
  have HE := Lib.hid he
  have HG := Lib.hid hg
  have HIM := Lib.hid him
  clear hr hg he him
  go_enter Tryz.func37, Tryz.ntmps37
  go_wp2_with fail
  rw [← insV_eq]
  refine (p_Good _ _ HIM.out).mono ?_
  rintro e w1 ⟨rfl, hB1⟩
  rw [HG.out]
  have hblk := below_block hB1 (by simp) (alloc_block w (.cells #[.int .i64 3, .bool u, .bool v, .int .i64 a, .int .i64 b, .int .i64 c, .int .i64 op, .int .i64 im] 45))
  obtain ⟨q0, q1, q2, q3, q4, q5, q6, q7⟩ := ins_cells (x := ⟨3, u, v, a, b, c, op, im⟩) hblk
  simp only at q0 q1 q2 q3 q4 q5 q6 q7
  have hB2 := bthen (ablow w _) hB1
  clear hblk hB1
  go_wp2_with fail
  go_quiet ((go_at_call 67; exact Calls.quiet_of_same (p_bit _ _ _ (by omega))))
  go_wp2
  go_ret2
  exact ⟨ret_u32 HE.out, bthen hB2 (bdrew _ _ _)⟩
set_option maxRecDepth 100000 in
set_option maxHeartbeats 8000000 in
theorem p_EncN (x : Ins) (w : World) (him : InR x.im) (hg : goodI x = false) : Calls Tryz.prog 37 #[insV x] w (Gives (.tuple #[.int .u32 0, .int .i64 20]) w) := by
  obtain ⟨f, u, v, a, b, c, op, im⟩ := x
  rw [insV_eq]
  have HG := Lib.hid hg
  have HIM := Lib.hid him
  clear hg him
  go_enter Tryz.func37, Tryz.ntmps37
  go_wp2_with fail
  rw [← insV_eq]
  refine (p_Good _ _ HIM.out).mono ?_
  rintro e w1 ⟨rfl, hB1⟩
  rw [HG.out]
  have hB2 := bthen (ablow w _) hB1
  clear hB1
  go_wp2_with fail
  go_ret2
  exact ⟨rfl, hB2⟩
theorem good_form {x : Ins} (h : goodI x = true) : x.form = 0 ∨ x.form = 1 ∨ x.form = 2 ∨ x.form = 3 := by
  rcases Classical.em (x.form = 0 ∨ x.form = 1 ∨ x.form = 2 ∨ x.form = 3) with h0 | h0
  · exact h0
  · exfalso
    have : x.form ≠ 0 ∧ x.form ≠ 1 ∧ x.form ≠ 2 ∧ x.form ≠ 3 := by omega
    simp [goodI, this] at h
theorem p_Encode (x : Ins) (w : World) (him : InR x.im) : Calls Tryz.prog 37 #[insV x] w (Gives (.tuple #[.int .u32 (encW x).1, .int .i64 (encW x).2]) w) := by
  unfold encW
  cases hg : goodI x with
  | false => exact p_EncN x w him hg
  | true =>
    obtain ⟨f, u, v, a, b, c, op, im⟩ := x
    rcases good_form hg with h | h | h | h <;> simp only at h <;> subst h
    · exact p_Enc0 u v a b c op im w him hg
    · exact p_Enc1 u v a b c op im w him hg
    · exact p_Enc2 u v a b c op im w him hg
    · exact p_Enc3 u v a b c op im w him hg
end Go.Proofs.YtjjgjadfnongfaaGreatDoor
