import Derived.Test.YtjjgjadfnongfaaGreatDoorARef1
set_option linter.unusedVariables false
set_option linter.unusedSimpArgs false
namespace Go.Proofs.YtjjgjadfnongfaaGreatDoor
open Go.RowKit Go.Maps Go.MapKept
def inB (n a b : Int) : Bool := decide (a ≤ n) && decide (n ≤ b)
set_option maxRecDepth 100000 in
set_option maxHeartbeats 1600000 in
theorem r_in (n a b : Int) (w : World) : Calls Tryz.prog 68 #[.int .i64 n, .int .i64 a, .int .i64 b] w (Is (.bool (inB n a b)) w) := by
  obtain ⟨r, hr⟩ : ∃ r, inB n a b = r := ⟨_, rfl⟩
  rw [hr]
  have HR := Lib.hid hr
  clear hr
  go_enter Tryz.func68, Tryz.ntmps68
  go_wp2
  all_goals
    go_ret
    refine is_bool ?_
    rw [← HR.out, inB]
    simp_all
    try omega
theorem inB15 (n : Int) : inB n 0 15 = nib n := rfl
set_option maxRecDepth 100000 in
set_option maxHeartbeats 8000000 in
theorem rr_Good0 (u v : Bool) (a b c op im : Int) (w : World) (him : InR im) : Calls Tryz.prog 42 #[insV ⟨0, u, v, a, b, c, op, im⟩] w (Gives (.bool (goodI ⟨0, u, v, a, b, c, op, im⟩)) w) := by
  obtain ⟨r, hr⟩ : ∃ r, goodI ⟨0, u, v, a, b, c, op, im⟩ = r := ⟨_, rfl⟩
  rw [hr, insV_eq]
  have HR := Lib.hid hr
  have HIM := Lib.hid him
  clear hr him
  go_enter Tryz.func42, Tryz.ntmps42
  go_wp2_with (first | (go_at_call 68; refine (r_in _ _ _ _).mono ?_; rintro e w1 ⟨rfl, rfl⟩) | (go_at_call 69; refine (r_Fits20 _ _ HIM.out).mono ?_; rintro e w1 ⟨rfl, rfl⟩))
  all_goals
    go_ret
    refine ⟨ret_bool ?_, by go_grown⟩
    rw [← HR.out]
    simp_all [goodI, uOk, nib, fitsB, inB]
    try omega
    try ac_rfl
set_option maxRecDepth 100000 in
set_option maxHeartbeats 8000000 in
theorem rr_Good1 (u v : Bool) (a b c op im : Int) (w : World) (him : InR im) : Calls Tryz.prog 42 #[insV ⟨1, u, v, a, b, c, op, im⟩] w (Gives (.bool (goodI ⟨1, u, v, a, b, c, op, im⟩)) w) := by
  obtain ⟨r, hr⟩ : ∃ r, goodI ⟨1, u, v, a, b, c, op, im⟩ = r := ⟨_, rfl⟩
  rw [hr, insV_eq]
  have HR := Lib.hid hr
  have HIM := Lib.hid him
  clear hr him
  go_enter Tryz.func42, Tryz.ntmps42
  go_wp2_with (first | (go_at_call 68; refine (r_in _ _ _ _).mono ?_; rintro e w1 ⟨rfl, rfl⟩) | (go_at_call 69; refine (r_Fits20 _ _ HIM.out).mono ?_; rintro e w1 ⟨rfl, rfl⟩))
  all_goals
    go_ret
    refine ⟨ret_bool ?_, by go_grown⟩
    rw [← HR.out]
    simp_all [goodI, uOk, nib, fitsB, inB]
    try omega
    try ac_rfl
set_option maxRecDepth 100000 in
set_option maxHeartbeats 8000000 in
theorem rr_Good2 (u v : Bool) (a b c op im : Int) (w : World) (him : InR im) : Calls Tryz.prog 42 #[insV ⟨2, u, v, a, b, c, op, im⟩] w (Gives (.bool (goodI ⟨2, u, v, a, b, c, op, im⟩)) w) := by
  obtain ⟨r, hr⟩ : ∃ r, goodI ⟨2, u, v, a, b, c, op, im⟩ = r := ⟨_, rfl⟩
  rw [hr, insV_eq]
  have HR := Lib.hid hr
  have HIM := Lib.hid him
  clear hr him
  go_enter Tryz.func42, Tryz.ntmps42
  go_wp2_with (first | (go_at_call 68; refine (r_in _ _ _ _).mono ?_; rintro e w1 ⟨rfl, rfl⟩) | (go_at_call 69; refine (r_Fits20 _ _ HIM.out).mono ?_; rintro e w1 ⟨rfl, rfl⟩))
  all_goals
    go_ret
    refine ⟨ret_bool ?_, by go_grown⟩
    rw [← HR.out]
    simp_all [goodI, uOk, nib, fitsB, inB]
    try omega
    try ac_rfl
set_option maxRecDepth 100000 in
set_option maxHeartbeats 8000000 in
theorem rr_Good3 (u v : Bool) (a b c op im : Int) (w : World) (him : InR im) : Calls Tryz.prog 42 #[insV ⟨3, u, v, a, b, c, op, im⟩] w (Gives (.bool (goodI ⟨3, u, v, a, b, c, op, im⟩)) w) := by
  obtain ⟨r, hr⟩ : ∃ r, goodI ⟨3, u, v, a, b, c, op, im⟩ = r := ⟨_, rfl⟩
  rw [hr, insV_eq]
  have HR := Lib.hid hr
  have HIM := Lib.hid him
  clear hr him
  go_enter Tryz.func42, Tryz.ntmps42
  go_wp2_with (first | (go_at_call 68; refine (r_in _ _ _ _).mono ?_; rintro e w1 ⟨rfl, rfl⟩) | (go_at_call 69; refine (r_Fits24 _ _ HIM.out).mono ?_; rintro e w1 ⟨rfl, rfl⟩))
  all_goals
    go_ret
    refine ⟨ret_bool ?_, by go_grown⟩
    rw [← HR.out]
    simp_all [goodI, uOk, nib, fitsB, inB]
    try omega
    try ac_rfl
set_option maxRecDepth 100000 in
set_option maxHeartbeats 8000000 in
theorem rr_GoodE (f : Int) (u v : Bool) (a b c op im : Int) (w : World) (him : InR im) (h0 : f ≠ 0) (h1 : f ≠ 1) (h2 : f ≠ 2) (h3 : f ≠ 3) : Calls Tryz.prog 42 #[insV ⟨f, u, v, a, b, c, op, im⟩] w (Gives (.bool (goodI ⟨f, u, v, a, b, c, op, im⟩)) w) := by
  obtain ⟨r, hr⟩ : ∃ r, goodI ⟨f, u, v, a, b, c, op, im⟩ = r := ⟨_, rfl⟩
  rw [hr, insV_eq]
  have HR := Lib.hid hr
  have HIM := Lib.hid him
  clear hr him
  have q0 : (f == 0) = false := by rw [beq_eq_false_iff_ne]; exact h0
  have q1 : (f == 1) = false := by rw [beq_eq_false_iff_ne]; exact h1
  have q2 : (f == 2) = false := by rw [beq_eq_false_iff_ne]; exact h2
  have q3 : (f == 3) = false := by rw [beq_eq_false_iff_ne]; exact h3
  have HF : Hid (f ≠ 0 ∧ f ≠ 1 ∧ f ≠ 2 ∧ f ≠ 3) := ⟨h0, h1, h2, h3⟩
  clear h0 h1 h2 h3
  go_enter Tryz.func42, Tryz.ntmps42
  go_wp2_with (first | (go_at_call 68; refine (r_in _ _ _ _).mono ?_; rintro e w1 ⟨rfl, rfl⟩) | (go_at_call 69; refine (r_Fits20 _ _ HIM.out).mono ?_; rintro e w1 ⟨rfl, rfl⟩))
  all_goals
    go_ret
    refine ⟨ret_bool ?_, by go_grown⟩
    rw [← HR.out]
    have hf := HF.out
    simp_all [goodI, uOk, nib, fitsB, inB]
    try omega
    try ac_rfl
theorem rr_Good (x : Ins) (w : World) (him : InR x.im) : Calls Tryz.prog 42 #[insV x] w (Gives (.bool (goodI x)) w) := by
  obtain ⟨f, u, v, a, b, c, op, im⟩ := x
  by_cases h0 : f = 0
  · subst h0; exact rr_Good0 u v a b c op im w him
  · by_cases h1 : f = 1
    · subst h1; exact rr_Good1 u v a b c op im w him
    · by_cases h2 : f = 2
      · subst h2; exact rr_Good2 u v a b c op im w him
      · by_cases h3 : f = 3
        · subst h3; exact rr_Good3 u v a b c op im w him
        · exact rr_GoodE f u v a b c op im w him h0 h1 h2 h3
theorem rr_bit (b : Bool) (w : World) : Calls Tryz.prog 44 #[.bool b] w (Is (.int .u32 (bitN b 1)) w) := by
  cases b <;>
  · go_enter Tryz.func44, Tryz.ntmps44
    go_wp2
    go_ret
    exact is_int (by rfl)
theorem bitN_1 (b : Bool) (n : Int) : bitN b 1 % 2 * n = bitN b n := by cases b <;> simp [bitN]
theorem bitN_rng (b : Bool) : 0 ≤ bitN b 1 ∧ bitN b 1 ≤ 4294967295 := by cases b <;> simp [bitN]
theorem top_steps {F : Int} {u v : Bool} {a : Int} (hF : F = 0 ∨ F = 1073741824 ∨ F = 2147483648 ∨ F = 3221225472) (h0 : 0 ≤ a) (h1 : a ≤ 15) :
    (0 ≤ F + bitN u 536870912 ∧ F + bitN u 536870912 ≤ 4294967295 ∧ F / 536870912 % 2 = 0 ∧ 0 ≤ F ∧ F ≤ 4294967295) ∧
    (0 ≤ F + bitN u 536870912 + bitN v 268435456 ∧ F + bitN u 536870912 + bitN v 268435456 ≤ 4294967295 ∧ (F + bitN u 536870912) / 268435456 % 2 = 0 ∧ (F + bitN u 536870912 + bitN v 268435456) / 16777216 % 16 = 0) := by
  rcases bitN_cases u 536870912 with hu | hu <;> rcases bitN_cases v 268435456 with hv | hv <;> rw [hu, hv] <;> rcases hF with rfl | rfl | rfl | rfl <;> omega
set_option maxRecDepth 100000 in
set_option maxHeartbeats 8000000 in
theorem rr_Enc0 (u v : Bool) (a b c op im : Int) (w : World) (him : InR im) (hg : goodI ⟨0, u, v, a, b, c, op, im⟩ = true) : Calls Tryz.prog 21 #[insV ⟨0, u, v, a, b, c, op, im⟩] w (Gives (.tuple #[.int .u32 (encI ⟨0, u, v, a, b, c, op, im⟩), .int .i64 0]) w) := by
  obtain ⟨⟨a0, a1⟩, ⟨b0, b1⟩, ⟨c0, c1⟩, o0, o1⟩ := good_nibs hg
  simp only at a0 a1 b0 b1 c0 c1 o0 o1
  obtain ⟨⟨s0, s1, s2, s3, s4⟩, s5, s6, s7, s8⟩ := top_steps (F := 0) (u := u) (v := v) (by omega) a0 a1
  obtain ⟨t0, t1, t2⟩ := topI_facts (F := 0) (u := u) (v := v) (by omega) a0 a1
  have hx : im = 0 := by
    simp [goodI] at hg
    omega
  obtain ⟨r, hr⟩ : ∃ r, encI ⟨0, u, v, a, b, c, op, im⟩ = r := ⟨_, rfl⟩
  have he : topI 0 u v a + b * 1048576 + op * 65536 + c = r := by
    rw [← hr]
    simp [encI, topI, hx]
    try omega
  rw [hr, insV_eq]
  have HE := Lib.hid he
  have HG := Lib.hid hg
  have HIM := Lib.hid him
  have HX := Lib.hid hx
  obtain ⟨S1, hS1⟩ : ∃ t, 0 + bitN u 536870912 = t := ⟨_, rfl⟩
  obtain ⟨S2, hS2⟩ : ∃ t, S1 + bitN v 268435456 = t := ⟨_, rfl⟩
  obtain ⟨T, hT⟩ : ∃ t, topI 0 u v a = t := ⟨_, rfl⟩
  rw [hT] at t0 t1 t2
  have hT2 : S2 + a % 16 * 16777216 = T := by rw [← hT, topI, hS1, hS2]; omega
  rw [hS1, hS2] at s5 s6 s8
  rw [hS1] at s0 s1 s7
  have HS1 := Lib.hid hS1
  have HS2 := Lib.hid hS2
  have HT := Lib.hid hT
  have HT2 := Lib.hid hT2
  have HB := bitN_rng
  clear hr hg he him hx hS1 hS2 hT hT2
  go_enter Tryz.func21, Tryz.ntmps21
  go_wp2_with fail
  rw [← insV_eq]
  refine (rr_Good _ _ HIM.out).mono ?_
  rintro e w1 ⟨rfl, hB1⟩
  rw [HG.out]
  have hblk := below_block hB1 (by simp) (alloc_block w (.cells #[.int .i64 0, .bool u, .bool v, .int .i64 a, .int .i64 b, .int .i64 c, .int .i64 op, .int .i64 im] 45))
  obtain ⟨q0, q1, q2, q3, q4, q5, q6, q7⟩ := ins_cells (x := ⟨0, u, v, a, b, c, op, im⟩) hblk
  simp only at q0 q1 q2 q3 q4 q5 q6 q7
  have hB2 := bthen (ablow w _) hB1
  clear hblk hB1
  go_wp2_with fail
  refine (r_Put_30_2 0 0 0 _ (by omega) (by omega) (by omega) (by omega) (by omega) (by omega)).mono ?_
  rintro e w2 ⟨rfl, n1, rfl⟩
  go_wp2_with (go_at_call 44; refine (rr_bit _ _).mono ?_; rintro e w3 ⟨rfl, rfl⟩)
  refine (r_Put_29_1 0 (bitN u 1) S1 _ s3 s4 s2 (HB _).1 (HB _).2 (by rw [bitN_1]; exact HS1.out)).mono ?_
  rintro e w2 ⟨rfl, n2, rfl⟩
  go_wp2_with (go_at_call 44; refine (rr_bit _ _).mono ?_; rintro e w3 ⟨rfl, rfl⟩)
  refine (r_Put_28_1 S1 (bitN v 1) S2 _ s0 s1 s7 (HB _).1 (HB _).2 (by rw [bitN_1]; exact HS2.out)).mono ?_
  rintro e w2 ⟨rfl, n3, rfl⟩
  go_wp2_with fail
  refine (r_Put_24_4 S2 _ T _ s5 s6 s8 (by omega) (by omega) (by have := HT2.out; omega)).mono ?_
  rintro e w2 ⟨rfl, n4, rfl⟩
  go_wp2_with fail
  obtain ⟨V1, hV1⟩ : ∃ t, T + b * 1048576 = t := ⟨_, rfl⟩
  have hV1a : V1 % 1048576 = 0 ∧ 0 ≤ V1 ∧ V1 ≤ 4293918720 := by omega
  obtain ⟨g0, g1, g2⟩ := hV1a
  have HV1 := Lib.hid hV1
  refine (r_Put_20_4 T _ V1 _ (by omega) (by omega) (by omega) (by omega) (by omega) (by omega)).mono ?_
  rintro e w2 ⟨rfl, n5, rfl⟩
  clear hV1
  go_wp2_with fail
  obtain ⟨V2, hV2⟩ : ∃ t, V1 + op * 65536 = t := ⟨_, rfl⟩
  have hV2a : V2 % 65536 = 0 ∧ 0 ≤ V2 ∧ V2 ≤ 4294901760 := by omega
  obtain ⟨g3, g4, g5⟩ := hV2a
  have HV2 := Lib.hid hV2
  refine (r_Put_16_4 V1 _ V2 _ (by omega) (by omega) (by omega) (by omega) (by omega) (by omega)).mono ?_
  rintro e w2 ⟨rfl, n6, rfl⟩
  clear hV2
  go_wp2_with fail
  refine (r_Put_0_4 V2 _ r _ (by omega) (by omega) (by omega) (by omega) (by omega) (by have := HE.out; have := HT.out; have := HX.out; have := HV1.out; have := HV2.out; omega)).mono ?_
  rintro e w2 ⟨rfl, n7, rfl⟩
  go_wp2_with fail
  go_ret2
  exact ⟨rfl, bthen hB2 (bdrew _ _ _)⟩
set_option maxRecDepth 100000 in
set_option maxHeartbeats 8000000 in
theorem rr_Enc1 (u v : Bool) (a b c op im : Int) (w : World) (him : InR im) (hg : goodI ⟨1, u, v, a, b, c, op, im⟩ = true) : Calls Tryz.prog 21 #[insV ⟨1, u, v, a, b, c, op, im⟩] w (Gives (.tuple #[.int .u32 (encI ⟨1, u, v, a, b, c, op, im⟩), .int .i64 0]) w) := by
  obtain ⟨⟨a0, a1⟩, ⟨b0, b1⟩, ⟨c0, c1⟩, o0, o1⟩ := good_nibs hg
  simp only at a0 a1 b0 b1 c0 c1 o0 o1
  obtain ⟨⟨s0, s1, s2, s3, s4⟩, s5, s6, s7, s8⟩ := top_steps (F := 1073741824) (u := u) (v := v) (by omega) a0 a1
  obtain ⟨t0, t1, t2⟩ := topI_facts (F := 1073741824) (u := u) (v := v) (by omega) a0 a1
  have hx : c = 0 := by
    simp [goodI] at hg
    omega
  obtain ⟨r, hr⟩ : ∃ r, encI ⟨1, u, v, a, b, c, op, im⟩ = r := ⟨_, rfl⟩
  have he : topI 1073741824 u v a + b * 1048576 + op * 65536 + im = r := by
    rw [← hr]
    simp [encI, topI, hx]
    try omega
  rw [hr, insV_eq]
  have HE := Lib.hid he
  have HG := Lib.hid hg
  have HIM := Lib.hid him
  have HX := Lib.hid hx
  obtain ⟨S1, hS1⟩ : ∃ t, 1073741824 + bitN u 536870912 = t := ⟨_, rfl⟩
  obtain ⟨S2, hS2⟩ : ∃ t, S1 + bitN v 268435456 = t := ⟨_, rfl⟩
  obtain ⟨T, hT⟩ : ∃ t, topI 1073741824 u v a = t := ⟨_, rfl⟩
  rw [hT] at t0 t1 t2
  have hT2 : S2 + a % 16 * 16777216 = T := by rw [← hT, topI, hS1, hS2]; omega
  rw [hS1, hS2] at s5 s6 s8
  rw [hS1] at s0 s1 s7
  have HS1 := Lib.hid hS1
  have HS2 := Lib.hid hS2
  have HT := Lib.hid hT
  have HT2 := Lib.hid hT2
  have HB := bitN_rng
  clear hr hg he him hx hS1 hS2 hT hT2
  go_enter Tryz.func21, Tryz.ntmps21
  go_wp2_with fail
  rw [← insV_eq]
  refine (rr_Good _ _ HIM.out).mono ?_
  rintro e w1 ⟨rfl, hB1⟩
  rw [HG.out]
  have hblk := below_block hB1 (by simp) (alloc_block w (.cells #[.int .i64 1, .bool u, .bool v, .int .i64 a, .int .i64 b, .int .i64 c, .int .i64 op, .int .i64 im] 45))
  obtain ⟨q0, q1, q2, q3, q4, q5, q6, q7⟩ := ins_cells (x := ⟨1, u, v, a, b, c, op, im⟩) hblk
  simp only at q0 q1 q2 q3 q4 q5 q6 q7
  have hB2 := bthen (ablow w _) hB1
  clear hblk hB1
  go_wp2_with fail
  refine (r_Put_30_2 0 1 1073741824 _ (by omega) (by omega) (by omega) (by omega) (by omega) (by omega)).mono ?_
  rintro e w2 ⟨rfl, n1, rfl⟩
  go_wp2_with (go_at_call 44; refine (rr_bit _ _).mono ?_; rintro e w3 ⟨rfl, rfl⟩)
  refine (r_Put_29_1 1073741824 (bitN u 1) S1 _ s3 s4 s2 (HB _).1 (HB _).2 (by rw [bitN_1]; exact HS1.out)).mono ?_
  rintro e w2 ⟨rfl, n2, rfl⟩
  go_wp2_with (go_at_call 44; refine (rr_bit _ _).mono ?_; rintro e w3 ⟨rfl, rfl⟩)
  refine (r_Put_28_1 S1 (bitN v 1) S2 _ s0 s1 s7 (HB _).1 (HB _).2 (by rw [bitN_1]; exact HS2.out)).mono ?_
  rintro e w2 ⟨rfl, n3, rfl⟩
  go_wp2_with fail
  refine (r_Put_24_4 S2 _ T _ s5 s6 s8 (by omega) (by omega) (by have := HT2.out; omega)).mono ?_
  rintro e w2 ⟨rfl, n4, rfl⟩
  go_wp2_with fail
  obtain ⟨V1, hV1⟩ : ∃ t, T + b * 1048576 = t := ⟨_, rfl⟩
  have hV1a : V1 % 1048576 = 0 ∧ 0 ≤ V1 ∧ V1 ≤ 4293918720 := by omega
  obtain ⟨g0, g1, g2⟩ := hV1a
  have HV1 := Lib.hid hV1
  refine (r_Put_20_4 T _ V1 _ (by omega) (by omega) (by omega) (by omega) (by omega) (by omega)).mono ?_
  rintro e w2 ⟨rfl, n5, rfl⟩
  clear hV1
  go_wp2_with fail
  obtain ⟨V2, hV2⟩ : ∃ t, V1 + op * 65536 = t := ⟨_, rfl⟩
  have hV2a : V2 % 65536 = 0 ∧ 0 ≤ V2 ∧ V2 ≤ 4294901760 := by omega
  obtain ⟨g3, g4, g5⟩ := hV2a
  have HV2 := Lib.hid hV2
  refine (r_Put_16_4 V1 _ V2 _ (by omega) (by omega) (by omega) (by omega) (by omega) (by omega)).mono ?_
  rintro e w2 ⟨rfl, n6, rfl⟩
  clear hV2
  go_wp2_with fail
  have hi : 0 ≤ im ∧ im ≤ 65535 := by have := HG.out; simp [goodI] at this; omega
  refine (r_Put_0_16 V2 _ r _ (by omega) (by omega) (by omega) (by omega) (by omega) (by have := HE.out; have := HT.out; have := HX.out; have := HV1.out; have := HV2.out; omega)).mono ?_
  rintro e w2 ⟨rfl, n7, rfl⟩
  go_wp2_with fail
  go_ret2
  exact ⟨rfl, bthen hB2 (bdrew _ _ _)⟩
set_option maxRecDepth 100000 in
set_option maxHeartbeats 8000000 in
theorem rr_Enc2 (u v : Bool) (a b c op im : Int) (w : World) (him : InR im) (hg : goodI ⟨2, u, v, a, b, c, op, im⟩ = true) : Calls Tryz.prog 21 #[insV ⟨2, u, v, a, b, c, op, im⟩] w (Gives (.tuple #[.int .u32 (encI ⟨2, u, v, a, b, c, op, im⟩), .int .i64 0]) w) := by
  obtain ⟨⟨a0, a1⟩, ⟨b0, b1⟩, ⟨c0, c1⟩, o0, o1⟩ := good_nibs hg
  simp only at a0 a1 b0 b1 c0 c1 o0 o1
  obtain ⟨⟨s0, s1, s2, s3, s4⟩, s5, s6, s7, s8⟩ := top_steps (F := 2147483648) (u := u) (v := v) (by omega) a0 a1
  obtain ⟨t0, t1, t2⟩ := topI_facts (F := 2147483648) (u := u) (v := v) (by omega) a0 a1
  have hx : c = 0 ∧ op = 0 := by
    simp [goodI] at hg
    omega
  obtain ⟨r, hr⟩ : ∃ r, encI ⟨2, u, v, a, b, c, op, im⟩ = r := ⟨_, rfl⟩
  have he : topI 2147483648 u v a + b * 1048576 + im % 1048576 = r := by
    rw [← hr]
    simp [encI, topI, hx]
    try omega
  rw [hr, insV_eq]
  have HE := Lib.hid he
  have HG := Lib.hid hg
  have HIM := Lib.hid him
  have HX := Lib.hid hx
  obtain ⟨S1, hS1⟩ : ∃ t, 2147483648 + bitN u 536870912 = t := ⟨_, rfl⟩
  obtain ⟨S2, hS2⟩ : ∃ t, S1 + bitN v 268435456 = t := ⟨_, rfl⟩
  obtain ⟨T, hT⟩ : ∃ t, topI 2147483648 u v a = t := ⟨_, rfl⟩
  rw [hT] at t0 t1 t2
  have hT2 : S2 + a % 16 * 16777216 = T := by rw [← hT, topI, hS1, hS2]; omega
  rw [hS1, hS2] at s5 s6 s8
  rw [hS1] at s0 s1 s7
  have HS1 := Lib.hid hS1
  have HS2 := Lib.hid hS2
  have HT := Lib.hid hT
  have HT2 := Lib.hid hT2
  have HB := bitN_rng
  clear hr hg he him hx hS1 hS2 hT hT2
  go_enter Tryz.func21, Tryz.ntmps21
  go_wp2_with fail
  rw [← insV_eq]
  refine (rr_Good _ _ HIM.out).mono ?_
  rintro e w1 ⟨rfl, hB1⟩
  rw [HG.out]
  have hblk := below_block hB1 (by simp) (alloc_block w (.cells #[.int .i64 2, .bool u, .bool v, .int .i64 a, .int .i64 b, .int .i64 c, .int .i64 op, .int .i64 im] 45))
  obtain ⟨q0, q1, q2, q3, q4, q5, q6, q7⟩ := ins_cells (x := ⟨2, u, v, a, b, c, op, im⟩) hblk
  simp only at q0 q1 q2 q3 q4 q5 q6 q7
  have hB2 := bthen (ablow w _) hB1
  clear hblk hB1
  go_wp2_with fail
  refine (r_Put_30_2 0 2 2147483648 _ (by omega) (by omega) (by omega) (by omega) (by omega) (by omega)).mono ?_
  rintro e w2 ⟨rfl, n1, rfl⟩
  go_wp2_with (go_at_call 44; refine (rr_bit _ _).mono ?_; rintro e w3 ⟨rfl, rfl⟩)
  refine (r_Put_29_1 2147483648 (bitN u 1) S1 _ s3 s4 s2 (HB _).1 (HB _).2 (by rw [bitN_1]; exact HS1.out)).mono ?_
  rintro e w2 ⟨rfl, n2, rfl⟩
  go_wp2_with (go_at_call 44; refine (rr_bit _ _).mono ?_; rintro e w3 ⟨rfl, rfl⟩)
  refine (r_Put_28_1 S1 (bitN v 1) S2 _ s0 s1 s7 (HB _).1 (HB _).2 (by rw [bitN_1]; exact HS2.out)).mono ?_
  rintro e w2 ⟨rfl, n3, rfl⟩
  go_wp2_with fail
  refine (r_Put_24_4 S2 _ T _ s5 s6 s8 (by omega) (by omega) (by have := HT2.out; omega)).mono ?_
  rintro e w2 ⟨rfl, n4, rfl⟩
  go_wp2_with fail
  obtain ⟨V1, hV1⟩ : ∃ t, T + b * 1048576 = t := ⟨_, rfl⟩
  have hV1a : V1 % 1048576 = 0 ∧ 0 ≤ V1 ∧ V1 ≤ 4293918720 := by omega
  obtain ⟨g0, g1, g2⟩ := hV1a
  have HV1 := Lib.hid hV1
  refine (r_Put_20_4 T _ V1 _ (by omega) (by omega) (by omega) (by omega) (by omega) (by omega)).mono ?_
  rintro e w2 ⟨rfl, n5, rfl⟩
  clear hV1
  go_wp2_with fail
  refine (r_Word32 _ _ HIM.out).mono ?_
  rintro e w2 ⟨rfl, rfl⟩
  go_wp2_with fail
  refine (r_Put_0_20 V1 _ r _ (by omega) (by omega) (by omega) (by omega) (by omega) (by have := HE.out; have := HT.out; have := HX.out; have := HV1.out; omega)).mono ?_
  rintro e w2 ⟨rfl, n7, rfl⟩
  go_wp2_with fail
  go_ret2
  exact ⟨rfl, bthen hB2 (bdrew _ _ _)⟩
set_option maxRecDepth 100000 in
set_option maxHeartbeats 8000000 in
theorem rr_Enc3t (v : Bool) (a b c op im : Int) (w : World) (him : InR im) (hg : goodI ⟨3, true, v, a, b, c, op, im⟩ = true) : Calls Tryz.prog 21 #[insV ⟨3, true, v, a, b, c, op, im⟩] w (Gives (.tuple #[.int .u32 (encI ⟨3, true, v, a, b, c, op, im⟩), .int .i64 0]) w) := by
  obtain ⟨⟨a0, a1⟩, ⟨b0, b1⟩, ⟨c0, c1⟩, o0, o1⟩ := good_nibs hg
  simp only at a0 a1 b0 b1 c0 c1 o0 o1
  obtain ⟨⟨s0, s1, s2, s3, s4⟩, s5, s6, s7, s8⟩ := top_steps (F := 3221225472) (u := true) (v := v) (by omega) a0 a1
  obtain ⟨t0, t1, t2⟩ := topI_facts (F := 3221225472) (u := true) (v := v) (by omega) a0 a1
  have hx : b = 0 ∧ op = 0 ∧ (c = 0) := by
    simp [goodI] at hg
    omega
  obtain ⟨r, hr⟩ : ∃ r, encI ⟨3, true, v, a, b, c, op, im⟩ = r := ⟨_, rfl⟩
  have he : topI 3221225472 true v a + im % 16777216 = r := by
    rw [← hr]
    simp [encI, topI, hx]
    try omega
  rw [hr, insV_eq]
  have HE := Lib.hid he
  have HG := Lib.hid hg
  have HIM := Lib.hid him
  have HX := Lib.hid hx
  obtain ⟨S1, hS1⟩ : ∃ t, 3221225472 + bitN true 536870912 = t := ⟨_, rfl⟩
  obtain ⟨S2, hS2⟩ : ∃ t, S1 + bitN v 268435456 = t := ⟨_, rfl⟩
  obtain ⟨T, hT⟩ : ∃ t, topI 3221225472 true v a = t := ⟨_, rfl⟩
  rw [hT] at t0 t1 t2
  have hT2 : S2 + a % 16 * 16777216 = T := by rw [← hT, topI, hS1, hS2]; omega
  rw [hS1, hS2] at s5 s6 s8
  rw [hS1] at s0 s1 s7
  have HS1 := Lib.hid hS1
  have HS2 := Lib.hid hS2
  have HT := Lib.hid hT
  have HT2 := Lib.hid hT2
  have HB := bitN_rng
  clear hr hg he him hx hS1 hS2 hT hT2
  go_enter Tryz.func21, Tryz.ntmps21
  go_wp2_with fail
  rw [← insV_eq]
  refine (rr_Good _ _ HIM.out).mono ?_
  rintro e w1 ⟨rfl, hB1⟩
  rw [HG.out]
  have hblk := below_block hB1 (by simp) (alloc_block w (.cells #[.int .i64 3, .bool true, .bool v, .int .i64 a, .int .i64 b, .int .i64 c, .int .i64 op, .int .i64 im] 45))
  obtain ⟨q0, q1, q2, q3, q4, q5, q6, q7⟩ := ins_cells (x := ⟨3, true, v, a, b, c, op, im⟩) hblk
  simp only at q0 q1 q2 q3 q4 q5 q6 q7
  have hB2 := bthen (ablow w _) hB1
  clear hblk hB1
  go_wp2_with fail
  refine (r_Put_30_2 0 3 3221225472 _ (by omega) (by omega) (by omega) (by omega) (by omega) (by omega)).mono ?_
  rintro e w2 ⟨rfl, n1, rfl⟩
  go_wp2_with (go_at_call 44; refine (rr_bit _ _).mono ?_; rintro e w3 ⟨rfl, rfl⟩)
  refine (r_Put_29_1 3221225472 (bitN true 1) S1 _ s3 s4 s2 (HB _).1 (HB _).2 (by rw [bitN_1]; exact HS1.out)).mono ?_
  rintro e w2 ⟨rfl, n2, rfl⟩
  go_wp2_with (go_at_call 44; refine (rr_bit _ _).mono ?_; rintro e w3 ⟨rfl, rfl⟩)
  refine (r_Put_28_1 S1 (bitN v 1) S2 _ s0 s1 s7 (HB _).1 (HB _).2 (by rw [bitN_1]; exact HS2.out)).mono ?_
  rintro e w2 ⟨rfl, n3, rfl⟩
  go_wp2_with fail
  refine (r_Put_24_4 S2 _ T _ s5 s6 s8 (by omega) (by omega) (by have := HT2.out; omega)).mono ?_
  rintro e w2 ⟨rfl, n4, rfl⟩
  go_wp2_with fail
  refine (r_Word32 _ _ HIM.out).mono ?_
  rintro e w2 ⟨rfl, rfl⟩
  go_wp2_with fail
  refine (r_Put_0_24 T _ r _ (by omega) (by omega) (by omega) (by omega) (by omega) (by have := HE.out; have := HT.out; have := HX.out; omega)).mono ?_
  rintro e w2 ⟨rfl, n7, rfl⟩
  go_wp2_with fail
  go_ret2
  exact ⟨rfl, bthen hB2 (bdrew _ _ _)⟩
set_option maxRecDepth 100000 in
set_option maxHeartbeats 8000000 in
theorem rr_Enc3f (v : Bool) (a b c op im : Int) (w : World) (him : InR im) (hg : goodI ⟨3, false, v, a, b, c, op, im⟩ = true) : Calls Tryz.prog 21 #[insV ⟨3, false, v, a, b, c, op, im⟩] w (Gives (.tuple #[.int .u32 (encI ⟨3, false, v, a, b, c, op, im⟩), .int .i64 0]) w) := by
  obtain ⟨⟨a0, a1⟩, ⟨b0, b1⟩, ⟨c0, c1⟩, o0, o1⟩ := good_nibs hg
  simp only at a0 a1 b0 b1 c0 c1 o0 o1
  obtain ⟨⟨s0, s1, s2, s3, s4⟩, s5, s6, s7, s8⟩ := top_steps (F := 3221225472) (u := false) (v := v) (by omega) a0 a1
  obtain ⟨t0, t1, t2⟩ := topI_facts (F := 3221225472) (u := false) (v := v) (by omega) a0 a1
  have hx : b = 0 ∧ op = 0 ∧ im = 0 := by
    simp [goodI] at hg
    omega
  obtain ⟨r, hr⟩ : ∃ r, encI ⟨3, false, v, a, b, c, op, im⟩ = r := ⟨_, rfl⟩
  have he : topI 3221225472 false v a + c = r := by
    rw [← hr]
    simp [encI, topI, hx]
    try omega
  rw [hr, insV_eq]
  have HE := Lib.hid he
  have HG := Lib.hid hg
  have HIM := Lib.hid him
  have HX := Lib.hid hx
  obtain ⟨S1, hS1⟩ : ∃ t, 3221225472 + bitN false 536870912 = t := ⟨_, rfl⟩
  obtain ⟨S2, hS2⟩ : ∃ t, S1 + bitN v 268435456 = t := ⟨_, rfl⟩
  obtain ⟨T, hT⟩ : ∃ t, topI 3221225472 false v a = t := ⟨_, rfl⟩
  rw [hT] at t0 t1 t2
  have hT2 : S2 + a % 16 * 16777216 = T := by rw [← hT, topI, hS1, hS2]; omega
  rw [hS1, hS2] at s5 s6 s8
  rw [hS1] at s0 s1 s7
  have HS1 := Lib.hid hS1
  have HS2 := Lib.hid hS2
  have HT := Lib.hid hT
  have HT2 := Lib.hid hT2
  have HB := bitN_rng
  clear hr hg he him hx hS1 hS2 hT hT2
  go_enter Tryz.func21, Tryz.ntmps21
  go_wp2_with fail
  rw [← insV_eq]
  refine (rr_Good _ _ HIM.out).mono ?_
  rintro e w1 ⟨rfl, hB1⟩
  rw [HG.out]
  have hblk := below_block hB1 (by simp) (alloc_block w (.cells #[.int .i64 3, .bool false, .bool v, .int .i64 a, .int .i64 b, .int .i64 c, .int .i64 op, .int .i64 im] 45))
  obtain ⟨q0, q1, q2, q3, q4, q5, q6, q7⟩ := ins_cells (x := ⟨3, false, v, a, b, c, op, im⟩) hblk
  simp only at q0 q1 q2 q3 q4 q5 q6 q7
  have hB2 := bthen (ablow w _) hB1
  clear hblk hB1
  go_wp2_with fail
  refine (r_Put_30_2 0 3 3221225472 _ (by omega) (by omega) (by omega) (by omega) (by omega) (by omega)).mono ?_
  rintro e w2 ⟨rfl, n1, rfl⟩
  go_wp2_with (go_at_call 44; refine (rr_bit _ _).mono ?_; rintro e w3 ⟨rfl, rfl⟩)
  refine (r_Put_29_1 3221225472 (bitN false 1) S1 _ s3 s4 s2 (HB _).1 (HB _).2 (by rw [bitN_1]; exact HS1.out)).mono ?_
  rintro e w2 ⟨rfl, n2, rfl⟩
  go_wp2_with (go_at_call 44; refine (rr_bit _ _).mono ?_; rintro e w3 ⟨rfl, rfl⟩)
  refine (r_Put_28_1 S1 (bitN v 1) S2 _ s0 s1 s7 (HB _).1 (HB _).2 (by rw [bitN_1]; exact HS2.out)).mono ?_
  rintro e w2 ⟨rfl, n3, rfl⟩
  go_wp2_with fail
  refine (r_Put_24_4 S2 _ T _ s5 s6 s8 (by omega) (by omega) (by have := HT2.out; omega)).mono ?_
  rintro e w2 ⟨rfl, n4, rfl⟩
  go_wp2_with fail
  refine (r_Put_0_4 T _ r _ (by omega) (by omega) (by omega) (by omega) (by omega) (by have := HE.out; have := HT.out; have := HX.out; omega)).mono ?_
  rintro e w2 ⟨rfl, n7, rfl⟩
  go_wp2_with fail
  go_ret2
  exact ⟨rfl, bthen hB2 (bdrew _ _ _)⟩
set_option maxRecDepth 100000 in
set_option maxHeartbeats 8000000 in
theorem rr_EncN (x : Ins) (w : World) (him : InR x.im) (hg : goodI x = false) : Calls Tryz.prog 21 #[insV x] w (Gives (.tuple #[.int .u32 0, .int .i64 20]) w) := by
  obtain ⟨f, u, v, a, b, c, op, im⟩ := x
  rw [insV_eq]
  have HG := Lib.hid hg
  have HIM := Lib.hid him
  clear hg him
  go_enter Tryz.func21, Tryz.ntmps21
  go_wp2_with fail
  rw [← insV_eq]
  refine (rr_Good _ _ HIM.out).mono ?_
  rintro e w1 ⟨rfl, hB1⟩
  rw [HG.out]
  have hB2 := bthen (ablow w _) hB1
  clear hB1
  go_wp2_with fail
  go_ret2
  exact ⟨rfl, hB2⟩
theorem rr_Encode (x : Ins) (w : World) (him : InR x.im) : Calls Tryz.prog 21 #[insV x] w (Gives (.tuple #[.int .u32 (encW x).1, .int .i64 (encW x).2]) w) := by
  unfold encW
  cases hg : goodI x with
  | false => exact rr_EncN x w him hg
  | true =>
    obtain ⟨f, u, v, a, b, c, op, im⟩ := x
    rcases good_form hg with h | h | h | h <;> simp only at h <;> subst h
    · exact rr_Enc0 u v a b c op im w him hg
    · exact rr_Enc1 u v a b c op im w him hg
    · exact rr_Enc2 u v a b c op im w him hg
    · cases u
      · exact rr_Enc3f v a b c op im w him hg
      · exact rr_Enc3t v a b c op im w him hg
end Go.Proofs.YtjjgjadfnongfaaGreatDoor
