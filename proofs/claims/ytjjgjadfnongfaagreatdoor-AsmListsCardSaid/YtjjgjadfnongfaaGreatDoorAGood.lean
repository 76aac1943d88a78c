import Derived.Test.YtjjgjadfnongfaaGreatDoorARisc
set_option linter.unusedVariables false
set_option linter.unusedSimpArgs false
namespace Go.Proofs.YtjjgjadfnongfaaGreatDoor
open Go.RowKit Go.Maps Go.MapKept
def halfB (v n : Int) : Bool := if n = 4 then nib v else (decide (0 ≤ v) && decide (v ≤ 65535))
theorem p_half (v n : Int) (w : World) (hn : n = 4 ∨ n = 16) : Calls Tryz.prog 91 #[.int .i64 v, .int .i64 n] w (Is (.bool (halfB v n)) w) := by
  rcases hn with rfl | rfl
  · exact p_half4 v w
  · exact p_half16 v w
def fitsB (v n : Int) : Bool := if n = 20 then (decide (-524288 ≤ v) && decide (v < 524288)) else (decide (-8388608 ≤ v) && decide (v < 8388608))
theorem p_Fits (v n : Int) (w : World) (h : InR v) (hn : n = 20 ∨ n = 24) : Calls Tryz.prog 92 #[.int .i64 v, .int .i64 n] w (Is (.bool (fitsB v n)) w) := by
  rcases hn with rfl | rfl
  · exact p_Fits20 v w h
  · exact p_Fits24 v w h
set_option maxRecDepth 100000 in
set_option maxHeartbeats 8000000 in
theorem p_Good0 (u v : Bool) (a b c op im : Int) (w : World) : Calls Tryz.prog 66 #[insV ⟨0, u, v, a, b, c, op, im⟩] w (Gives (.bool (goodI ⟨0, u, v, a, b, c, op, im⟩)) w) := by
  obtain ⟨r, hr⟩ : ∃ r, goodI ⟨0, u, v, a, b, c, op, im⟩ = r := ⟨_, rfl⟩
  rw [hr, insV_eq]
  have HR := Lib.hid hr
  clear hr
  obtain ⟨na, hna⟩ : ∃ r, halfB a 4 = r := ⟨_, rfl⟩
  have HNA := Lib.hid hna
  go_enter Tryz.func66, Tryz.ntmps66
  go_wp2_with fail
  refine (p_half a 4 _ (by omega)).mono ?_
  rintro e w1 ⟨rfl, rfl⟩
  rw [hna]
  clear hna
  go_wp2_with fail
  go_region
  cases na with
  | false =>
    go_wp2
    all_goals
      go_ret
      have hna := HNA.out
      refine ⟨ret_bool ?_, by go_grown⟩
      rw [← HR.out]
      simp_all [goodI, halfB]
  | true =>
    have heq := eqIns
    have hgd := guardIns
    go_wp2_with (go_at_call 91; refine (p_half _ _ _ (by omega)).mono ?_; rintro e w1 ⟨rfl, rfl⟩)
    all_goals
      go_ret
      have hna := HNA.out
      clear heq hgd
      refine ⟨ret_bool ?_, by go_grown⟩
      rw [← HR.out]
      simp_all [goodI, uOk, halfB, fitsB]
      try omega
      try ac_rfl
set_option maxRecDepth 100000 in
set_option maxHeartbeats 8000000 in
theorem p_Good1 (u v : Bool) (a b c op im : Int) (w : World) : Calls Tryz.prog 66 #[insV ⟨1, u, v, a, b, c, op, im⟩] w (Gives (.bool (goodI ⟨1, u, v, a, b, c, op, im⟩)) w) := by
  obtain ⟨r, hr⟩ : ∃ r, goodI ⟨1, u, v, a, b, c, op, im⟩ = r := ⟨_, rfl⟩
  rw [hr, insV_eq]
  have HR := Lib.hid hr
  clear hr
  obtain ⟨na, hna⟩ : ∃ r, halfB a 4 = r := ⟨_, rfl⟩
  have HNA := Lib.hid hna
  go_enter Tryz.func66, Tryz.ntmps66
  go_wp2_with fail
  refine (p_half a 4 _ (by omega)).mono ?_
  rintro e w1 ⟨rfl, rfl⟩
  rw [hna]
  clear hna
  go_wp2_with fail
  go_region
  cases na with
  | false =>
    go_wp2
    all_goals
      go_ret
      have hna := HNA.out
      refine ⟨ret_bool ?_, by go_grown⟩
      rw [← HR.out]
      simp_all [goodI, halfB]
  | true =>
    have heq := eqIns
    have hgd := guardIns
    go_wp2_with (go_at_call 91; refine (p_half _ _ _ (by omega)).mono ?_; rintro e w1 ⟨rfl, rfl⟩)
    all_goals
      go_ret
      have hna := HNA.out
      clear heq hgd
      refine ⟨ret_bool ?_, by go_grown⟩
      rw [← HR.out]
      simp_all [goodI, uOk, halfB, fitsB]
      try omega
      try ac_rfl
set_option maxRecDepth 100000 in
set_option maxHeartbeats 8000000 in
theorem p_Good2 (u v : Bool) (a b c op im : Int) (w : World) (him : InR im) : Calls Tryz.prog 66 #[insV ⟨2, u, v, a, b, c, op, im⟩] w (Gives (.bool (goodI ⟨2, u, v, a, b, c, op, im⟩)) w) := by
  obtain ⟨r, hr⟩ : ∃ r, goodI ⟨2, u, v, a, b, c, op, im⟩ = r := ⟨_, rfl⟩
  rw [hr, insV_eq]
  have HR := Lib.hid hr
  clear hr
  obtain ⟨na, hna⟩ : ∃ r, halfB a 4 = r := ⟨_, rfl⟩
  have HNA := Lib.hid hna
  have HIM := Lib.hid him
  clear him
  go_enter Tryz.func66, Tryz.ntmps66
  go_wp2_with fail
  refine (p_half a 4 _ (by omega)).mono ?_
  rintro e w1 ⟨rfl, rfl⟩
  rw [hna]
  clear hna
  go_wp2_with fail
  go_region
  cases na with
  | false =>
    go_wp2
    all_goals
      go_ret
      have hna := HNA.out
      refine ⟨ret_bool ?_, by go_grown⟩
      rw [← HR.out]
      simp_all [goodI, halfB]
  | true =>
    have heq := eqIns
    have hgd := guardIns
    go_wp2_with (first | (go_at_call 91; refine (p_half _ _ _ (by omega)).mono ?_; rintro e w1 ⟨rfl, rfl⟩) | (go_at_call 92; refine (p_Fits _ _ _ HIM.out (by omega)).mono ?_; rintro e w1 ⟨rfl, rfl⟩))
    all_goals
      go_ret
      have hna := HNA.out
      clear heq hgd
      refine ⟨ret_bool ?_, by go_grown⟩
      rw [← HR.out]
      simp_all [goodI, uOk, halfB, fitsB]
      try omega
      try ac_rfl
set_option maxRecDepth 100000 in
set_option maxHeartbeats 8000000 in
theorem p_Good3 (u v : Bool) (a b c op im : Int) (w : World) (him : InR im) : Calls Tryz.prog 66 #[insV ⟨3, u, v, a, b, c, op, im⟩] w (Gives (.bool (goodI ⟨3, u, v, a, b, c, op, im⟩)) w) := by
  obtain ⟨r, hr⟩ : ∃ r, goodI ⟨3, u, v, a, b, c, op, im⟩ = r := ⟨_, rfl⟩
  rw [hr, insV_eq]
  have HR := Lib.hid hr
  clear hr
  obtain ⟨na, hna⟩ : ∃ r, halfB a 4 = r := ⟨_, rfl⟩
  have HNA := Lib.hid hna
  have HIM := Lib.hid him
  clear him
  go_enter Tryz.func66, Tryz.ntmps66
  go_wp2_with fail
  refine (p_half a 4 _ (by omega)).mono ?_
  rintro e w1 ⟨rfl, rfl⟩
  rw [hna]
  clear hna
  cases na with
  | false =>
    go_wp2
    all_goals
      go_ret
      have hna := HNA.out
      refine ⟨ret_bool ?_, by go_grown⟩
      rw [← HR.out]
      simp_all [goodI, halfB]
  | true =>
    have heq := eqIns
    have hgd := guardIns
    go_wp2_with (first | (go_at_call 91; refine (p_half _ _ _ (by omega)).mono ?_; rintro e w1 ⟨rfl, rfl⟩) | (go_at_call 92; refine (p_Fits _ _ _ HIM.out (by omega)).mono ?_; rintro e w1 ⟨rfl, rfl⟩))
    all_goals
      go_ret
      have hna := HNA.out
      clear heq hgd
      refine ⟨ret_bool ?_, by go_grown⟩
      rw [← HR.out]
      simp_all [goodI, uOk, halfB, fitsB]
      try omega
      try ac_rfl
set_option maxRecDepth 100000 in
set_option maxHeartbeats 8000000 in
theorem p_GoodE (f : Int) (u v : Bool) (a b c op im : Int) (w : World) (h0 : f ≠ 0) (h1 : f ≠ 1) (h2 : f ≠ 2) (h3 : f ≠ 3) : Calls Tryz.prog 66 #[insV ⟨f, u, v, a, b, c, op, im⟩] w (Gives (.bool (goodI ⟨f, u, v, a, b, c, op, im⟩)) w) := by
  obtain ⟨r, hr⟩ : ∃ r, goodI ⟨f, u, v, a, b, c, op, im⟩ = r := ⟨_, rfl⟩
  rw [hr, insV_eq]
  have HR := Lib.hid hr
  clear hr
  obtain ⟨na, hna⟩ : ∃ r, halfB a 4 = r := ⟨_, rfl⟩
  have HNA := Lib.hid hna
  have q0 : (f == 0) = false := by rw [beq_eq_false_iff_ne]; exact h0
  have q1 : (f == 1) = false := by rw [beq_eq_false_iff_ne]; exact h1
  have q2 : (f == 2) = false := by rw [beq_eq_false_iff_ne]; exact h2
  have q3 : (f == 3) = false := by rw [beq_eq_false_iff_ne]; exact h3
  have HF : Hid (f ≠ 0 ∧ f ≠ 1 ∧ f ≠ 2 ∧ f ≠ 3) := ⟨h0, h1, h2, h3⟩
  clear h0 h1 h2 h3
  go_enter Tryz.func66, Tryz.ntmps66
  go_wp2_with fail
  refine (p_half a 4 _ (by omega)).mono ?_
  rintro e w1 ⟨rfl, rfl⟩
  rw [hna]
  clear hna
  go_wp2_with fail
  go_ret
  have hf := HF.out
  refine ⟨ret_bool ?_, by go_grown⟩
  rw [← HR.out]
  simp [goodI, hf.1, hf.2.1, hf.2.2.1, hf.2.2.2]
theorem p_Good (x : Ins) (w : World) (him : InR x.im) : Calls Tryz.prog 66 #[insV x] w (Gives (.bool (goodI x)) w) := by
  obtain ⟨f, u, v, a, b, c, op, im⟩ := x
  by_cases h0 : f = 0
  · subst h0; exact p_Good0 u v a b c op im w
  · by_cases h1 : f = 1
    · subst h1; exact p_Good1 u v a b c op im w
    · by_cases h2 : f = 2
      · subst h2; exact p_Good2 u v a b c op im w him
      · by_cases h3 : f = 3
        · subst h3; exact p_Good3 u v a b c op im w him
        · exact p_GoodE f u v a b c op im w h0 h1 h2 h3
end Go.Proofs.YtjjgjadfnongfaaGreatDoor
