import Derived.Test.YtjjgjadfnongfaaGreatDoorARef2
import Derived.Test.YtjjgjadfnongfaaGreatDoorADec
set_option linter.unusedVariables false
set_option linter.unusedSimpArgs false
namespace Go.Proofs.YtjjgjadfnongfaaGreatDoor
open Go.RowKit Go.Maps Go.MapKept
set_option maxRecDepth 100000 in
theorem r_part_30_2 (x : Int) (w : World) (h0 : 0 ≤ x) (h1 : x ≤ 4294967295) : Calls Tryz.prog 73 #[.int .u32 x, .int .i64 30, .int .i64 2] w (fun e w' => e = .returned (.int .i64 (x / 1073741824 % 4)) ∧ ∃ n, w' = w.drewN n) := by
  obtain ⟨r, hr⟩ : ∃ r, x / 1073741824 % 4 = r := ⟨_, rfl⟩
  have hr0 : 0 ≤ r ∧ r ≤ 4294967295 := by omega
  obtain ⟨hr0, hr1⟩ := hr0
  rw [hr]
  have HR := Lib.hid hr
  clear hr
  go_enter Tryz.func73, Tryz.ntmps73
  go_wp2_with fail
  refine (r_Get_30_2 x _ h0 h1).mono ?_
  rintro e w1 ⟨rfl, n1, rfl⟩
  rw [HR.out]
  go_wp2_with fail
  go_ret
  exact ⟨rfl, _, rfl⟩
set_option maxRecDepth 100000 in
theorem r_part_29_1 (x : Int) (w : World) (h0 : 0 ≤ x) (h1 : x ≤ 4294967295) : Calls Tryz.prog 73 #[.int .u32 x, .int .i64 29, .int .i64 1] w (fun e w' => e = .returned (.int .i64 (x / 536870912 % 2)) ∧ ∃ n, w' = w.drewN n) := by
  obtain ⟨r, hr⟩ : ∃ r, x / 536870912 % 2 = r := ⟨_, rfl⟩
  have hr0 : 0 ≤ r ∧ r ≤ 4294967295 := by omega
  obtain ⟨hr0, hr1⟩ := hr0
  rw [hr]
  have HR := Lib.hid hr
  clear hr
  go_enter Tryz.func73, Tryz.ntmps73
  go_wp2_with fail
  refine (r_Get_29_1 x _ h0 h1).mono ?_
  rintro e w1 ⟨rfl, n1, rfl⟩
  rw [HR.out]
  go_wp2_with fail
  go_ret
  exact ⟨rfl, _, rfl⟩
set_option maxRecDepth 100000 in
theorem r_part_28_1 (x : Int) (w : World) (h0 : 0 ≤ x) (h1 : x ≤ 4294967295) : Calls Tryz.prog 73 #[.int .u32 x, .int .i64 28, .int .i64 1] w (fun e w' => e = .returned (.int .i64 (x / 268435456 % 2)) ∧ ∃ n, w' = w.drewN n) := by
  obtain ⟨r, hr⟩ : ∃ r, x / 268435456 % 2 = r := ⟨_, rfl⟩
  have hr0 : 0 ≤ r ∧ r ≤ 4294967295 := by omega
  obtain ⟨hr0, hr1⟩ := hr0
  rw [hr]
  have HR := Lib.hid hr
  clear hr
  go_enter Tryz.func73, Tryz.ntmps73
  go_wp2_with fail
  refine (r_Get_28_1 x _ h0 h1).mono ?_
  rintro e w1 ⟨rfl, n1, rfl⟩
  rw [HR.out]
  go_wp2_with fail
  go_ret
  exact ⟨rfl, _, rfl⟩
set_option maxRecDepth 100000 in
theorem r_part_24_4 (x : Int) (w : World) (h0 : 0 ≤ x) (h1 : x ≤ 4294967295) : Calls Tryz.prog 73 #[.int .u32 x, .int .i64 24, .int .i64 4] w (fun e w' => e = .returned (.int .i64 (x / 16777216 % 16)) ∧ ∃ n, w' = w.drewN n) := by
  obtain ⟨r, hr⟩ : ∃ r, x / 16777216 % 16 = r := ⟨_, rfl⟩
  have hr0 : 0 ≤ r ∧ r ≤ 4294967295 := by omega
  obtain ⟨hr0, hr1⟩ := hr0
  rw [hr]
  have HR := Lib.hid hr
  clear hr
  go_enter Tryz.func73, Tryz.ntmps73
  go_wp2_with fail
  refine (r_Get_24_4 x _ h0 h1).mono ?_
  rintro e w1 ⟨rfl, n1, rfl⟩
  rw [HR.out]
  go_wp2_with fail
  go_ret
  exact ⟨rfl, _, rfl⟩
set_option maxRecDepth 100000 in
theorem r_part_20_4 (x : Int) (w : World) (h0 : 0 ≤ x) (h1 : x ≤ 4294967295) : Calls Tryz.prog 73 #[.int .u32 x, .int .i64 20, .int .i64 4] w (fun e w' => e = .returned (.int .i64 (x / 1048576 % 16)) ∧ ∃ n, w' = w.drewN n) := by
  obtain ⟨r, hr⟩ : ∃ r, x / 1048576 % 16 = r := ⟨_, rfl⟩
  have hr0 : 0 ≤ r ∧ r ≤ 4294967295 := by omega
  obtain ⟨hr0, hr1⟩ := hr0
  rw [hr]
  have HR := Lib.hid hr
  clear hr
  go_enter Tryz.func73, Tryz.ntmps73
  go_wp2_with fail
  refine (r_Get_20_4 x _ h0 h1).mono ?_
  rintro e w1 ⟨rfl, n1, rfl⟩
  rw [HR.out]
  go_wp2_with fail
  go_ret
  exact ⟨rfl, _, rfl⟩
set_option maxRecDepth 100000 in
theorem r_part_16_4 (x : Int) (w : World) (h0 : 0 ≤ x) (h1 : x ≤ 4294967295) : Calls Tryz.prog 73 #[.int .u32 x, .int .i64 16, .int .i64 4] w (fun e w' => e = .returned (.int .i64 (x / 65536 % 16)) ∧ ∃ n, w' = w.drewN n) := by
  obtain ⟨r, hr⟩ : ∃ r, x / 65536 % 16 = r := ⟨_, rfl⟩
  have hr0 : 0 ≤ r ∧ r ≤ 4294967295 := by omega
  obtain ⟨hr0, hr1⟩ := hr0
  rw [hr]
  have HR := Lib.hid hr
  clear hr
  go_enter Tryz.func73, Tryz.ntmps73
  go_wp2_with fail
  refine (r_Get_16_4 x _ h0 h1).mono ?_
  rintro e w1 ⟨rfl, n1, rfl⟩
  rw [HR.out]
  go_wp2_with fail
  go_ret
  exact ⟨rfl, _, rfl⟩
set_option maxRecDepth 100000 in
theorem r_part_0_4 (x : Int) (w : World) (h0 : 0 ≤ x) (h1 : x ≤ 4294967295) : Calls Tryz.prog 73 #[.int .u32 x, .int .i64 0, .int .i64 4] w (fun e w' => e = .returned (.int .i64 (x % 16)) ∧ ∃ n, w' = w.drewN n) := by
  obtain ⟨r, hr⟩ : ∃ r, x % 16 = r := ⟨_, rfl⟩
  have hr0 : 0 ≤ r ∧ r ≤ 4294967295 := by omega
  obtain ⟨hr0, hr1⟩ := hr0
  rw [hr]
  have HR := Lib.hid hr
  clear hr
  go_enter Tryz.func73, Tryz.ntmps73
  go_wp2_with fail
  refine (r_Get_0_4 x _ h0 h1).mono ?_
  rintro e w1 ⟨rfl, n1, rfl⟩
  rw [HR.out]
  go_wp2_with fail
  go_ret
  exact ⟨rfl, _, rfl⟩
set_option maxRecDepth 100000 in
theorem r_part_0_16 (x : Int) (w : World) (h0 : 0 ≤ x) (h1 : x ≤ 4294967295) : Calls Tryz.prog 73 #[.int .u32 x, .int .i64 0, .int .i64 16] w (fun e w' => e = .returned (.int .i64 (x % 65536)) ∧ ∃ n, w' = w.drewN n) := by
  obtain ⟨r, hr⟩ : ∃ r, x % 65536 = r := ⟨_, rfl⟩
  have hr0 : 0 ≤ r ∧ r ≤ 4294967295 := by omega
  obtain ⟨hr0, hr1⟩ := hr0
  rw [hr]
  have HR := Lib.hid hr
  clear hr
  go_enter Tryz.func73, Tryz.ntmps73
  go_wp2_with fail
  refine (r_Get_0_16 x _ h0 h1).mono ?_
  rintro e w1 ⟨rfl, n1, rfl⟩
  rw [HR.out]
  go_wp2_with fail
  go_ret
  exact ⟨rfl, _, rfl⟩
set_option maxRecDepth 100000 in
set_option maxHeartbeats 8000000 in
theorem rr_Dec0 (x : Int) (w : World) (h0 : 0 ≤ x) (h1 : x ≤ 4294967295) (hf : x / 1073741824 = 0) : Calls Tryz.prog 46 #[.int .u32 x] w (AtDec x w) := by
  obtain ⟨u, hu⟩ : ∃ u, decide (x / 536870912 % 2 = 1) = u := ⟨_, rfl⟩
  obtain ⟨v, hv⟩ : ∃ v, decide (x / 268435456 % 2 = 1) = v := ⟨_, rfl⟩
  have eu : (x / 536870912 % 2 == 1) = u := by rw [← hu, Bool.eq_iff_iff]; simp
  have ev : (x / 268435456 % 2 == 1) = v := by rw [← hv, Bool.eq_iff_iff]; simp
  have ef : x / 1073741824 % 4 = 0 := by omega
  have hins : insOf x = ⟨0, u, v, x / 16777216 % 16, x / 1048576 % 16, x % 16, x / 65536 % 16, 0⟩ := by
    unfold insOf
    rw [hf, hu, hv]
    simp
  have HINS := Lib.hid hins
  have HIM := Lib.hid (insOf_im x h0 h1)
  clear hins hu hv hf
  go_enter Tryz.func46, Tryz.ntmps46
  go_wp2_with fail
  refine (r_part_30_2 x _ h0 h1).mono ?_
  rintro e w1 ⟨rfl, m30_2, rfl⟩
  go_wp2_with fail
  refine (r_part_29_1 x _ h0 h1).mono ?_
  rintro e w1 ⟨rfl, m29_1, rfl⟩
  go_wp2_with fail
  refine (r_part_28_1 x _ h0 h1).mono ?_
  rintro e w1 ⟨rfl, m28_1, rfl⟩
  go_wp2_with fail
  refine (r_part_24_4 x _ h0 h1).mono ?_
  rintro e w1 ⟨rfl, m24_4, rfl⟩
  go_wp2_with fail
  refine (r_part_20_4 x _ h0 h1).mono ?_
  rintro e w1 ⟨rfl, m20_4, rfl⟩
  go_wp2_with fail
  refine (r_part_16_4 x _ h0 h1).mono ?_
  rintro e w1 ⟨rfl, m16_4, rfl⟩
  go_wp2_with fail
  refine (r_part_0_4 x _ h0 h1).mono ?_
  rintro e w1 ⟨rfl, m0_4, rfl⟩
  go_wp2_with fail
  rw [← insV_eq, ← HINS.out]
  refine (rr_Encode (insOf x) _ HIM.out).mono ?_
  rintro e w4 ⟨rfl, hB4⟩
  have hb0 : w4.heap[w.heap.size]? = some (.cells #[.int .i64 0, .bool false, .bool false, .int .i64 0, .int .i64 0, .int .i64 0, .int .i64 0, .int .i64 0] 45 (0, 0)) := b_below (by with_reducible repeat (first | exact b_new _ _ | refine b_drewN ?_ _ | refine b_far ?_ (by simp) _ | refine b_alloc ?_ _)) hB4
  have hb1 : w4.heap[w.heap.size + 1]? = some (.cells #[.int .i64 0, .bool u, .bool v, .int .i64 (x / 16777216 % 16), .int .i64 (x / 1048576 % 16), .int .i64 (x % 16), .int .i64 (x / 65536 % 16), .int .i64 (0)] 45 (0, 0)) := b_below (by
    (with_reducible repeat (first | refine b_drewN ?_ _ | apply b_put | refine b_far ?_ (by simp) _))
    exact b_at (by simp) _
    all_goals rfl) hB4
  have hB5 : Below w.heap.size w w4 := Below.trans (by with_reducible repeat (first | exact Below.refl _ _ | refine Below.setCell ?_ (by simp) _ | refine Below.alloc ?_ (by simp) _ | refine Below.trans ?_ (bdrew _ _ _))) (hB4.mono (by simp; omega))
  have hl0 := block_lt hb0
  have hl1 := block_lt hb1
  obtain ⟨q0, q1, q2, q3, q4, q5, q6, q7⟩ := b_cells8 hb1
  obtain ⟨r0, r1, r2, r3, r4, r5, r6, r7⟩ := b_cells8 hb0
  have z0 := b_free hb0
  have HB0 := Lib.hid hb0
  clear hB4 hb0 hb1
  cases hg : goodI (insOf x) with
  | false =>
    have hd := decW_bad1 hg
    rw [show encW (insOf x) = (0, 20) by simp [encW, hg]]
    have HD := Lib.hid hd
    clear hg hd
    go_wp2_with fail
    refine bodyPost_ret (res_ct rfl _ _ w.heap.size 45 _ (0, 0) _ rfl (b_set8 HB0.out _ _ _ _ _ _ _ _) Tryz.underlying45 rfl (by kernel_rfl)) rfl ⟨by rw [HD.out]; rfl, ?_⟩
    with_reducible repeat (first | exact hB5 | refine Below.setCell ?_ (by simp) _ | refine Below.trans ?_ (bdrew _ _ _))
  | true =>
    rw [show encW (insOf x) = (encI (insOf x), 0) by simp [encW, hg]]
    obtain ⟨q, hq⟩ : ∃ q, encI (insOf x) = q := ⟨_, rfl⟩
    rw [hq]
    by_cases he : q = x
    · have hd := decW_good hg (hq.trans he)
      have hne : (q != x) = false := by simp [he]
      have HD := Lib.hid hd
      clear hg hd hq he
      go_wp2_with fail
      refine bodyPost_ret (res_ct rfl _ _ w.heap.size 45 _ (0, 0) _ rfl (b_set8 HB0.out _ _ _ _ _ _ _ _) Tryz.underlying45 rfl (by kernel_rfl)) rfl ⟨by rw [HD.out, HINS.out]; rfl, ?_⟩
      with_reducible repeat (first | exact hB5 | refine Below.setCell ?_ (by simp) _ | refine Below.trans ?_ (bdrew _ _ _))
    · have hd := decW_bad2 (x := x) (by rw [hq]; exact he)
      have hne : (q != x) = true := by simp [he]
      have HD := Lib.hid hd
      clear hg hd hq he
      go_wp2_with fail
      refine bodyPost_ret (res_ct rfl _ _ w.heap.size 45 _ (0, 0) _ rfl (b_set8 HB0.out _ _ _ _ _ _ _ _) Tryz.underlying45 rfl (by kernel_rfl)) rfl ⟨by rw [HD.out]; rfl, ?_⟩
      with_reducible repeat (first | exact hB5 | refine Below.setCell ?_ (by simp) _ | refine Below.trans ?_ (bdrew _ _ _))
set_option maxRecDepth 100000 in
set_option maxHeartbeats 8000000 in
theorem rr_Dec1 (x : Int) (w : World) (h0 : 0 ≤ x) (h1 : x ≤ 4294967295) (hf : x / 1073741824 = 1) : Calls Tryz.prog 46 #[.int .u32 x] w (AtDec x w) := by
  obtain ⟨u, hu⟩ : ∃ u, decide (x / 536870912 % 2 = 1) = u := ⟨_, rfl⟩
  obtain ⟨v, hv⟩ : ∃ v, decide (x / 268435456 % 2 = 1) = v := ⟨_, rfl⟩
  have eu : (x / 536870912 % 2 == 1) = u := by rw [← hu, Bool.eq_iff_iff]; simp
  have ev : (x / 268435456 % 2 == 1) = v := by rw [← hv, Bool.eq_iff_iff]; simp
  have ef : x / 1073741824 % 4 = 1 := by omega
  have hins : insOf x = ⟨1, u, v, x / 16777216 % 16, x / 1048576 % 16, 0, x / 65536 % 16, x % 65536⟩ := by
    unfold insOf
    rw [hf, hu, hv]
    simp
  have HINS := Lib.hid hins
  have HIM := Lib.hid (insOf_im x h0 h1)
  clear hins hu hv hf
  go_enter Tryz.func46, Tryz.ntmps46
  go_wp2_with fail
  refine (r_part_30_2 x _ h0 h1).mono ?_
  rintro e w1 ⟨rfl, m30_2, rfl⟩
  go_wp2_with fail
  refine (r_part_29_1 x _ h0 h1).mono ?_
  rintro e w1 ⟨rfl, m29_1, rfl⟩
  go_wp2_with fail
  refine (r_part_28_1 x _ h0 h1).mono ?_
  rintro e w1 ⟨rfl, m28_1, rfl⟩
  go_wp2_with fail
  refine (r_part_24_4 x _ h0 h1).mono ?_
  rintro e w1 ⟨rfl, m24_4, rfl⟩
  go_wp2_with fail
  refine (r_part_20_4 x _ h0 h1).mono ?_
  rintro e w1 ⟨rfl, m20_4, rfl⟩
  go_wp2_with fail
  refine (r_part_16_4 x _ h0 h1).mono ?_
  rintro e w1 ⟨rfl, m16_4, rfl⟩
  go_wp2_with fail
  refine (r_part_0_16 x _ h0 h1).mono ?_
  rintro e w1 ⟨rfl, m0_16, rfl⟩
  go_wp2_with fail
  rw [← insV_eq, ← HINS.out]
  refine (rr_Encode (insOf x) _ HIM.out).mono ?_
  rintro e w4 ⟨rfl, hB4⟩
  have hb0 : w4.heap[w.heap.size]? = some (.cells #[.int .i64 0, .bool false, .bool false, .int .i64 0, .int .i64 0, .int .i64 0, .int .i64 0, .int .i64 0] 45 (0, 0)) := b_below (by with_reducible repeat (first | exact b_new _ _ | refine b_drewN ?_ _ | refine b_far ?_ (by simp) _ | refine b_alloc ?_ _)) hB4
  have hb1 : w4.heap[w.heap.size + 1]? = some (.cells #[.int .i64 1, .bool u, .bool v, .int .i64 (x / 16777216 % 16), .int .i64 (x / 1048576 % 16), .int .i64 (0), .int .i64 (x / 65536 % 16), .int .i64 (x % 65536)] 45 (0, 0)) := b_below (by
    (with_reducible repeat (first | refine b_drewN ?_ _ | apply b_put | refine b_far ?_ (by simp) _))
    exact b_at (by simp) _
    all_goals rfl) hB4
  have hB5 : Below w.heap.size w w4 := Below.trans (by with_reducible repeat (first | exact Below.refl _ _ | refine Below.setCell ?_ (by simp) _ | refine Below.alloc ?_ (by simp) _ | refine Below.trans ?_ (bdrew _ _ _))) (hB4.mono (by simp; omega))
  have hl0 := block_lt hb0
  have hl1 := block_lt hb1
  obtain ⟨q0, q1, q2, q3, q4, q5, q6, q7⟩ := b_cells8 hb1
  obtain ⟨r0, r1, r2, r3, r4, r5, r6, r7⟩ := b_cells8 hb0
  have z0 := b_free hb0
  have HB0 := Lib.hid hb0
  clear hB4 hb0 hb1
  cases hg : goodI (insOf x) with
  | false =>
    have hd := decW_bad1 hg
    rw [show encW (insOf x) = (0, 20) by simp [encW, hg]]
    have HD := Lib.hid hd
    clear hg hd
    go_wp2_with fail
    refine bodyPost_ret (res_ct rfl _ _ w.heap.size 45 _ (0, 0) _ rfl (b_set8 HB0.out _ _ _ _ _ _ _ _) Tryz.underlying45 rfl (by kernel_rfl)) rfl ⟨by rw [HD.out]; rfl, ?_⟩
    with_reducible repeat (first | exact hB5 | refine Below.setCell ?_ (by simp) _ | refine Below.trans ?_ (bdrew _ _ _))
  | true =>
    rw [show encW (insOf x) = (encI (insOf x), 0) by simp [encW, hg]]
    obtain ⟨q, hq⟩ : ∃ q, encI (insOf x) = q := ⟨_, rfl⟩
    rw [hq]
    by_cases he : q = x
    · have hd := decW_good hg (hq.trans he)
      have hne : (q != x) = false := by simp [he]
      have HD := Lib.hid hd
      clear hg hd hq he
      go_wp2_with fail
      refine bodyPost_ret (res_ct rfl _ _ w.heap.size 45 _ (0, 0) _ rfl (b_set8 HB0.out _ _ _ _ _ _ _ _) Tryz.underlying45 rfl (by kernel_rfl)) rfl ⟨by rw [HD.out, HINS.out]; rfl, ?_⟩
      with_reducible repeat (first | exact hB5 | refine Below.setCell ?_ (by simp) _ | refine Below.trans ?_ (bdrew _ _ _))
    · have hd := decW_bad2 (x := x) (by rw [hq]; exact he)
      have hne : (q != x) = true := by simp [he]
      have HD := Lib.hid hd
      clear hg hd hq he
      go_wp2_with fail
      refine bodyPost_ret (res_ct rfl _ _ w.heap.size 45 _ (0, 0) _ rfl (b_set8 HB0.out _ _ _ _ _ _ _ _) Tryz.underlying45 rfl (by kernel_rfl)) rfl ⟨by rw [HD.out]; rfl, ?_⟩
      with_reducible repeat (first | exact hB5 | refine Below.setCell ?_ (by simp) _ | refine Below.trans ?_ (bdrew _ _ _))
set_option maxRecDepth 100000 in
set_option maxHeartbeats 8000000 in
theorem rr_Dec2 (x : Int) (w : World) (h0 : 0 ≤ x) (h1 : x ≤ 4294967295) (hf : x / 1073741824 = 2) : Calls Tryz.prog 46 #[.int .u32 x] w (AtDec x w) := by
  obtain ⟨u, hu⟩ : ∃ u, decide (x / 536870912 % 2 = 1) = u := ⟨_, rfl⟩
  obtain ⟨v, hv⟩ : ∃ v, decide (x / 268435456 % 2 = 1) = v := ⟨_, rfl⟩
  have eu : (x / 536870912 % 2 == 1) = u := by rw [← hu, Bool.eq_iff_iff]; simp
  have ev : (x / 268435456 % 2 == 1) = v := by rw [← hv, Bool.eq_iff_iff]; simp
  have ef : x / 1073741824 % 4 = 2 := by omega
  have hins : insOf x = ⟨2, u, v, x / 16777216 % 16, x / 1048576 % 16, 0, 0, sext (x % 1048576) 1048576⟩ := by
    unfold insOf
    rw [hf, hu, hv]
    simp
  have HINS := Lib.hid hins
  have HIM := Lib.hid (insOf_im x h0 h1)
  clear hins hu hv hf
  go_enter Tryz.func46, Tryz.ntmps46
  go_wp2_with fail
  refine (r_part_30_2 x _ h0 h1).mono ?_
  rintro e w1 ⟨rfl, m30_2, rfl⟩
  go_wp2_with fail
  refine (r_part_29_1 x _ h0 h1).mono ?_
  rintro e w1 ⟨rfl, m29_1, rfl⟩
  go_wp2_with fail
  refine (r_part_28_1 x _ h0 h1).mono ?_
  rintro e w1 ⟨rfl, m28_1, rfl⟩
  go_wp2_with fail
  refine (r_part_24_4 x _ h0 h1).mono ?_
  rintro e w1 ⟨rfl, m24_4, rfl⟩
  go_wp2_with fail
  refine (r_part_20_4 x _ h0 h1).mono ?_
  rintro e w1 ⟨rfl, m20_4, rfl⟩
  go_wp2_with fail
  refine (r_Get_0_20 x _ h0 h1).mono ?_
  rintro e w1 ⟨rfl, m1, rfl⟩
  go_wp2_with fail
  refine (r_Ext20 _ _ (by omega) (by omega)).mono ?_
  rintro e w1 ⟨rfl, rfl⟩
  rw [show x % 1048576 % 1048576 = x % 1048576 by omega]
  go_wp2_with fail
  rw [← insV_eq, ← HINS.out]
  refine (rr_Encode (insOf x) _ HIM.out).mono ?_
  rintro e w4 ⟨rfl, hB4⟩
  have hb0 : w4.heap[w.heap.size]? = some (.cells #[.int .i64 0, .bool false, .bool false, .int .i64 0, .int .i64 0, .int .i64 0, .int .i64 0, .int .i64 0] 45 (0, 0)) := b_below (by with_reducible repeat (first | exact b_new _ _ | refine b_drewN ?_ _ | refine b_far ?_ (by simp) _ | refine b_alloc ?_ _)) hB4
  have hb1 : w4.heap[w.heap.size + 1]? = some (.cells #[.int .i64 2, .bool u, .bool v, .int .i64 (x / 16777216 % 16), .int .i64 (x / 1048576 % 16), .int .i64 (0), .int .i64 (0), .int .i64 (sext (x % 1048576) 1048576)] 45 (0, 0)) := b_below (by
    (with_reducible repeat (first | refine b_drewN ?_ _ | apply b_put | refine b_far ?_ (by simp) _))
    exact b_at (by simp) _
    all_goals rfl) hB4
  have hB5 : Below w.heap.size w w4 := Below.trans (by with_reducible repeat (first | exact Below.refl _ _ | refine Below.setCell ?_ (by simp) _ | refine Below.alloc ?_ (by simp) _ | refine Below.trans ?_ (bdrew _ _ _))) (hB4.mono (by simp; omega))
  have hl0 := block_lt hb0
  have hl1 := block_lt hb1
  obtain ⟨q0, q1, q2, q3, q4, q5, q6, q7⟩ := b_cells8 hb1
  obtain ⟨r0, r1, r2, r3, r4, r5, r6, r7⟩ := b_cells8 hb0
  have z0 := b_free hb0
  have HB0 := Lib.hid hb0
  clear hB4 hb0 hb1
  cases hg : goodI (insOf x) with
  | false =>
    have hd := decW_bad1 hg
    rw [show encW (insOf x) = (0, 20) by simp [encW, hg]]
    have HD := Lib.hid hd
    clear hg hd
    go_wp2_with fail
    refine bodyPost_ret (res_ct rfl _ _ w.heap.size 45 _ (0, 0) _ rfl (b_set8 HB0.out _ _ _ _ _ _ _ _) Tryz.underlying45 rfl (by kernel_rfl)) rfl ⟨by rw [HD.out]; rfl, ?_⟩
    with_reducible repeat (first | exact hB5 | refine Below.setCell ?_ (by simp) _ | refine Below.trans ?_ (bdrew _ _ _))
  | true =>
    rw [show encW (insOf x) = (encI (insOf x), 0) by simp [encW, hg]]
    obtain ⟨q, hq⟩ : ∃ q, encI (insOf x) = q := ⟨_, rfl⟩
    rw [hq]
    by_cases he : q = x
    · have hd := decW_good hg (hq.trans he)
      have hne : (q != x) = false := by simp [he]
      have HD := Lib.hid hd
      clear hg hd hq he
      go_wp2_with fail
      refine bodyPost_ret (res_ct rfl _ _ w.heap.size 45 _ (0, 0) _ rfl (b_set8 HB0.out _ _ _ _ _ _ _ _) Tryz.underlying45 rfl (by kernel_rfl)) rfl ⟨by rw [HD.out, HINS.out]; rfl, ?_⟩
      with_reducible repeat (first | exact hB5 | refine Below.setCell ?_ (by simp) _ | refine Below.trans ?_ (bdrew _ _ _))
    · have hd := decW_bad2 (x := x) (by rw [hq]; exact he)
      have hne : (q != x) = true := by simp [he]
      have HD := Lib.hid hd
      clear hg hd hq he
      go_wp2_with fail
      refine bodyPost_ret (res_ct rfl _ _ w.heap.size 45 _ (0, 0) _ rfl (b_set8 HB0.out _ _ _ _ _ _ _ _) Tryz.underlying45 rfl (by kernel_rfl)) rfl ⟨by rw [HD.out]; rfl, ?_⟩
      with_reducible repeat (first | exact hB5 | refine Below.setCell ?_ (by simp) _ | refine Below.trans ?_ (bdrew _ _ _))
set_option maxRecDepth 100000 in
set_option maxHeartbeats 8000000 in
theorem rr_Dec3t (x : Int) (w : World) (h0 : 0 ≤ x) (h1 : x ≤ 4294967295) (hf : x / 1073741824 = 3) (hx : decide (x / 536870912 % 2 = 1) = true) : Calls Tryz.prog 46 #[.int .u32 x] w (AtDec x w) := by
  have hu := hx
  obtain ⟨v, hv⟩ : ∃ v, decide (x / 268435456 % 2 = 1) = v := ⟨_, rfl⟩
  have eu : (x / 536870912 % 2 == 1) = true := by rw [← hu, Bool.eq_iff_iff]; simp
  have ev : (x / 268435456 % 2 == 1) = v := by rw [← hv, Bool.eq_iff_iff]; simp
  have ef : x / 1073741824 % 4 = 3 := by omega
  have hins : insOf x = ⟨3, true, v, x / 16777216 % 16, 0, 0, 0, sext (x % 16777216) 16777216⟩ := by
    unfold insOf
    rw [hf, hu, hv]
    simp
  have HINS := Lib.hid hins
  have HIM := Lib.hid (insOf_im x h0 h1)
  clear hins hu hv hf
  go_enter Tryz.func46, Tryz.ntmps46
  go_wp2_with fail
  refine (r_part_30_2 x _ h0 h1).mono ?_
  rintro e w1 ⟨rfl, m30_2, rfl⟩
  go_wp2_with fail
  refine (r_part_29_1 x _ h0 h1).mono ?_
  rintro e w1 ⟨rfl, m29_1, rfl⟩
  go_wp2_with fail
  refine (r_part_28_1 x _ h0 h1).mono ?_
  rintro e w1 ⟨rfl, m28_1, rfl⟩
  go_wp2_with fail
  refine (r_part_24_4 x _ h0 h1).mono ?_
  rintro e w1 ⟨rfl, m24_4, rfl⟩
  go_wp2_with fail
  refine (r_Get_0_24 x _ h0 h1).mono ?_
  rintro e w1 ⟨rfl, m1, rfl⟩
  go_wp2_with fail
  refine (r_Ext24 _ _ (by omega) (by omega)).mono ?_
  rintro e w1 ⟨rfl, rfl⟩
  rw [show x % 16777216 % 16777216 = x % 16777216 by omega]
  go_wp2_with fail
  rw [← insV_eq, ← HINS.out]
  refine (rr_Encode (insOf x) _ HIM.out).mono ?_
  rintro e w4 ⟨rfl, hB4⟩
  have hb0 : w4.heap[w.heap.size]? = some (.cells #[.int .i64 0, .bool false, .bool false, .int .i64 0, .int .i64 0, .int .i64 0, .int .i64 0, .int .i64 0] 45 (0, 0)) := b_below (by with_reducible repeat (first | exact b_new _ _ | refine b_drewN ?_ _ | refine b_far ?_ (by simp) _ | refine b_alloc ?_ _)) hB4
  have hb1 : w4.heap[w.heap.size + 1]? = some (.cells #[.int .i64 3, .bool true, .bool v, .int .i64 (x / 16777216 % 16), .int .i64 (0), .int .i64 (0), .int .i64 (0), .int .i64 (sext (x % 16777216) 16777216)] 45 (0, 0)) := b_below (by
    (with_reducible repeat (first | refine b_drewN ?_ _ | apply b_put | refine b_far ?_ (by simp) _))
    exact b_at (by simp) _
    all_goals rfl) hB4
  have hB5 : Below w.heap.size w w4 := Below.trans (by with_reducible repeat (first | exact Below.refl _ _ | refine Below.setCell ?_ (by simp) _ | refine Below.alloc ?_ (by simp) _ | refine Below.trans ?_ (bdrew _ _ _))) (hB4.mono (by simp; omega))
  have hl0 := block_lt hb0
  have hl1 := block_lt hb1
  obtain ⟨q0, q1, q2, q3, q4, q5, q6, q7⟩ := b_cells8 hb1
  obtain ⟨r0, r1, r2, r3, r4, r5, r6, r7⟩ := b_cells8 hb0
  have z0 := b_free hb0
  have HB0 := Lib.hid hb0
  clear hB4 hb0 hb1
  cases hg : goodI (insOf x) with
  | false =>
    have hd := decW_bad1 hg
    rw [show encW (insOf x) = (0, 20) by simp [encW, hg]]
    have HD := Lib.hid hd
    clear hg hd
    go_wp2_with fail
    refine bodyPost_ret (res_ct rfl _ _ w.heap.size 45 _ (0, 0) _ rfl (b_set8 HB0.out _ _ _ _ _ _ _ _) Tryz.underlying45 rfl (by kernel_rfl)) rfl ⟨by rw [HD.out]; rfl, ?_⟩
    with_reducible repeat (first | exact hB5 | refine Below.setCell ?_ (by simp) _ | refine Below.trans ?_ (bdrew _ _ _))
  | true =>
    rw [show encW (insOf x) = (encI (insOf x), 0) by simp [encW, hg]]
    obtain ⟨q, hq⟩ : ∃ q, encI (insOf x) = q := ⟨_, rfl⟩
    rw [hq]
    by_cases he : q = x
    · have hd := decW_good hg (hq.trans he)
      have hne : (q != x) = false := by simp [he]
      have HD := Lib.hid hd
      clear hg hd hq he
      go_wp2_with fail
      refine bodyPost_ret (res_ct rfl _ _ w.heap.size 45 _ (0, 0) _ rfl (b_set8 HB0.out _ _ _ _ _ _ _ _) Tryz.underlying45 rfl (by kernel_rfl)) rfl ⟨by rw [HD.out, HINS.out]; rfl, ?_⟩
      with_reducible repeat (first | exact hB5 | refine Below.setCell ?_ (by simp) _ | refine Below.trans ?_ (bdrew _ _ _))
    · have hd := decW_bad2 (x := x) (by rw [hq]; exact he)
      have hne : (q != x) = true := by simp [he]
      have HD := Lib.hid hd
      clear hg hd hq he
      go_wp2_with fail
      refine bodyPost_ret (res_ct rfl _ _ w.heap.size 45 _ (0, 0) _ rfl (b_set8 HB0.out _ _ _ _ _ _ _ _) Tryz.underlying45 rfl (by kernel_rfl)) rfl ⟨by rw [HD.out]; rfl, ?_⟩
      with_reducible repeat (first | exact hB5 | refine Below.setCell ?_ (by simp) _ | refine Below.trans ?_ (bdrew _ _ _))
set_option maxRecDepth 100000 in
set_option maxHeartbeats 8000000 in
theorem rr_Dec3f (x : Int) (w : World) (h0 : 0 ≤ x) (h1 : x ≤ 4294967295) (hf : x / 1073741824 = 3) (hx : decide (x / 536870912 % 2 = 1) = false) : Calls Tryz.prog 46 #[.int .u32 x] w (AtDec x w) := by
  have hu := hx
  obtain ⟨v, hv⟩ : ∃ v, decide (x / 268435456 % 2 = 1) = v := ⟨_, rfl⟩
  have eu : (x / 536870912 % 2 == 1) = false := by rw [← hu, Bool.eq_iff_iff]; simp
  have ev : (x / 268435456 % 2 == 1) = v := by rw [← hv, Bool.eq_iff_iff]; simp
  have ef : x / 1073741824 % 4 = 3 := by omega
  have hins : insOf x = ⟨3, false, v, x / 16777216 % 16, 0, x % 16, 0, 0⟩ := by
    unfold insOf
    rw [hf, hu, hv]
    simp
  have HINS := Lib.hid hins
  have HIM := Lib.hid (insOf_im x h0 h1)
  clear hins hu hv hf
  go_enter Tryz.func46, Tryz.ntmps46
  go_wp2_with fail
  refine (r_part_30_2 x _ h0 h1).mono ?_
  rintro e w1 ⟨rfl, m30_2, rfl⟩
  go_wp2_with fail
  refine (r_part_29_1 x _ h0 h1).mono ?_
  rintro e w1 ⟨rfl, m29_1, rfl⟩
  go_wp2_with fail
  refine (r_part_28_1 x _ h0 h1).mono ?_
  rintro e w1 ⟨rfl, m28_1, rfl⟩
  go_wp2_with fail
  refine (r_part_24_4 x _ h0 h1).mono ?_
  rintro e w1 ⟨rfl, m24_4, rfl⟩
  go_wp2_with fail
  refine (r_part_0_4 x _ h0 h1).mono ?_
  rintro e w1 ⟨rfl, m0_4, rfl⟩
  go_wp2_with fail
  rw [← insV_eq, ← HINS.out]
  refine (rr_Encode (insOf x) _ HIM.out).mono ?_
  rintro e w4 ⟨rfl, hB4⟩
  have hb0 : w4.heap[w.heap.size]? = some (.cells #[.int .i64 0, .bool false, .bool false, .int .i64 0, .int .i64 0, .int .i64 0, .int .i64 0, .int .i64 0] 45 (0, 0)) := b_below (by with_reducible repeat (first | exact b_new _ _ | refine b_drewN ?_ _ | refine b_far ?_ (by simp) _ | refine b_alloc ?_ _)) hB4
  have hb1 : w4.heap[w.heap.size + 1]? = some (.cells #[.int .i64 3, .bool false, .bool v, .int .i64 (x / 16777216 % 16), .int .i64 (0), .int .i64 (x % 16), .int .i64 (0), .int .i64 (0)] 45 (0, 0)) := b_below (by
    (with_reducible repeat (first | refine b_drewN ?_ _ | apply b_put | refine b_far ?_ (by simp) _))
    exact b_at (by simp) _
    all_goals rfl) hB4
  have hB5 : Below w.heap.size w w4 := Below.trans (by with_reducible repeat (first | exact Below.refl _ _ | refine Below.setCell ?_ (by simp) _ | refine Below.alloc ?_ (by simp) _ | refine Below.trans ?_ (bdrew _ _ _))) (hB4.mono (by simp; omega))
  have hl0 := block_lt hb0
  have hl1 := block_lt hb1
  obtain ⟨q0, q1, q2, q3, q4, q5, q6, q7⟩ := b_cells8 hb1
  obtain ⟨r0, r1, r2, r3, r4, r5, r6, r7⟩ := b_cells8 hb0
  have z0 := b_free hb0
  have HB0 := Lib.hid hb0
  clear hB4 hb0 hb1
  cases hg : goodI (insOf x) with
  | false =>
    have hd := decW_bad1 hg
    rw [show encW (insOf x) = (0, 20) by simp [encW, hg]]
    have HD := Lib.hid hd
    clear hg hd
    go_wp2_with fail
    refine bodyPost_ret (res_ct rfl _ _ w.heap.size 45 _ (0, 0) _ rfl (b_set8 HB0.out _ _ _ _ _ _ _ _) Tryz.underlying45 rfl (by kernel_rfl)) rfl ⟨by rw [HD.out]; rfl, ?_⟩
    with_reducible repeat (first | exact hB5 | refine Below.setCell ?_ (by simp) _ | refine Below.trans ?_ (bdrew _ _ _))
  | true =>
    rw [show encW (insOf x) = (encI (insOf x), 0) by simp [encW, hg]]
    obtain ⟨q, hq⟩ : ∃ q, encI (insOf x) = q := ⟨_, rfl⟩
    rw [hq]
    by_cases he : q = x
    · have hd := decW_good hg (hq.trans he)
      have hne : (q != x) = false := by simp [he]
      have HD := Lib.hid hd
      clear hg hd hq he
      go_wp2_with fail
      refine bodyPost_ret (res_ct rfl _ _ w.heap.size 45 _ (0, 0) _ rfl (b_set8 HB0.out _ _ _ _ _ _ _ _) Tryz.underlying45 rfl (by kernel_rfl)) rfl ⟨by rw [HD.out, HINS.out]; rfl, ?_⟩
      with_reducible repeat (first | exact hB5 | refine Below.setCell ?_ (by simp) _ | refine Below.trans ?_ (bdrew _ _ _))
    · have hd := decW_bad2 (x := x) (by rw [hq]; exact he)
      have hne : (q != x) = true := by simp [he]
      have HD := Lib.hid hd
      clear hg hd hq he
      go_wp2_with fail
      refine bodyPost_ret (res_ct rfl _ _ w.heap.size 45 _ (0, 0) _ rfl (b_set8 HB0.out _ _ _ _ _ _ _ _) Tryz.underlying45 rfl (by kernel_rfl)) rfl ⟨by rw [HD.out]; rfl, ?_⟩
      with_reducible repeat (first | exact hB5 | refine Below.setCell ?_ (by simp) _ | refine Below.trans ?_ (bdrew _ _ _))
theorem rr_Decode (x : Int) (w : World) (h0 : 0 ≤ x) (h1 : x ≤ 4294967295) : Calls Tryz.prog 46 #[.int .u32 x] w (AtDec x w) := by
  have hf : x / 1073741824 = 0 ∨ x / 1073741824 = 1 ∨ x / 1073741824 = 2 ∨ x / 1073741824 = 3 := by omega
  rcases hf with hf | hf | hf | hf
  · exact rr_Dec0 x w h0 h1 hf
  · exact rr_Dec1 x w h0 h1 hf
  · exact rr_Dec2 x w h0 h1 hf
  · cases hx : decide (x / 536870912 % 2 = 1) with
    | true => exact rr_Dec3t x w h0 h1 hf hx
    | false => exact rr_Dec3f x w h0 h1 hf hx
end Go.Proofs.YtjjgjadfnongfaaGreatDoor
