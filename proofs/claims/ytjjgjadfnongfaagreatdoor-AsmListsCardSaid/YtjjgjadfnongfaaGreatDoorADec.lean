import Derived.Test.YtjjgjadfnongfaaGreatDoorAEnc
import Derived.Test.YtjjgjadfnongfaaGreatDoorABlk
set_option linter.unusedVariables false
set_option linter.unusedSimpArgs false
namespace Go.Proofs.YtjjgjadfnongfaaGreatDoor
open Go.RowKit Go.Maps Go.MapKept
theorem sext_range (n m : Int) (h0 : 0 ≤ n) (h1 : n < m) (h2 : m ≤ 16777216) : InR (sext n m) := by
  unfold InR sext
  split <;> omega
theorem insOf_im (x : Int) (h0 : 0 ≤ x) (h1 : x ≤ 4294967295) : InR (insOf x).im := by
  unfold insOf
  simp only
  split
  · unfold InR; omega
  · split
    · exact sext_range _ _ (by omega) (by omega) (by omega)
    · split
      · exact sext_range _ _ (by omega) (by omega) (by omega)
      · unfold InR; omega
def AtDec (x : Int) (w : World) (e : Ending) (w' : World) : Prop := e = .returned (.tuple #[insV (decW x).1, .int .i64 (decW x).2]) ∧ Below w.heap.size w w'
theorem decW_good {x : Int} (h : goodI (insOf x) = true) (h2 : encI (insOf x) = x) : decW x = (insOf x, 0) := by simp [decW, goodW, h, h2]
theorem decW_bad1 {x : Int} (h : goodI (insOf x) = false) : decW x = (zeroI, 20) := by simp [decW, goodW, h]
theorem decW_bad2 {x : Int} (h2 : encI (insOf x) ≠ x) : decW x = (zeroI, 20) := by simp [decW, goodW, h2]
set_option maxRecDepth 100000 in
set_option maxHeartbeats 8000000 in
theorem p_Dec0 (x : Int) (w : World) (h0 : 0 ≤ x) (h1 : x ≤ 4294967295) (hf : x / 1073741824 = 0) : Calls Tryz.prog 54 #[.int .u32 x] w (AtDec x w) := by
  obtain ⟨u, hu⟩ : ∃ u, decide (x / 536870912 % 2 = 1) = u := ⟨_, rfl⟩
  obtain ⟨v, hv⟩ : ∃ v, decide (x / 268435456 % 2 = 1) = v := ⟨_, rfl⟩
  have eu : (bits .and .u32 (x / 536870912) 1 == 1) = u := by rw [u32_and1 _ (by omega) (by omega), ← hu, Bool.eq_iff_iff]; simp
  have ev : (bits .and .u32 (x / 268435456) 1 == 1) = v := by rw [u32_and1 _ (by omega) (by omega), ← hv, Bool.eq_iff_iff]; simp
  have e15 := u32_and15 x h0 h1
  have e16 : wrap64 (IntKind.u16.wrap x) = x % 65536 := by rw [IntKind.wrap_u16]; unfold wrap64; omega
  have hins : insOf x = ⟨0, u, v, x / 16777216 % 16, x / 1048576 % 16, x % 16, x / 65536 % 16, 0⟩ := by
    unfold insOf
    rw [hf, hu, hv]
    simp
  have HINS := Lib.hid hins
  have HIM := Lib.hid (insOf_im x h0 h1)
  clear hins hu hv
  go_enter Tryz.func54, Tryz.ntmps54
  go_wp2_with fail
  refine (p_Get24 x _ h0 h1).mono ?_
  rintro e w1 ⟨rfl, n1, rfl⟩
  go_wp2_with fail
  refine (p_Get20 x _ h0 h1).mono ?_
  rintro e w2 ⟨rfl, n2, rfl⟩
  go_wp2_with fail
  refine (p_Get16 x _ h0 h1).mono ?_
  rintro e w3 ⟨rfl, n3, rfl⟩
  go_wp2_with fail
  rw [← insV_eq, ← HINS.out]
  refine (p_Encode (insOf x) _ HIM.out).mono ?_
  rintro e w4 ⟨rfl, hB4⟩
  have hb0 : w4.heap[w.heap.size]? = some (.cells #[.int .i64 0, .bool false, .bool false, .int .i64 0, .int .i64 0, .int .i64 0, .int .i64 0, .int .i64 0] 45 (0, 0)) := b_below (by with_reducible repeat (first | exact b_new _ _ | refine b_drewN ?_ _ | refine b_far ?_ (by simp) _ | refine b_alloc ?_ _)) hB4
  have hb1 : w4.heap[w.heap.size + 1]? = some (.cells #[.int .i64 0, .bool u, .bool v, .int .i64 (x / 16777216 % 16), .int .i64 (x / 1048576 % 16), .int .i64 (x % 16), .int .i64 (x / 65536 % 16), .int .i64 (0)] 45 (0, 0)) := b_below (by
    (with_reducible repeat (first | refine b_drewN ?_ _ | apply b_put | refine b_far ?_ (by simp) _))
    exact b_at (by simp) _
    all_goals rfl) hB4
  have hB5 : Below w.heap.size w w4 := Below.trans (by with_reducible repeat (first | exact Below.refl _ _ | refine Below.setCell ?_ (by simp) _ | refine Below.alloc ?_ (by simp) _ | refine Below.trans ?_ (bdrew _ _ _))) (hB4.mono (by simp; omega))
  have hl0 := block_lt hb0
  have hl1 := block_lt hb1
  obtain ⟨q0, q1, q2, q3, q4, q5, q6, q7⟩ := b_cells8 hb1
  obtain ⟨r0, r1, r2, r3, r4, r5, r6, r7⟩ := b_cells8 hb0
  have z0 := b_free hb0
  have HB0 := Lib.hid hb0
  clear hB4 hb0 hb1
  cases hg : goodI (insOf x) with
  | false =>
    have hd := decW_bad1 hg
    rw [show encW (insOf x) = (0, 20) by simp [encW, hg]]
    have HD := Lib.hid hd
    clear hg hd
    go_wp2_with fail
    refine bodyPost_ret (res_ct rfl _ _ w.heap.size 45 _ (0, 0) _ rfl (b_set8 HB0.out _ _ _ _ _ _ _ _) Tryz.underlying45 rfl (by kernel_rfl)) rfl ⟨by rw [HD.out]; rfl, ?_⟩
    with_reducible repeat (first | exact hB5 | refine Below.setCell ?_ (by simp) _ | refine Below.trans ?_ (bdrew _ _ _))
  | true =>
    rw [show encW (insOf x) = (encI (insOf x), 0) by simp [encW, hg]]
    obtain ⟨q, hq⟩ : ∃ q, encI (insOf x) = q := ⟨_, rfl⟩
    rw [hq]
    by_cases he : q = x
    · have hd := decW_good hg (hq.trans he)
      have hne : (q != x) = false := by simp [he]
      have HD := Lib.hid hd
      clear hg hd hq he
      go_wp2_with fail
      refine bodyPost_ret (res_ct rfl _ _ w.heap.size 45 _ (0, 0) _ rfl (b_set8 HB0.out _ _ _ _ _ _ _ _) Tryz.underlying45 rfl (by kernel_rfl)) rfl ⟨by rw [HD.out, HINS.out]; rfl, ?_⟩
      with_reducible repeat (first | exact hB5 | refine Below.setCell ?_ (by simp) _ | refine Below.trans ?_ (bdrew _ _ _))
    · have hd := decW_bad2 (x := x) (by rw [hq]; exact he)
      have hne : (q != x) = true := by simp [he]
      have HD := Lib.hid hd
      clear hg hd hq he
      go_wp2_with fail
      refine bodyPost_ret (res_ct rfl _ _ w.heap.size 45 _ (0, 0) _ rfl (b_set8 HB0.out _ _ _ _ _ _ _ _) Tryz.underlying45 rfl (by kernel_rfl)) rfl ⟨by rw [HD.out]; rfl, ?_⟩
      with_reducible repeat (first | exact hB5 | refine Below.setCell ?_ (by simp) _ | refine Below.trans ?_ (bdrew _ _ _))
set_option maxRecDepth 100000 in
set_option maxHeartbeats 8000000 in
theorem p_Dec1 (x : Int) (w : World) (h0 : 0 ≤ x) (h1 : x ≤ 4294967295) (hf : x / 1073741824 = 1) : Calls Tryz.prog 54 #[.int .u32 x] w (AtDec x w) := by
  obtain ⟨u, hu⟩ : ∃ u, decide (x / 536870912 % 2 = 1) = u := ⟨_, rfl⟩
  obtain ⟨v, hv⟩ : ∃ v, decide (x / 268435456 % 2 = 1) = v := ⟨_, rfl⟩
  have eu : (bits .and .u32 (x / 536870912) 1 == 1) = u := by rw [u32_and1 _ (by omega) (by omega), ← hu, Bool.eq_iff_iff]; simp
  have ev : (bits .and .u32 (x / 268435456) 1 == 1) = v := by rw [u32_and1 _ (by omega) (by omega), ← hv, Bool.eq_iff_iff]; simp
  have e15 := u32_and15 x h0 h1
  have e16 : wrap64 (IntKind.u16.wrap x) = x % 65536 := by rw [IntKind.wrap_u16]; unfold wrap64; omega
  have hins : insOf x = ⟨1, u, v, x / 16777216 % 16, x / 1048576 % 16, 0, x / 65536 % 16, x % 65536⟩ := by
    unfold insOf
    rw [hf, hu, hv]
    simp
  have HINS := Lib.hid hins
  have HIM := Lib.hid (insOf_im x h0 h1)
  clear hins hu hv
  go_enter Tryz.func54, Tryz.ntmps54
  go_wp2_with fail
  refine (p_Get24 x _ h0 h1).mono ?_
  rintro e w1 ⟨rfl, n1, rfl⟩
  go_wp2_with fail
  refine (p_Get20 x _ h0 h1).mono ?_
  rintro e w2 ⟨rfl, n2, rfl⟩
  go_wp2_with fail
  refine (p_Get16 x _ h0 h1).mono ?_
  rintro e w3 ⟨rfl, n3, rfl⟩
  go_wp2_with fail
  rw [← insV_eq, ← HINS.out]
  refine (p_Encode (insOf x) _ HIM.out).mono ?_
  rintro e w4 ⟨rfl, hB4⟩
  have hb0 : w4.heap[w.heap.size]? = some (.cells #[.int .i64 0, .bool false, .bool false, .int .i64 0, .int .i64 0, .int .i64 0, .int .i64 0, .int .i64 0] 45 (0, 0)) := b_below (by with_reducible repeat (first | exact b_new _ _ | refine b_drewN ?_ _ | refine b_far ?_ (by simp) _ | refine b_alloc ?_ _)) hB4
  have hb1 : w4.heap[w.heap.size + 1]? = some (.cells #[.int .i64 1, .bool u, .bool v, .int .i64 (x / 16777216 % 16), .int .i64 (x / 1048576 % 16), .int .i64 (0), .int .i64 (x / 65536 % 16), .int .i64 (x % 65536)] 45 (0, 0)) := b_below (by
    (with_reducible repeat (first | refine b_drewN ?_ _ | apply b_put | refine b_far ?_ (by simp) _))
    exact b_at (by simp) _
    all_goals rfl) hB4
  have hB5 : Below w.heap.size w w4 := Below.trans (by with_reducible repeat (first | exact Below.refl _ _ | refine Below.setCell ?_ (by simp) _ | refine Below.alloc ?_ (by simp) _ | refine Below.trans ?_ (bdrew _ _ _))) (hB4.mono (by simp; omega))
  have hl0 := block_lt hb0
  have hl1 := block_lt hb1
  obtain ⟨q0, q1, q2, q3, q4, q5, q6, q7⟩ := b_cells8 hb1
  obtain ⟨r0, r1, r2, r3, r4, r5, r6, r7⟩ := b_cells8 hb0
  have z0 := b_free hb0
  have HB0 := Lib.hid hb0
  clear hB4 hb0 hb1
  cases hg : goodI (insOf x) with
  | false =>
    have hd := decW_bad1 hg
    rw [show encW (insOf x) = (0, 20) by simp [encW, hg]]
    have HD := Lib.hid hd
    clear hg hd
    go_wp2_with fail
    refine bodyPost_ret (res_ct rfl _ _ w.heap.size 45 _ (0, 0) _ rfl (b_set8 HB0.out _ _ _ _ _ _ _ _) Tryz.underlying45 rfl (by kernel_rfl)) rfl ⟨by rw [HD.out]; rfl, ?_⟩
    with_reducible repeat (first | exact hB5 | refine Below.setCell ?_ (by simp) _ | refine Below.trans ?_ (bdrew _ _ _))
  | true =>
    rw [show encW (insOf x) = (encI (insOf x), 0) by simp [encW, hg]]
    obtain ⟨q, hq⟩ : ∃ q, encI (insOf x) = q := ⟨_, rfl⟩
    rw [hq]
    by_cases he : q = x
    · have hd := decW_good hg (hq.trans he)
      have hne : (q != x) = false := by simp [he]
      have HD := Lib.hid hd
      clear hg hd hq he
      go_wp2_with fail
      refine bodyPost_ret (res_ct rfl _ _ w.heap.size 45 _ (0, 0) _ rfl (b_set8 HB0.out _ _ _ _ _ _ _ _) Tryz.underlying45 rfl (by kernel_rfl)) rfl ⟨by rw [HD.out, HINS.out]; rfl, ?_⟩
      with_reducible repeat (first | exact hB5 | refine Below.setCell ?_ (by simp) _ | refine Below.trans ?_ (bdrew _ _ _))
    · have hd := decW_bad2 (x := x) (by rw [hq]; exact he)
      have hne : (q != x) = true := by simp [he]
      have HD := Lib.hid hd
      clear hg hd hq he
      go_wp2_with fail
      refine bodyPost_ret (res_ct rfl _ _ w.heap.size 45 _ (0, 0) _ rfl (b_set8 HB0.out _ _ _ _ _ _ _ _) Tryz.underlying45 rfl (by kernel_rfl)) rfl ⟨by rw [HD.out]; rfl, ?_⟩
      with_reducible repeat (first | exact hB5 | refine Below.setCell ?_ (by simp) _ | refine Below.trans ?_ (bdrew _ _ _))
set_option maxRecDepth 100000 in
set_option maxHeartbeats 8000000 in
theorem p_Dec2 (x : Int) (w : World) (h0 : 0 ≤ x) (h1 : x ≤ 4294967295) (hf : x / 1073741824 = 2) : Calls Tryz.prog 54 #[.int .u32 x] w (AtDec x w) := by
  obtain ⟨u, hu⟩ : ∃ u, decide (x / 536870912 % 2 = 1) = u := ⟨_, rfl⟩
  obtain ⟨v, hv⟩ : ∃ v, decide (x / 268435456 % 2 = 1) = v := ⟨_, rfl⟩
  have eu : (bits .and .u32 (x / 536870912) 1 == 1) = u := by rw [u32_and1 _ (by omega) (by omega), ← hu, Bool.eq_iff_iff]; simp
  have ev : (bits .and .u32 (x / 268435456) 1 == 1) = v := by rw [u32_and1 _ (by omega) (by omega), ← hv, Bool.eq_iff_iff]; simp
  have e15 := u32_and15 x h0 h1
  have e16 : wrap64 (IntKind.u16.wrap x) = x % 65536 := by rw [IntKind.wrap_u16]; unfold wrap64; omega
  have hins : insOf x = ⟨2, u, v, x / 16777216 % 16, x / 1048576 % 16, 0, 0, sext (x % 1048576) 1048576⟩ := by
    unfold insOf
    rw [hf, hu, hv]
    simp
  have HINS := Lib.hid hins
  have HIM := Lib.hid (insOf_im x h0 h1)
  clear hins hu hv
  go_enter Tryz.func54, Tryz.ntmps54
  go_wp2_with fail
  refine (p_Get24 x _ h0 h1).mono ?_
  rintro e w1 ⟨rfl, n1, rfl⟩
  go_wp2_with fail
  refine (p_Get20 x _ h0 h1).mono ?_
  rintro e w2 ⟨rfl, n2, rfl⟩
  go_wp2_with fail
  refine (p_Ext20 x _ h0 h1).mono ?_
  rintro e w3 ⟨rfl, rfl⟩
  go_wp2_with fail
  rw [← insV_eq, ← HINS.out]
  refine (p_Encode (insOf x) _ HIM.out).mono ?_
  rintro e w4 ⟨rfl, hB4⟩
  have hb0 : w4.heap[w.heap.size]? = some (.cells #[.int .i64 0, .bool false, .bool false, .int .i64 0, .int .i64 0, .int .i64 0, .int .i64 0, .int .i64 0] 45 (0, 0)) := b_below (by with_reducible repeat (first | exact b_new _ _ | refine b_drewN ?_ _ | refine b_far ?_ (by simp) _ | refine b_alloc ?_ _)) hB4
  have hb1 : w4.heap[w.heap.size + 1]? = some (.cells #[.int .i64 2, .bool u, .bool v, .int .i64 (x / 16777216 % 16), .int .i64 (x / 1048576 % 16), .int .i64 (0), .int .i64 (0), .int .i64 (sext (x % 1048576) 1048576)] 45 (0, 0)) := b_below (by
    (with_reducible repeat (first | refine b_drewN ?_ _ | apply b_put | refine b_far ?_ (by simp) _))
    exact b_at (by simp) _
    all_goals rfl) hB4
  have hB5 : Below w.heap.size w w4 := Below.trans (by with_reducible repeat (first | exact Below.refl _ _ | refine Below.setCell ?_ (by simp) _ | refine Below.alloc ?_ (by simp) _ | refine Below.trans ?_ (bdrew _ _ _))) (hB4.mono (by simp; omega))
  have hl0 := block_lt hb0
  have hl1 := block_lt hb1
  obtain ⟨q0, q1, q2, q3, q4, q5, q6, q7⟩ := b_cells8 hb1
  obtain ⟨r0, r1, r2, r3, r4, r5, r6, r7⟩ := b_cells8 hb0
  have z0 := b_free hb0
  have HB0 := Lib.hid hb0
  clear hB4 hb0 hb1
  cases hg : goodI (insOf x) with
  | false =>
    have hd := decW_bad1 hg
    rw [show encW (insOf x) = (0, 20) by simp [encW, hg]]
    have HD := Lib.hid hd
    clear hg hd
    go_wp2_with fail
    refine bodyPost_ret (res_ct rfl _ _ w.heap.size 45 _ (0, 0) _ rfl (b_set8 HB0.out _ _ _ _ _ _ _ _) Tryz.underlying45 rfl (by kernel_rfl)) rfl ⟨by rw [HD.out]; rfl, ?_⟩
    with_reducible repeat (first | exact hB5 | refine Below.setCell ?_ (by simp) _ | refine Below.trans ?_ (bdrew _ _ _))
  | true =>
    rw [show encW (insOf x) = (encI (insOf x), 0) by simp [encW, hg]]
    obtain ⟨q, hq⟩ : ∃ q, encI (insOf x) = q := ⟨_, rfl⟩
    rw [hq]
    by_cases he : q = x
    · have hd := decW_good hg (hq.trans he)
      have hne : (q != x) = false := by simp [he]
      have HD := Lib.hid hd
      clear hg hd hq he
      go_wp2_with fail
      refine bodyPost_ret (res_ct rfl _ _ w.heap.size 45 _ (0, 0) _ rfl (b_set8 HB0.out _ _ _ _ _ _ _ _) Tryz.underlying45 rfl (by kernel_rfl)) rfl ⟨by rw [HD.out, HINS.out]; rfl, ?_⟩
      with_reducible repeat (first | exact hB5 | refine Below.setCell ?_ (by simp) _ | refine Below.trans ?_ (bdrew _ _ _))
    · have hd := decW_bad2 (x := x) (by rw [hq]; exact he)
      have hne : (q != x) = true := by simp [he]
      have HD := Lib.hid hd
      clear hg hd hq he
      go_wp2_with fail
      refine bodyPost_ret (res_ct rfl _ _ w.heap.size 45 _ (0, 0) _ rfl (b_set8 HB0.out _ _ _ _ _ _ _ _) Tryz.underlying45 rfl (by kernel_rfl)) rfl ⟨by rw [HD.out]; rfl, ?_⟩
      with_reducible repeat (first | exact hB5 | refine Below.setCell ?_ (by simp) _ | refine Below.trans ?_ (bdrew _ _ _))
set_option maxRecDepth 100000 in
set_option maxHeartbeats 8000000 in
theorem p_Dec3t (x : Int) (w : World) (h0 : 0 ≤ x) (h1 : x ≤ 4294967295) (hf : x / 1073741824 = 3) (hx : decide (x / 536870912 % 2 = 1) = true) : Calls Tryz.prog 54 #[.int .u32 x] w (AtDec x w) := by
  have hu := hx
  obtain ⟨v, hv⟩ : ∃ v, decide (x / 268435456 % 2 = 1) = v := ⟨_, rfl⟩
  have eu : (bits .and .u32 (x / 536870912) 1 == 1) = true := by rw [u32_and1 _ (by omega) (by omega), ← hu, Bool.eq_iff_iff]; simp
  have ev : (bits .and .u32 (x / 268435456) 1 == 1) = v := by rw [u32_and1 _ (by omega) (by omega), ← hv, Bool.eq_iff_iff]; simp
  have e15 := u32_and15 x h0 h1
  have e16 : wrap64 (IntKind.u16.wrap x) = x % 65536 := by rw [IntKind.wrap_u16]; unfold wrap64; omega
  have hins : insOf x = ⟨3, true, v, x / 16777216 % 16, 0, 0, 0, sext (x % 16777216) 16777216⟩ := by
    unfold insOf
    rw [hf, hu, hv]
    simp
  have HINS := Lib.hid hins
  have HIM := Lib.hid (insOf_im x h0 h1)
  clear hins hu hv
  go_enter Tryz.func54, Tryz.ntmps54
  go_wp2_with fail
  refine (p_Get24 x _ h0 h1).mono ?_
  rintro e w1 ⟨rfl, n1, rfl⟩
  go_wp2_with fail
  refine (p_Ext24 x _ h0 h1).mono ?_
  rintro e w3 ⟨rfl, rfl⟩
  go_wp2_with fail
  rw [← insV_eq, ← HINS.out]
  refine (p_Encode (insOf x) _ HIM.out).mono ?_
  rintro e w4 ⟨rfl, hB4⟩
  have hb0 : w4.heap[w.heap.size]? = some (.cells #[.int .i64 0, .bool false, .bool false, .int .i64 0, .int .i64 0, .int .i64 0, .int .i64 0, .int .i64 0] 45 (0, 0)) := b_below (by with_reducible repeat (first | exact b_new _ _ | refine b_drewN ?_ _ | refine b_far ?_ (by simp) _ | refine b_alloc ?_ _)) hB4
  have hb1 : w4.heap[w.heap.size + 1]? = some (.cells #[.int .i64 3, .bool true, .bool v, .int .i64 (x / 16777216 % 16), .int .i64 (0), .int .i64 (0), .int .i64 (0), .int .i64 (sext (x % 16777216) 16777216)] 45 (0, 0)) := b_below (by
    (with_reducible repeat (first | refine b_drewN ?_ _ | apply b_put | refine b_far ?_ (by simp) _))
    exact b_at (by simp) _
    all_goals rfl) hB4
  have hB5 : Below w.heap.size w w4 := Below.trans (by with_reducible repeat (first | exact Below.refl _ _ | refine Below.setCell ?_ (by simp) _ | refine Below.alloc ?_ (by simp) _ | refine Below.trans ?_ (bdrew _ _ _))) (hB4.mono (by simp; omega))
  have hl0 := block_lt hb0
  have hl1 := block_lt hb1
  obtain ⟨q0, q1, q2, q3, q4, q5, q6, q7⟩ := b_cells8 hb1
  obtain ⟨r0, r1, r2, r3, r4, r5, r6, r7⟩ := b_cells8 hb0
  have z0 := b_free hb0
  have HB0 := Lib.hid hb0
  clear hB4 hb0 hb1
  cases hg : goodI (insOf x) with
  | false =>
    have hd := decW_bad1 hg
    rw [show encW (insOf x) = (0, 20) by simp [encW, hg]]
    have HD := Lib.hid hd
    clear hg hd
    go_wp2_with fail
    refine bodyPost_ret (res_ct rfl _ _ w.heap.size 45 _ (0, 0) _ rfl (b_set8 HB0.out _ _ _ _ _ _ _ _) Tryz.underlying45 rfl (by kernel_rfl)) rfl ⟨by rw [HD.out]; rfl, ?_⟩
    with_reducible repeat (first | exact hB5 | refine Below.setCell ?_ (by simp) _ | refine Below.trans ?_ (bdrew _ _ _))
  | true =>
    rw [show encW (insOf x) = (encI (insOf x), 0) by simp [encW, hg]]
    obtain ⟨q, hq⟩ : ∃ q, encI (insOf x) = q := ⟨_, rfl⟩
    rw [hq]
    by_cases he : q = x
    · have hd := decW_good hg (hq.trans he)
      have hne : (q != x) = false := by simp [he]
      have HD := Lib.hid hd
      clear hg hd hq he
      go_wp2_with fail
      refine bodyPost_ret (res_ct rfl _ _ w.heap.size 45 _ (0, 0) _ rfl (b_set8 HB0.out _ _ _ _ _ _ _ _) Tryz.underlying45 rfl (by kernel_rfl)) rfl ⟨by rw [HD.out, HINS.out]; rfl, ?_⟩
      with_reducible repeat (first | exact hB5 | refine Below.setCell ?_ (by simp) _ | refine Below.trans ?_ (bdrew _ _ _))
    · have hd := decW_bad2 (x := x) (by rw [hq]; exact he)
      have hne : (q != x) = true := by simp [he]
      have HD := Lib.hid hd
      clear hg hd hq he
      go_wp2_with fail
      refine bodyPost_ret (res_ct rfl _ _ w.heap.size 45 _ (0, 0) _ rfl (b_set8 HB0.out _ _ _ _ _ _ _ _) Tryz.underlying45 rfl (by kernel_rfl)) rfl ⟨by rw [HD.out]; rfl, ?_⟩
      with_reducible repeat (first | exact hB5 | refine Below.setCell ?_ (by simp) _ | refine Below.trans ?_ (bdrew _ _ _))
set_option maxRecDepth 100000 in
set_option maxHeartbeats 8000000 in
theorem p_Dec3f (x : Int) (w : World) (h0 : 0 ≤ x) (h1 : x ≤ 4294967295) (hf : x / 1073741824 = 3) (hx : decide (x / 536870912 % 2 = 1) = false) : Calls Tryz.prog 54 #[.int .u32 x] w (AtDec x w) := by
  have hu := hx
  obtain ⟨v, hv⟩ : ∃ v, decide (x / 268435456 % 2 = 1) = v := ⟨_, rfl⟩
  have eu : (bits .and .u32 (x / 536870912) 1 == 1) = false := by rw [u32_and1 _ (by omega) (by omega), ← hu, Bool.eq_iff_iff]; simp
  have ev : (bits .and .u32 (x / 268435456) 1 == 1) = v := by rw [u32_and1 _ (by omega) (by omega), ← hv, Bool.eq_iff_iff]; simp
  have e15 := u32_and15 x h0 h1
  have e16 : wrap64 (IntKind.u16.wrap x) = x % 65536 := by rw [IntKind.wrap_u16]; unfold wrap64; omega
  have hins : insOf x = ⟨3, false, v, x / 16777216 % 16, 0, x % 16, 0, 0⟩ := by
    unfold insOf
    rw [hf, hu, hv]
    simp
  have HINS := Lib.hid hins
  have HIM := Lib.hid (insOf_im x h0 h1)
  clear hins hu hv
  go_enter Tryz.func54, Tryz.ntmps54
  go_wp2_with fail
  refine (p_Get24 x _ h0 h1).mono ?_
  rintro e w1 ⟨rfl, n1, rfl⟩
  go_wp2_with fail
  rw [← insV_eq, ← HINS.out]
  refine (p_Encode (insOf x) _ HIM.out).mono ?_
  rintro e w4 ⟨rfl, hB4⟩
  have hb0 : w4.heap[w.heap.size]? = some (.cells #[.int .i64 0, .bool false, .bool false, .int .i64 0, .int .i64 0, .int .i64 0, .int .i64 0, .int .i64 0] 45 (0, 0)) := b_below (by with_reducible repeat (first | exact b_new _ _ | refine b_drewN ?_ _ | refine b_far ?_ (by simp) _ | refine b_alloc ?_ _)) hB4
  have hb1 : w4.heap[w.heap.size + 1]? = some (.cells #[.int .i64 3, .bool false, .bool v, .int .i64 (x / 16777216 % 16), .int .i64 (0), .int .i64 (x % 16), .int .i64 (0), .int .i64 (0)] 45 (0, 0)) := b_below (by
    (with_reducible repeat (first | refine b_drewN ?_ _ | apply b_put | refine b_far ?_ (by simp) _))
    exact b_at (by simp) _
    all_goals rfl) hB4
  have hB5 : Below w.heap.size w w4 := Below.trans (by with_reducible repeat (first | exact Below.refl _ _ | refine Below.setCell ?_ (by simp) _ | refine Below.alloc ?_ (by simp) _ | refine Below.trans ?_ (bdrew _ _ _))) (hB4.mono (by simp; omega))
  have hl0 := block_lt hb0
  have hl1 := block_lt hb1
  obtain ⟨q0, q1, q2, q3, q4, q5, q6, q7⟩ := b_cells8 hb1
  obtain ⟨r0, r1, r2, r3, r4, r5, r6, r7⟩ := b_cells8 hb0
  have z0 := b_free hb0
  have HB0 := Lib.hid hb0
  clear hB4 hb0 hb1
  cases hg : goodI (insOf x) with
  | false =>
    have hd := decW_bad1 hg
    rw [show encW (insOf x) = (0, 20) by simp [encW, hg]]
    have HD := Lib.hid hd
    clear hg hd
    go_wp2_with fail
    refine bodyPost_ret (res_ct rfl _ _ w.heap.size 45 _ (0, 0) _ rfl (b_set8 HB0.out _ _ _ _ _ _ _ _) Tryz.underlying45 rfl (by kernel_rfl)) rfl ⟨by rw [HD.out]; rfl, ?_⟩
    with_reducible repeat (first | exact hB5 | refine Below.setCell ?_ (by simp) _ | refine Below.trans ?_ (bdrew _ _ _))
  | true =>
    rw [show encW (insOf x) = (encI (insOf x), 0) by simp [encW, hg]]
    obtain ⟨q, hq⟩ : ∃ q, encI (insOf x) = q := ⟨_, rfl⟩
    rw [hq]
    by_cases he : q = x
    · have hd := decW_good hg (hq.trans he)
      have hne : (q != x) = false := by simp [he]
      have HD := Lib.hid hd
      clear hg hd hq he
      go_wp2_with fail
      refine bodyPost_ret (res_ct rfl _ _ w.heap.size 45 _ (0, 0) _ rfl (b_set8 HB0.out _ _ _ _ _ _ _ _) Tryz.underlying45 rfl (by kernel_rfl)) rfl ⟨by rw [HD.out, HINS.out]; rfl, ?_⟩
      with_reducible repeat (first | exact hB5 | refine Below.setCell ?_ (by simp) _ | refine Below.trans ?_ (bdrew _ _ _))
    · have hd := decW_bad2 (x := x) (by rw [hq]; exact he)
      have hne : (q != x) = true := by simp [he]
      have HD := Lib.hid hd
      clear hg hd hq he
      go_wp2_with fail
      refine bodyPost_ret (res_ct rfl _ _ w.heap.size 45 _ (0, 0) _ rfl (b_set8 HB0.out _ _ _ _ _ _ _ _) Tryz.underlying45 rfl (by kernel_rfl)) rfl ⟨by rw [HD.out]; rfl, ?_⟩
      with_reducible repeat (first | exact hB5 | refine Below.setCell ?_ (by simp) _ | refine Below.trans ?_ (bdrew _ _ _))
theorem p_Decode (x : Int) (w : World) (h0 : 0 ≤ x) (h1 : x ≤ 4294967295) : Calls Tryz.prog 54 #[.int .u32 x] w (AtDec x w) := by
  have hf : x / 1073741824 = 0 ∨ x / 1073741824 = 1 ∨ x / 1073741824 = 2 ∨ x / 1073741824 = 3 := by omega
  rcases hf with hf | hf | hf | hf
  · exact p_Dec0 x w h0 h1 hf
  · exact p_Dec1 x w h0 h1 hf
  · exact p_Dec2 x w h0 h1 hf
  · cases hx : decide (x / 536870912 % 2 = 1) with
    | true => exact p_Dec3t x w h0 h1 hf hx
    | false => exact p_Dec3f x w h0 h1 hf hx
end Go.Proofs.YtjjgjadfnongfaaGreatDoor
