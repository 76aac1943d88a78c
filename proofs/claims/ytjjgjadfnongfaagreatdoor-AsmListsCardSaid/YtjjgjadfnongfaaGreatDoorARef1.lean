import Derived.Test.YtjjgjadfnongfaaGreatDoorAEnc
import Derived.Test.YtjjgjadfnongfaaGreatDoorABlk
set_option linter.unusedVariables false
set_option linter.unusedSimpArgs false
namespace Go.Proofs.YtjjgjadfnongfaaGreatDoor
open Go.RowKit Go.Maps Go.MapKept
def powI (n : Int) : Int := ((2 ^ n.toNat : Nat) : Int)
set_option maxRecDepth 100000 in
set_option maxHeartbeats 1600000 in
theorem r_pow (n : Int) (w : World) (h0 : 0 ≤ n) (h1 : n ≤ 32) : Calls Tryz.prog 72 #[.int .u32 n] w (Is (.int .u64 (powI n)) w) := by
  obtain ⟨r, hr⟩ : ∃ r, powI n = r := ⟨_, rfl⟩
  rw [hr]
  have HR := Lib.hid hr
  clear hr
  go_enter Tryz.func72, Tryz.ntmps72
  go_wp2
  go_loop [3, 4] (fun p i => ∃ (k P : Int), 0 ≤ k ∧ k ≤ n ∧ i = .int .u32 k ∧ p = .int .u64 P ∧ Hid (P = powI k) ∧ 0 ≤ P ∧ P ≤ 4294967296) (fun _ i => (n - intOf i).toNat)
  case atStart => exact ⟨0, 1, by omega, by omega, rfl, rfl, rfl, by omega, by omega⟩
  case round =>
    obtain ⟨k, P, hk0, hk, rfl, rfl, HP, hP0, hP1⟩ := hrel
    by_cases hlt : k < n
    · have hstep : powI (k + 1) = P * 2 := by
        rw [HP.out, powI, powI, show (k + 1).toNat = k.toNat + 1 by omega, Nat.pow_succ]; omega
      have hle : P ≤ 2147483648 := by
        rw [HP.out, powI]
        have : 2 ^ k.toNat ≤ 2 ^ 31 := Nat.pow_le_pow_right (by omega) (by omega)
        have e : (2 : Nat) ^ 31 = 2147483648 := rfl
        omega
      have HS := Lib.hid hstep
      clear hstep
      go_wp2
      go_round
      case rel => exact ⟨k + 1, P * 2, by omega, by omega, rfl, rfl, HS.out.symm, by omega, by omega⟩
      case measure => simp [intOf]; omega
    · have hk2 : k = n := by omega
      subst hk2
      go_wp2
      go_ret
      exact is_int (by rw [← HR.out, HP.out])
set_option maxRecDepth 100000 in
set_option maxHeartbeats 1600000 in
theorem r_Get_30_2 (x : Int) (w : World) (h0 : 0 ≤ x) (h1 : x ≤ 4294967295) : Calls Tryz.prog 71 #[.int .u32 x, .int .i64 30, .int .i64 2] w (fun e w' => e = .returned (.int .u32 (x / 1073741824 % 4)) ∧ ∃ n, w' = w.drewN n) := by
  have e2 : powI 2 = 4 := rfl
  have e30 : powI 30 = 1073741824 := rfl
  obtain ⟨r, hr⟩ : ∃ r, x / 1073741824 % 4 = r := ⟨_, rfl⟩
  rw [hr]
  have hr0 : 0 ≤ r ∧ r ≤ 4294967295 := by omega
  obtain ⟨hr0, hr1⟩ := hr0
  have HR := Lib.hid hr
  clear hr
  go_enter Tryz.func71, Tryz.ntmps71
  go_wp2
  go_quiet ((go_at_call 72; exact Calls.quiet_of_same (r_pow _ _ (by omega) (by omega))))
  go_wp2
  go_ret
  exact ⟨by have := HR.out; first | (rw [← this]; rfl) | (congr 2; omega), _, rfl⟩
theorem r_may_30_2 (w : World) : Calls Tryz.prog 70 #[.int .i64 30, .int .i64 2] w (Is (.bool true) w) := by
  go_enter Tryz.func70, Tryz.ntmps70
  go_wp2
  go_ret
  exact ⟨rfl, rfl⟩
set_option maxRecDepth 100000 in
set_option maxHeartbeats 1600000 in
theorem r_Put_30_2 (x v r : Int) (w : World) (h0 : 0 ≤ x) (h1 : x ≤ 4294967295) (hx : x / 1073741824 % 4 = 0) (v0 : 0 ≤ v) (v1 : v ≤ 4294967295) (hr : x + v % 4 * 1073741824 = r) : Calls Tryz.prog 43 #[.int .u32 x, .int .i64 30, .int .i64 2, .int .u32 v] w (fun e w' => e = .returned (.int .u32 r) ∧ ∃ n, w' = w.drewN n) := by
  have e2 : powI 2 = 4 := rfl
  have e30 : powI 30 = 1073741824 := rfl
  have hr0 : 0 ≤ r ∧ r ≤ 4294967295 := by omega
  obtain ⟨hr0, hr1⟩ := hr0
  have HR := Lib.hid hr
  clear hr
  go_enter Tryz.func43, Tryz.ntmps43
  go_wp2_with (first | (go_at_call 70; refine (r_may_30_2 _).mono ?_; rintro e w0 ⟨rfl, rfl⟩) | (go_at_call 71; refine (r_Get_30_2 x _ h0 h1).mono ?_; rintro e w1 ⟨rfl, n1, hw1⟩; rw [hx]; have HW := Lib.hid hw1; clear hw1) | (go_at_call 72; refine (r_pow _ _ (by omega) (by omega)).mono ?_; rintro e w2 ⟨rfl, rfl⟩))
  go_quiet ((go_at_call 72; exact Calls.quiet_of_same (r_pow _ _ (by omega) (by omega))))
  go_wp2
  go_ret
  exact ⟨by have := HR.out; first | (rw [← this]; rfl) | (congr 2; omega), _, by rw [HW.out, World.drewN_drewN]⟩
set_option maxRecDepth 100000 in
set_option maxHeartbeats 1600000 in
theorem r_Get_29_1 (x : Int) (w : World) (h0 : 0 ≤ x) (h1 : x ≤ 4294967295) : Calls Tryz.prog 71 #[.int .u32 x, .int .i64 29, .int .i64 1] w (fun e w' => e = .returned (.int .u32 (x / 536870912 % 2)) ∧ ∃ n, w' = w.drewN n) := by
  have e1 : powI 1 = 2 := rfl
  have e29 : powI 29 = 536870912 := rfl
  obtain ⟨r, hr⟩ : ∃ r, x / 536870912 % 2 = r := ⟨_, rfl⟩
  rw [hr]
  have hr0 : 0 ≤ r ∧ r ≤ 4294967295 := by omega
  obtain ⟨hr0, hr1⟩ := hr0
  have HR := Lib.hid hr
  clear hr
  go_enter Tryz.func71, Tryz.ntmps71
  go_wp2
  go_quiet ((go_at_call 72; exact Calls.quiet_of_same (r_pow _ _ (by omega) (by omega))))
  go_wp2
  go_ret
  exact ⟨by have := HR.out; first | (rw [← this]; rfl) | (congr 2; omega), _, rfl⟩
theorem r_may_29_1 (w : World) : Calls Tryz.prog 70 #[.int .i64 29, .int .i64 1] w (Is (.bool true) w) := by
  go_enter Tryz.func70, Tryz.ntmps70
  go_wp2
  go_ret
  exact ⟨rfl, rfl⟩
set_option maxRecDepth 100000 in
set_option maxHeartbeats 1600000 in
theorem r_Put_29_1 (x v r : Int) (w : World) (h0 : 0 ≤ x) (h1 : x ≤ 4294967295) (hx : x / 536870912 % 2 = 0) (v0 : 0 ≤ v) (v1 : v ≤ 4294967295) (hr : x + v % 2 * 536870912 = r) : Calls Tryz.prog 43 #[.int .u32 x, .int .i64 29, .int .i64 1, .int .u32 v] w (fun e w' => e = .returned (.int .u32 r) ∧ ∃ n, w' = w.drewN n) := by
  have e1 : powI 1 = 2 := rfl
  have e29 : powI 29 = 536870912 := rfl
  have hr0 : 0 ≤ r ∧ r ≤ 4294967295 := by omega
  obtain ⟨hr0, hr1⟩ := hr0
  have HR := Lib.hid hr
  clear hr
  go_enter Tryz.func43, Tryz.ntmps43
  go_wp2_with (first | (go_at_call 70; refine (r_may_29_1 _).mono ?_; rintro e w0 ⟨rfl, rfl⟩) | (go_at_call 71; refine (r_Get_29_1 x _ h0 h1).mono ?_; rintro e w1 ⟨rfl, n1, hw1⟩; rw [hx]; have HW := Lib.hid hw1; clear hw1) | (go_at_call 72; refine (r_pow _ _ (by omega) (by omega)).mono ?_; rintro e w2 ⟨rfl, rfl⟩))
  go_quiet ((go_at_call 72; exact Calls.quiet_of_same (r_pow _ _ (by omega) (by omega))))
  go_wp2
  go_ret
  exact ⟨by have := HR.out; first | (rw [← this]; rfl) | (congr 2; omega), _, by rw [HW.out, World.drewN_drewN]⟩
set_option maxRecDepth 100000 in
set_option maxHeartbeats 1600000 in
theorem r_Get_28_1 (x : Int) (w : World) (h0 : 0 ≤ x) (h1 : x ≤ 4294967295) : Calls Tryz.prog 71 #[.int .u32 x, .int .i64 28, .int .i64 1] w (fun e w' => e = .returned (.int .u32 (x / 268435456 % 2)) ∧ ∃ n, w' = w.drewN n) := by
  have e1 : powI 1 = 2 := rfl
  have e28 : powI 28 = 268435456 := rfl
  obtain ⟨r, hr⟩ : ∃ r, x / 268435456 % 2 = r := ⟨_, rfl⟩
  rw [hr]
  have hr0 : 0 ≤ r ∧ r ≤ 4294967295 := by omega
  obtain ⟨hr0, hr1⟩ := hr0
  have HR := Lib.hid hr
  clear hr
  go_enter Tryz.func71, Tryz.ntmps71
  go_wp2
  go_quiet ((go_at_call 72; exact Calls.quiet_of_same (r_pow _ _ (by omega) (by omega))))
  go_wp2
  go_ret
  exact ⟨by have := HR.out; first | (rw [← this]; rfl) | (congr 2; omega), _, rfl⟩
theorem r_may_28_1 (w : World) : Calls Tryz.prog 70 #[.int .i64 28, .int .i64 1] w (Is (.bool true) w) := by
  go_enter Tryz.func70, Tryz.ntmps70
  go_wp2
  go_ret
  exact ⟨rfl, rfl⟩
set_option maxRecDepth 100000 in
set_option maxHeartbeats 1600000 in
theorem r_Put_28_1 (x v r : Int) (w : World) (h0 : 0 ≤ x) (h1 : x ≤ 4294967295) (hx : x / 268435456 % 2 = 0) (v0 : 0 ≤ v) (v1 : v ≤ 4294967295) (hr : x + v % 2 * 268435456 = r) : Calls Tryz.prog 43 #[.int .u32 x, .int .i64 28, .int .i64 1, .int .u32 v] w (fun e w' => e = .returned (.int .u32 r) ∧ ∃ n, w' = w.drewN n) := by
  have e1 : powI 1 = 2 := rfl
  have e28 : powI 28 = 268435456 := rfl
  have hr0 : 0 ≤ r ∧ r ≤ 4294967295 := by omega
  obtain ⟨hr0, hr1⟩ := hr0
  have HR := Lib.hid hr
  clear hr
  go_enter Tryz.func43, Tryz.ntmps43
  go_wp2_with (first | (go_at_call 70; refine (r_may_28_1 _).mono ?_; rintro e w0 ⟨rfl, rfl⟩) | (go_at_call 71; refine (r_Get_28_1 x _ h0 h1).mono ?_; rintro e w1 ⟨rfl, n1, hw1⟩; rw [hx]; have HW := Lib.hid hw1; clear hw1) | (go_at_call 72; refine (r_pow _ _ (by omega) (by omega)).mono ?_; rintro e w2 ⟨rfl, rfl⟩))
  go_quiet ((go_at_call 72; exact Calls.quiet_of_same (r_pow _ _ (by omega) (by omega))))
  go_wp2
  go_ret
  exact ⟨by have := HR.out; first | (rw [← this]; rfl) | (congr 2; omega), _, by rw [HW.out, World.drewN_drewN]⟩
set_option maxRecDepth 100000 in
set_option maxHeartbeats 1600000 in
theorem r_Get_24_4 (x : Int) (w : World) (h0 : 0 ≤ x) (h1 : x ≤ 4294967295) : Calls Tryz.prog 71 #[.int .u32 x, .int .i64 24, .int .i64 4] w (fun e w' => e = .returned (.int .u32 (x / 16777216 % 16)) ∧ ∃ n, w' = w.drewN n) := by
  have e4 : powI 4 = 16 := rfl
  have e24 : powI 24 = 16777216 := rfl
  obtain ⟨r, hr⟩ : ∃ r, x / 16777216 % 16 = r := ⟨_, rfl⟩
  rw [hr]
  have hr0 : 0 ≤ r ∧ r ≤ 4294967295 := by omega
  obtain ⟨hr0, hr1⟩ := hr0
  have HR := Lib.hid hr
  clear hr
  go_enter Tryz.func71, Tryz.ntmps71
  go_wp2
  go_quiet ((go_at_call 72; exact Calls.quiet_of_same (r_pow _ _ (by omega) (by omega))))
  go_wp2
  go_ret
  exact ⟨by have := HR.out; first | (rw [← this]; rfl) | (congr 2; omega), _, rfl⟩
theorem r_may_24_4 (w : World) : Calls Tryz.prog 70 #[.int .i64 24, .int .i64 4] w (Is (.bool true) w) := by
  go_enter Tryz.func70, Tryz.ntmps70
  go_wp2
  go_ret
  exact ⟨rfl, rfl⟩
set_option maxRecDepth 100000 in
set_option maxHeartbeats 1600000 in
theorem r_Put_24_4 (x v r : Int) (w : World) (h0 : 0 ≤ x) (h1 : x ≤ 4294967295) (hx : x / 16777216 % 16 = 0) (v0 : 0 ≤ v) (v1 : v ≤ 4294967295) (hr : x + v % 16 * 16777216 = r) : Calls Tryz.prog 43 #[.int .u32 x, .int .i64 24, .int .i64 4, .int .u32 v] w (fun e w' => e = .returned (.int .u32 r) ∧ ∃ n, w' = w.drewN n) := by
  have e4 : powI 4 = 16 := rfl
  have e24 : powI 24 = 16777216 := rfl
  have hr0 : 0 ≤ r ∧ r ≤ 4294967295 := by omega
  obtain ⟨hr0, hr1⟩ := hr0
  have HR := Lib.hid hr
  clear hr
  go_enter Tryz.func43, Tryz.ntmps43
  go_wp2_with (first | (go_at_call 70; refine (r_may_24_4 _).mono ?_; rintro e w0 ⟨rfl, rfl⟩) | (go_at_call 71; refine (r_Get_24_4 x _ h0 h1).mono ?_; rintro e w1 ⟨rfl, n1, hw1⟩; rw [hx]; have HW := Lib.hid hw1; clear hw1) | (go_at_call 72; refine (r_pow _ _ (by omega) (by omega)).mono ?_; rintro e w2 ⟨rfl, rfl⟩))
  go_quiet ((go_at_call 72; exact Calls.quiet_of_same (r_pow _ _ (by omega) (by omega))))
  go_wp2
  go_ret
  exact ⟨by have := HR.out; first | (rw [← this]; rfl) | (congr 2; omega), _, by rw [HW.out, World.drewN_drewN]⟩
set_option maxRecDepth 100000 in
set_option maxHeartbeats 1600000 in
theorem r_Get_20_4 (x : Int) (w : World) (h0 : 0 ≤ x) (h1 : x ≤ 4294967295) : Calls Tryz.prog 71 #[.int .u32 x, .int .i64 20, .int .i64 4] w (fun e w' => e = .returned (.int .u32 (x / 1048576 % 16)) ∧ ∃ n, w' = w.drewN n) := by
  have e4 : powI 4 = 16 := rfl
  have e20 : powI 20 = 1048576 := rfl
  obtain ⟨r, hr⟩ : ∃ r, x / 1048576 % 16 = r := ⟨_, rfl⟩
  rw [hr]
  have hr0 : 0 ≤ r ∧ r ≤ 4294967295 := by omega
  obtain ⟨hr0, hr1⟩ := hr0
  have HR := Lib.hid hr
  clear hr
  go_enter Tryz.func71, Tryz.ntmps71
  go_wp2
  go_quiet ((go_at_call 72; exact Calls.quiet_of_same (r_pow _ _ (by omega) (by omega))))
  go_wp2
  go_ret
  exact ⟨by have := HR.out; first | (rw [← this]; rfl) | (congr 2; omega), _, rfl⟩
theorem r_may_20_4 (w : World) : Calls Tryz.prog 70 #[.int .i64 20, .int .i64 4] w (Is (.bool true) w) := by
  go_enter Tryz.func70, Tryz.ntmps70
  go_wp2
  go_ret
  exact ⟨rfl, rfl⟩
set_option maxRecDepth 100000 in
set_option maxHeartbeats 1600000 in
theorem r_Put_20_4 (x v r : Int) (w : World) (h0 : 0 ≤ x) (h1 : x ≤ 4294967295) (hx : x / 1048576 % 16 = 0) (v0 : 0 ≤ v) (v1 : v ≤ 4294967295) (hr : x + v % 16 * 1048576 = r) : Calls Tryz.prog 43 #[.int .u32 x, .int .i64 20, .int .i64 4, .int .u32 v] w (fun e w' => e = .returned (.int .u32 r) ∧ ∃ n, w' = w.drewN n) := by
  have e4 : powI 4 = 16 := rfl
  have e20 : powI 20 = 1048576 := rfl
  have hr0 : 0 ≤ r ∧ r ≤ 4294967295 := by omega
  obtain ⟨hr0, hr1⟩ := hr0
  have HR := Lib.hid hr
  clear hr
  go_enter Tryz.func43, Tryz.ntmps43
  go_wp2_with (first | (go_at_call 70; refine (r_may_20_4 _).mono ?_; rintro e w0 ⟨rfl, rfl⟩) | (go_at_call 71; refine (r_Get_20_4 x _ h0 h1).mono ?_; rintro e w1 ⟨rfl, n1, hw1⟩; rw [hx]; have HW := Lib.hid hw1; clear hw1) | (go_at_call 72; refine (r_pow _ _ (by omega) (by omega)).mono ?_; rintro e w2 ⟨rfl, rfl⟩))
  go_quiet ((go_at_call 72; exact Calls.quiet_of_same (r_pow _ _ (by omega) (by omega))))
  go_wp2
  go_ret
  exact ⟨by have := HR.out; first | (rw [← this]; rfl) | (congr 2; omega), _, by rw [HW.out, World.drewN_drewN]⟩
set_option maxRecDepth 100000 in
set_option maxHeartbeats 1600000 in
theorem r_Get_16_4 (x : Int) (w : World) (h0 : 0 ≤ x) (h1 : x ≤ 4294967295) : Calls Tryz.prog 71 #[.int .u32 x, .int .i64 16, .int .i64 4] w (fun e w' => e = .returned (.int .u32 (x / 65536 % 16)) ∧ ∃ n, w' = w.drewN n) := by
  have e4 : powI 4 = 16 := rfl
  have e16 : powI 16 = 65536 := rfl
  obtain ⟨r, hr⟩ : ∃ r, x / 65536 % 16 = r := ⟨_, rfl⟩
  rw [hr]
  have hr0 : 0 ≤ r ∧ r ≤ 4294967295 := by omega
  obtain ⟨hr0, hr1⟩ := hr0
  have HR := Lib.hid hr
  clear hr
  go_enter Tryz.func71, Tryz.ntmps71
  go_wp2
  go_quiet ((go_at_call 72; exact Calls.quiet_of_same (r_pow _ _ (by omega) (by omega))))
  go_wp2
  go_ret
  exact ⟨by have := HR.out; first | (rw [← this]; rfl) | (congr 2; omega), _, rfl⟩
theorem r_may_16_4 (w : World) : Calls Tryz.prog 70 #[.int .i64 16, .int .i64 4] w (Is (.bool true) w) := by
  go_enter Tryz.func70, Tryz.ntmps70
  go_wp2
  go_ret
  exact ⟨rfl, rfl⟩
set_option maxRecDepth 100000 in
set_option maxHeartbeats 1600000 in
theorem r_Put_16_4 (x v r : Int) (w : World) (h0 : 0 ≤ x) (h1 : x ≤ 4294967295) (hx : x / 65536 % 16 = 0) (v0 : 0 ≤ v) (v1 : v ≤ 4294967295) (hr : x + v % 16 * 65536 = r) : Calls Tryz.prog 43 #[.int .u32 x, .int .i64 16, .int .i64 4, .int .u32 v] w (fun e w' => e = .returned (.int .u32 r) ∧ ∃ n, w' = w.drewN n) := by
  have e4 : powI 4 = 16 := rfl
  have e16 : powI 16 = 65536 := rfl
  have hr0 : 0 ≤ r ∧ r ≤ 4294967295 := by omega
  obtain ⟨hr0, hr1⟩ := hr0
  have HR := Lib.hid hr
  clear hr
  go_enter Tryz.func43, Tryz.ntmps43
  go_wp2_with (first | (go_at_call 70; refine (r_may_16_4 _).mono ?_; rintro e w0 ⟨rfl, rfl⟩) | (go_at_call 71; refine (r_Get_16_4 x _ h0 h1).mono ?_; rintro e w1 ⟨rfl, n1, hw1⟩; rw [hx]; have HW := Lib.hid hw1; clear hw1) | (go_at_call 72; refine (r_pow _ _ (by omega) (by omega)).mono ?_; rintro e w2 ⟨rfl, rfl⟩))
  go_quiet ((go_at_call 72; exact Calls.quiet_of_same (r_pow _ _ (by omega) (by omega))))
  go_wp2
  go_ret
  exact ⟨by have := HR.out; first | (rw [← this]; rfl) | (congr 2; omega), _, by rw [HW.out, World.drewN_drewN]⟩
set_option maxRecDepth 100000 in
set_option maxHeartbeats 1600000 in
theorem r_Get_0_4 (x : Int) (w : World) (h0 : 0 ≤ x) (h1 : x ≤ 4294967295) : Calls Tryz.prog 71 #[.int .u32 x, .int .i64 0, .int .i64 4] w (fun e w' => e = .returned (.int .u32 (x % 16)) ∧ ∃ n, w' = w.drewN n) := by
  have e0 : powI 0 = 1 := rfl
  have e4 : powI 4 = 16 := rfl
  obtain ⟨r, hr⟩ : ∃ r, x % 16 = r := ⟨_, rfl⟩
  rw [hr]
  have hr0 : 0 ≤ r ∧ r ≤ 4294967295 := by omega
  obtain ⟨hr0, hr1⟩ := hr0
  have HR := Lib.hid hr
  clear hr
  go_enter Tryz.func71, Tryz.ntmps71
  go_wp2
  go_quiet ((go_at_call 72; exact Calls.quiet_of_same (r_pow _ _ (by omega) (by omega))))
  go_wp2
  go_ret
  exact ⟨by have := HR.out; first | (rw [← this]; rfl) | (congr 2; omega), _, rfl⟩
theorem r_may_0_4 (w : World) : Calls Tryz.prog 70 #[.int .i64 0, .int .i64 4] w (Is (.bool true) w) := by
  go_enter Tryz.func70, Tryz.ntmps70
  go_wp2
  go_ret
  exact ⟨rfl, rfl⟩
set_option maxRecDepth 100000 in
set_option maxHeartbeats 1600000 in
theorem r_Put_0_4 (x v r : Int) (w : World) (h0 : 0 ≤ x) (h1 : x ≤ 4294967295) (hx : x % 16 = 0) (v0 : 0 ≤ v) (v1 : v ≤ 4294967295) (hr : x + v % 16 = r) : Calls Tryz.prog 43 #[.int .u32 x, .int .i64 0, .int .i64 4, .int .u32 v] w (fun e w' => e = .returned (.int .u32 r) ∧ ∃ n, w' = w.drewN n) := by
  have e0 : powI 0 = 1 := rfl
  have e4 : powI 4 = 16 := rfl
  have hr0 : 0 ≤ r ∧ r ≤ 4294967295 := by omega
  obtain ⟨hr0, hr1⟩ := hr0
  have HR := Lib.hid hr
  clear hr
  go_enter Tryz.func43, Tryz.ntmps43
  go_wp2_with (first | (go_at_call 70; refine (r_may_0_4 _).mono ?_; rintro e w0 ⟨rfl, rfl⟩) | (go_at_call 71; refine (r_Get_0_4 x _ h0 h1).mono ?_; rintro e w1 ⟨rfl, n1, hw1⟩; rw [hx]; have HW := Lib.hid hw1; clear hw1) | (go_at_call 72; refine (r_pow _ _ (by omega) (by omega)).mono ?_; rintro e w2 ⟨rfl, rfl⟩))
  go_quiet ((go_at_call 72; exact Calls.quiet_of_same (r_pow _ _ (by omega) (by omega))))
  go_wp2
  go_ret
  exact ⟨by have := HR.out; first | (rw [← this]; rfl) | (congr 2; omega), _, by rw [HW.out, World.drewN_drewN]⟩
set_option maxRecDepth 100000 in
set_option maxHeartbeats 1600000 in
theorem r_Get_0_16 (x : Int) (w : World) (h0 : 0 ≤ x) (h1 : x ≤ 4294967295) : Calls Tryz.prog 71 #[.int .u32 x, .int .i64 0, .int .i64 16] w (fun e w' => e = .returned (.int .u32 (x % 65536)) ∧ ∃ n, w' = w.drewN n) := by
  have e0 : powI 0 = 1 := rfl
  have e16 : powI 16 = 65536 := rfl
  obtain ⟨r, hr⟩ : ∃ r, x % 65536 = r := ⟨_, rfl⟩
  rw [hr]
  have hr0 : 0 ≤ r ∧ r ≤ 4294967295 := by omega
  obtain ⟨hr0, hr1⟩ := hr0
  have HR := Lib.hid hr
  clear hr
  go_enter Tryz.func71, Tryz.ntmps71
  go_wp2
  go_quiet ((go_at_call 72; exact Calls.quiet_of_same (r_pow _ _ (by omega) (by omega))))
  go_wp2
  go_ret
  exact ⟨by have := HR.out; first | (rw [← this]; rfl) | (congr 2; omega), _, rfl⟩
theorem r_may_0_16 (w : World) : Calls Tryz.prog 70 #[.int .i64 0, .int .i64 16] w (Is (.bool true) w) := by
  go_enter Tryz.func70, Tryz.ntmps70
  go_wp2
  go_ret
  exact ⟨rfl, rfl⟩
set_option maxRecDepth 100000 in
set_option maxHeartbeats 1600000 in
theorem r_Put_0_16 (x v r : Int) (w : World) (h0 : 0 ≤ x) (h1 : x ≤ 4294967295) (hx : x % 65536 = 0) (v0 : 0 ≤ v) (v1 : v ≤ 4294967295) (hr : x + v % 65536 = r) : Calls Tryz.prog 43 #[.int .u32 x, .int .i64 0, .int .i64 16, .int .u32 v] w (fun e w' => e = .returned (.int .u32 r) ∧ ∃ n, w' = w.drewN n) := by
  have e0 : powI 0 = 1 := rfl
  have e16 : powI 16 = 65536 := rfl
  have hr0 : 0 ≤ r ∧ r ≤ 4294967295 := by omega
  obtain ⟨hr0, hr1⟩ := hr0
  have HR := Lib.hid hr
  clear hr
  go_enter Tryz.func43, Tryz.ntmps43
  go_wp2_with (first | (go_at_call 70; refine (r_may_0_16 _).mono ?_; rintro e w0 ⟨rfl, rfl⟩) | (go_at_call 71; refine (r_Get_0_16 x _ h0 h1).mono ?_; rintro e w1 ⟨rfl, n1, hw1⟩; rw [hx]; have HW := Lib.hid hw1; clear hw1) | (go_at_call 72; refine (r_pow _ _ (by omega) (by omega)).mono ?_; rintro e w2 ⟨rfl, rfl⟩))
  go_quiet ((go_at_call 72; exact Calls.quiet_of_same (r_pow _ _ (by omega) (by omega))))
  go_wp2
  go_ret
  exact ⟨by have := HR.out; first | (rw [← this]; rfl) | (congr 2; omega), _, by rw [HW.out, World.drewN_drewN]⟩
set_option maxRecDepth 100000 in
set_option maxHeartbeats 1600000 in
theorem r_Get_0_20 (x : Int) (w : World) (h0 : 0 ≤ x) (h1 : x ≤ 4294967295) : Calls Tryz.prog 71 #[.int .u32 x, .int .i64 0, .int .i64 20] w (fun e w' => e = .returned (.int .u32 (x % 1048576)) ∧ ∃ n, w' = w.drewN n) := by
  have e0 : powI 0 = 1 := rfl
  have e20 : powI 20 = 1048576 := rfl
  obtain ⟨r, hr⟩ : ∃ r, x % 1048576 = r := ⟨_, rfl⟩
  rw [hr]
  have hr0 : 0 ≤ r ∧ r ≤ 4294967295 := by omega
  obtain ⟨hr0, hr1⟩ := hr0
  have HR := Lib.hid hr
  clear hr
  go_enter Tryz.func71, Tryz.ntmps71
  go_wp2
  go_quiet ((go_at_call 72; exact Calls.quiet_of_same (r_pow _ _ (by omega) (by omega))))
  go_wp2
  go_ret
  exact ⟨by have := HR.out; first | (rw [← this]; rfl) | (congr 2; omega), _, rfl⟩
theorem r_may_0_20 (w : World) : Calls Tryz.prog 70 #[.int .i64 0, .int .i64 20] w (Is (.bool true) w) := by
  go_enter Tryz.func70, Tryz.ntmps70
  go_wp2
  go_ret
  exact ⟨rfl, rfl⟩
set_option maxRecDepth 100000 in
set_option maxHeartbeats 1600000 in
theorem r_Put_0_20 (x v r : Int) (w : World) (h0 : 0 ≤ x) (h1 : x ≤ 4294967295) (hx : x % 1048576 = 0) (v0 : 0 ≤ v) (v1 : v ≤ 4294967295) (hr : x + v % 1048576 = r) : Calls Tryz.prog 43 #[.int .u32 x, .int .i64 0, .int .i64 20, .int .u32 v] w (fun e w' => e = .returned (.int .u32 r) ∧ ∃ n, w' = w.drewN n) := by
  have e0 : powI 0 = 1 := rfl
  have e20 : powI 20 = 1048576 := rfl
  have hr0 : 0 ≤ r ∧ r ≤ 4294967295 := by omega
  obtain ⟨hr0, hr1⟩ := hr0
  have HR := Lib.hid hr
  clear hr
  go_enter Tryz.func43, Tryz.ntmps43
  go_wp2_with (first | (go_at_call 70; refine (r_may_0_20 _).mono ?_; rintro e w0 ⟨rfl, rfl⟩) | (go_at_call 71; refine (r_Get_0_20 x _ h0 h1).mono ?_; rintro e w1 ⟨rfl, n1, hw1⟩; rw [hx]; have HW := Lib.hid hw1; clear hw1) | (go_at_call 72; refine (r_pow _ _ (by omega) (by omega)).mono ?_; rintro e w2 ⟨rfl, rfl⟩))
  go_quiet ((go_at_call 72; exact Calls.quiet_of_same (r_pow _ _ (by omega) (by omega))))
  go_wp2
  go_ret
  exact ⟨by have := HR.out; first | (rw [← this]; rfl) | (congr 2; omega), _, by rw [HW.out, World.drewN_drewN]⟩
set_option maxRecDepth 100000 in
set_option maxHeartbeats 1600000 in
theorem r_Get_0_24 (x : Int) (w : World) (h0 : 0 ≤ x) (h1 : x ≤ 4294967295) : Calls Tryz.prog 71 #[.int .u32 x, .int .i64 0, .int .i64 24] w (fun e w' => e = .returned (.int .u32 (x % 16777216)) ∧ ∃ n, w' = w.drewN n) := by
  have e0 : powI 0 = 1 := rfl
  have e24 : powI 24 = 16777216 := rfl
  obtain ⟨r, hr⟩ : ∃ r, x % 16777216 = r := ⟨_, rfl⟩
  rw [hr]
  have hr0 : 0 ≤ r ∧ r ≤ 4294967295 := by omega
  obtain ⟨hr0, hr1⟩ := hr0
  have HR := Lib.hid hr
  clear hr
  go_enter Tryz.func71, Tryz.ntmps71
  go_wp2
  go_quiet ((go_at_call 72; exact Calls.quiet_of_same (r_pow _ _ (by omega) (by omega))))
  go_wp2
  go_ret
  exact ⟨by have := HR.out; first | (rw [← this]; rfl) | (congr 2; omega), _, rfl⟩
theorem r_may_0_24 (w : World) : Calls Tryz.prog 70 #[.int .i64 0, .int .i64 24] w (Is (.bool true) w) := by
  go_enter Tryz.func70, Tryz.ntmps70
  go_wp2
  go_ret
  exact ⟨rfl, rfl⟩
set_option maxRecDepth 100000 in
set_option maxHeartbeats 1600000 in
theorem r_Put_0_24 (x v r : Int) (w : World) (h0 : 0 ≤ x) (h1 : x ≤ 4294967295) (hx : x % 16777216 = 0) (v0 : 0 ≤ v) (v1 : v ≤ 4294967295) (hr : x + v % 16777216 = r) : Calls Tryz.prog 43 #[.int .u32 x, .int .i64 0, .int .i64 24, .int .u32 v] w (fun e w' => e = .returned (.int .u32 r) ∧ ∃ n, w' = w.drewN n) := by
  have e0 : powI 0 = 1 := rfl
  have e24 : powI 24 = 16777216 := rfl
  have hr0 : 0 ≤ r ∧ r ≤ 4294967295 := by omega
  obtain ⟨hr0, hr1⟩ := hr0
  have HR := Lib.hid hr
  clear hr
  go_enter Tryz.func43, Tryz.ntmps43
  go_wp2_with (first | (go_at_call 70; refine (r_may_0_24 _).mono ?_; rintro e w0 ⟨rfl, rfl⟩) | (go_at_call 71; refine (r_Get_0_24 x _ h0 h1).mono ?_; rintro e w1 ⟨rfl, n1, hw1⟩; rw [hx]; have HW := Lib.hid hw1; clear hw1) | (go_at_call 72; refine (r_pow _ _ (by omega) (by omega)).mono ?_; rintro e w2 ⟨rfl, rfl⟩))
  go_quiet ((go_at_call 72; exact Calls.quiet_of_same (r_pow _ _ (by omega) (by omega))))
  go_wp2
  go_ret
  exact ⟨by have := HR.out; first | (rw [← this]; rfl) | (congr 2; omega), _, by rw [HW.out, World.drewN_drewN]⟩
set_option maxRecDepth 100000 in
set_option maxHeartbeats 1600000 in
theorem r_Ext20 (x : Int) (w : World) (h0 : 0 ≤ x) (h1 : x ≤ 4294967295) : Calls Tryz.prog 74 #[.int .u32 x, .int .i64 20] w (Is (.int .i64 (sext (x % 1048576) 1048576)) w) := by
  have e : powI 20 = 1048576 := rfl
  obtain ⟨r, hr⟩ : ∃ r, sext (x % 1048576) 1048576 = r := ⟨_, rfl⟩
  rw [hr]
  have HR := Lib.hid hr
  clear hr
  go_enter Tryz.func74, Tryz.ntmps74
  go_wp2_with (go_at_call 72; refine (r_pow _ _ (by omega) (by omega)).mono ?_; rintro e w2 ⟨rfl, rfl⟩)
  all_goals
    go_ret
    refine is_int ?_
    rw [← HR.out, sext]
    first | (rw [if_pos (by omega)]; done) | (rw [if_neg (by omega)]; done) | (split <;> omega)
set_option maxRecDepth 100000 in
set_option maxHeartbeats 1600000 in
theorem r_Fits20 (x : Int) (w : World) (h : InR x) : Calls Tryz.prog 69 #[.int .i64 x, .int .i64 20] w (Is (.bool (fitsB x 20)) w) := by
  obtain ⟨h0, h1⟩ := h
  have e : powI 20 = 1048576 := rfl
  obtain ⟨r, hr⟩ : ∃ r, fitsB x 20 = r := ⟨_, rfl⟩
  rw [hr]
  have HR := Lib.hid hr
  clear hr
  go_enter Tryz.func69, Tryz.ntmps69
  go_wp2_with (go_at_call 72; refine (r_pow _ _ (by omega) (by omega)).mono ?_; rintro e w2 ⟨rfl, rfl⟩)
  all_goals
    go_ret
    refine is_bool ?_
    rw [← HR.out, fitsB]
    simp_all
    try omega
set_option maxRecDepth 100000 in
set_option maxHeartbeats 1600000 in
theorem r_Ext24 (x : Int) (w : World) (h0 : 0 ≤ x) (h1 : x ≤ 4294967295) : Calls Tryz.prog 74 #[.int .u32 x, .int .i64 24] w (Is (.int .i64 (sext (x % 16777216) 16777216)) w) := by
  have e : powI 24 = 16777216 := rfl
  obtain ⟨r, hr⟩ : ∃ r, sext (x % 16777216) 16777216 = r := ⟨_, rfl⟩
  rw [hr]
  have HR := Lib.hid hr
  clear hr
  go_enter Tryz.func74, Tryz.ntmps74
  go_wp2_with (go_at_call 72; refine (r_pow _ _ (by omega) (by omega)).mono ?_; rintro e w2 ⟨rfl, rfl⟩)
  all_goals
    go_ret
    refine is_int ?_
    rw [← HR.out, sext]
    first | (rw [if_pos (by omega)]; done) | (rw [if_neg (by omega)]; done) | (split <;> omega)
set_option maxRecDepth 100000 in
set_option maxHeartbeats 1600000 in
theorem r_Fits24 (x : Int) (w : World) (h : InR x) : Calls Tryz.prog 69 #[.int .i64 x, .int .i64 24] w (Is (.bool (fitsB x 24)) w) := by
  obtain ⟨h0, h1⟩ := h
  have e : powI 24 = 16777216 := rfl
  obtain ⟨r, hr⟩ : ∃ r, fitsB x 24 = r := ⟨_, rfl⟩
  rw [hr]
  have HR := Lib.hid hr
  clear hr
  go_enter Tryz.func69, Tryz.ntmps69
  go_wp2_with (go_at_call 72; refine (r_pow _ _ (by omega) (by omega)).mono ?_; rintro e w2 ⟨rfl, rfl⟩)
  all_goals
    go_ret
    refine is_bool ?_
    rw [← HR.out, fitsB]
    simp_all
    try omega
set_option maxRecDepth 100000 in
set_option maxHeartbeats 1600000 in
theorem r_Word32 (x : Int) (w : World) (h : InR x) : Calls Tryz.prog 45 #[.int .i64 x] w (Is (.int .u32 (x % 4294967296)) w) := by
  obtain ⟨h0, h1⟩ := h
  obtain ⟨r, hr⟩ : ∃ r, x % 4294967296 = r := ⟨_, rfl⟩
  rw [hr]
  have hr0 : 0 ≤ r ∧ r ≤ 4294967295 := by omega
  obtain ⟨hr0, hr1⟩ := hr0
  have HR := Lib.hid hr
  clear hr
  by_cases hx : 0 ≤ x
  · go_enter Tryz.func45, Tryz.ntmps45
    go_wp2
    go_ret
    exact is_int (by have := HR.out; omega)
  · have et : x.tmod 4294967296 = -((-x) % 4294967296) := by
      obtain ⟨y, rfl⟩ : ∃ y, x = -y := ⟨-x, by omega⟩
      rw [Int.neg_tmod, Int.tmod_eq_emod_of_nonneg (by omega), Int.neg_neg]
    obtain ⟨t, ht⟩ : ∃ t, (-x) % 4294967296 = t := ⟨_, rfl⟩
    rw [ht] at et
    have ht0 : 0 ≤ t ∧ t ≤ 4294967295 := by omega
    obtain ⟨ht0, ht1⟩ := ht0
    have HT := Lib.hid ht
    clear ht
    by_cases hz : t = 0
    · subst hz
      go_enter Tryz.func45, Tryz.ntmps45
      go_wp2
      go_ret
      exact is_int (by have := HR.out; have := HT.out; omega)
    · have hneg : -t < 0 := by omega
      go_enter Tryz.func45, Tryz.ntmps45
      go_wp2
      go_ret
      exact is_int (by have := HR.out; have := HT.out; omega)
end Go.Proofs.YtjjgjadfnongfaaGreatDoor
