import Derived.Test.YtjjgjadfnongfaaGreatDoorABits
import Derived.Test.YtjjgjadfnongfaaGreatDoorABase
import Derived.RegionTactic
import Derived.ChangeAlike
import Derived.Outline
import Derived.Handy
set_option linter.unusedVariables false
set_option linter.unusedSimpArgs false
namespace Go.Proofs.YtjjgjadfnongfaaGreatDoor
open Go.RowKit Go.Maps Go.MapKept
def insV (x : Ins) : Value := .agg #[.int .i64 x.form, .bool x.u, .bool x.v, .int .i64 x.a, .int .i64 x.b, .int .i64 x.c, .int .i64 x.op, .int .i64 x.im]
def InR (n : Int) : Prop := -9223372036854775808 ≤ n ∧ n ≤ 9223372036854775807
theorem is_bool {b c : Bool} {w : World} (h : b = c) : Is (.bool c) w (.returned (.bool b)) w := ⟨by rw [h], rfl⟩
theorem is_int {k : IntKind} {b c : Int} {w : World} (h : b = c) : Is (.int k c) w (.returned (.int k b)) w := ⟨by rw [h], rfl⟩
set_option maxRecDepth 100000 in
set_option maxHeartbeats 1600000 in
theorem p_half4 (v : Int) (w : World) : Calls Tryz.prog 91 #[.int .i64 v, .int .i64 4] w (Is (.bool (nib v)) w) := by
  obtain ⟨r, hr⟩ : ∃ r, nib v = r := ⟨_, rfl⟩
  rw [hr]
  have HR := Lib.hid hr
  clear hr
  go_enter Tryz.func91, Tryz.ntmps91
  go_wp2
  all_goals
    go_ret
    refine is_bool ?_
    rw [← HR.out, nib]
    simp_all
    try omega
set_option maxRecDepth 100000 in
set_option maxHeartbeats 1600000 in
theorem p_half16 (v : Int) (w : World) : Calls Tryz.prog 91 #[.int .i64 v, .int .i64 16] w (Is (.bool (decide (0 ≤ v) && decide (v ≤ 65535))) w) := by
  obtain ⟨r, hr⟩ : ∃ r, (decide (0 ≤ v) && decide (v ≤ 65535)) = r := ⟨_, rfl⟩
  rw [hr]
  have HR := Lib.hid hr
  clear hr
  go_enter Tryz.func91, Tryz.ntmps91
  go_wp2
  all_goals
    go_ret
    refine is_bool ?_
    rw [← HR.out]
    simp_all
    try omega
set_option maxRecDepth 100000 in
set_option maxHeartbeats 1600000 in
theorem p_mask4 (w : World) : Calls Tryz.prog 104 #[.int .i64 4] w (Is (.int .u32 15) w) := by
  go_enter Tryz.func104, Tryz.ntmps104
  go_wp2
  go_ret
  exact is_int (by rfl)
set_option maxRecDepth 100000 in
set_option maxHeartbeats 1600000 in
theorem p_Get24 (x : Int) (w : World) (h0 : 0 ≤ x) (h1 : x ≤ 4294967295) : Calls Tryz.prog 79 #[.int .u32 x, .int .i64 24, .int .i64 4] w (fun e w' => e = .returned (.int .u32 (x / 16777216 % 16)) ∧ ∃ n, w' = w.drewN n) := by
  obtain ⟨r, hr⟩ : ∃ r, x / 16777216 % 16 = r := ⟨_, rfl⟩
  rw [hr]
  have e := u32_and15 (x / 16777216) (by omega) (by omega)
  rw [hr] at e
  clear hr
  go_enter Tryz.func79, Tryz.ntmps79
  go_wp2
  go_quiet ((go_at_call 104; exact Calls.quiet_of_same (p_mask4 _)))
  go_wp2
  go_ret
  exact ⟨rfl, _, rfl⟩
set_option maxRecDepth 100000 in
set_option maxHeartbeats 1600000 in
theorem p_Get20 (x : Int) (w : World) (h0 : 0 ≤ x) (h1 : x ≤ 4294967295) : Calls Tryz.prog 79 #[.int .u32 x, .int .i64 20, .int .i64 4] w (fun e w' => e = .returned (.int .u32 (x / 1048576 % 16)) ∧ ∃ n, w' = w.drewN n) := by
  obtain ⟨r, hr⟩ : ∃ r, x / 1048576 % 16 = r := ⟨_, rfl⟩
  rw [hr]
  have e := u32_and15 (x / 1048576) (by omega) (by omega)
  rw [hr] at e
  clear hr
  go_enter Tryz.func79, Tryz.ntmps79
  go_wp2
  go_quiet ((go_at_call 104; exact Calls.quiet_of_same (p_mask4 _)))
  go_wp2
  go_ret
  exact ⟨rfl, _, rfl⟩
set_option maxRecDepth 100000 in
set_option maxHeartbeats 1600000 in
theorem p_Get16 (x : Int) (w : World) (h0 : 0 ≤ x) (h1 : x ≤ 4294967295) : Calls Tryz.prog 79 #[.int .u32 x, .int .i64 16, .int .i64 4] w (fun e w' => e = .returned (.int .u32 (x / 65536 % 16)) ∧ ∃ n, w' = w.drewN n) := by
  obtain ⟨r, hr⟩ : ∃ r, x / 65536 % 16 = r := ⟨_, rfl⟩
  rw [hr]
  have e := u32_and15 (x / 65536) (by omega) (by omega)
  rw [hr] at e
  clear hr
  go_enter Tryz.func79, Tryz.ntmps79
  go_wp2
  go_quiet ((go_at_call 104; exact Calls.quiet_of_same (p_mask4 _)))
  go_wp2
  go_ret
  exact ⟨rfl, _, rfl⟩
set_option maxRecDepth 100000 in
set_option maxHeartbeats 1600000 in
theorem p_Ext20 (x : Int) (w : World) (h0 : 0 ≤ x) (h1 : x ≤ 4294967295) : Calls Tryz.prog 80 #[.int .u32 x, .int .i64 20] w (Is (.int .i64 (sext (x % 1048576) 1048576)) w) := by
  obtain ⟨r, hr⟩ : ∃ r, sext (x % 1048576) 1048576 = r := ⟨_, rfl⟩
  rw [hr]
  have HR := Lib.hid hr
  clear hr
  go_enter Tryz.func80, Tryz.ntmps80
  go_wp2
  go_ret
  refine is_int ?_
  rw [← HR.out, sext]
  unfold wrap64 wrap32
  split <;> omega
set_option maxRecDepth 100000 in
set_option maxHeartbeats 1600000 in
theorem p_Ext24 (x : Int) (w : World) (h0 : 0 ≤ x) (h1 : x ≤ 4294967295) : Calls Tryz.prog 80 #[.int .u32 x, .int .i64 24] w (Is (.int .i64 (sext (x % 16777216) 16777216)) w) := by
  obtain ⟨r, hr⟩ : ∃ r, sext (x % 16777216) 16777216 = r := ⟨_, rfl⟩
  rw [hr]
  have HR := Lib.hid hr
  clear hr
  go_enter Tryz.func80, Tryz.ntmps80
  go_wp2
  go_ret
  refine is_int ?_
  rw [← HR.out, sext]
  unfold wrap64 wrap32
  split <;> omega
set_option maxRecDepth 100000 in
set_option maxHeartbeats 1600000 in
theorem p_Fits20 (x : Int) (w : World) (h : InR x) : Calls Tryz.prog 92 #[.int .i64 x, .int .i64 20] w (Is (.bool (decide (-524288 ≤ x) && decide (x < 524288))) w) := by
  obtain ⟨h0, h1⟩ := h
  obtain ⟨r, hr⟩ : ∃ r, (decide (-524288 ≤ x) && decide (x < 524288)) = r := ⟨_, rfl⟩
  rw [hr]
  have HR := Lib.hid hr
  clear hr
  go_enter Tryz.func92, Tryz.ntmps92
  go_wp2
  all_goals
    go_ret
    refine is_bool ?_
    rw [← HR.out]
    simp_all
    try omega
set_option maxRecDepth 100000 in
set_option maxHeartbeats 1600000 in
theorem p_Fits24 (x : Int) (w : World) (h : InR x) : Calls Tryz.prog 92 #[.int .i64 x, .int .i64 24] w (Is (.bool (decide (-8388608 ≤ x) && decide (x < 8388608))) w) := by
  obtain ⟨h0, h1⟩ := h
  obtain ⟨r, hr⟩ : ∃ r, (decide (-8388608 ≤ x) && decide (x < 8388608)) = r := ⟨_, rfl⟩
  rw [hr]
  have HR := Lib.hid hr
  clear hr
  go_enter Tryz.func92, Tryz.ntmps92
  go_wp2
  all_goals
    go_ret
    refine is_bool ?_
    rw [← HR.out]
    simp_all
    try omega
theorem insV_eq (f : Int) (u v : Bool) (a b c op im : Int) : insV ⟨f, u, v, a, b, c, op, im⟩ = .agg #[.int .i64 f, .bool u, .bool v, .int .i64 a, .int .i64 b, .int .i64 c, .int .i64 op, .int .i64 im] := rfl
theorem eqIns (f : Int) (u v : Bool) (a b c o i : Int) (f' : Int) (u' v' : Bool) (a' b' c' o' i' : Int) (w : World) :
    (binOp .eql 45 (.agg #[.int .i64 f, .bool u, .bool v, .int .i64 a, .int .i64 b, .int .i64 c, .int .i64 o, .int .i64 i]) (.agg #[.int .i64 f', .bool u', .bool v', .int .i64 a', .int .i64 b', .int .i64 c', .int .i64 o', .int .i64 i'])).run Tryz.prog w
      = .ok (.bool (decide ((⟨f, u, v, a, b, c, o, i⟩ : Ins) = ⟨f', u', v', a', b', c', o', i'⟩))) w := by
  have hS : Tryz.prog.underlying 45 = some (.struct (Tryz.prog.fieldsOf 45)) := by kernel_rfl
  have hp : Tryz.prog.stoodInHeld 45 = false := by kernel_rfl
  rw [run_eql_struct, show (10000 : Nat) = 9999 + 1 from rfl, run_equalIn_agg w 9999 45 _ _ hS hp]
  simp only [Program.fieldsOf, Tryz.underlying45]
  go_simp
  by_cases h1 : f = f' <;> by_cases h2 : u = u' <;> by_cases h3 : v = v' <;> by_cases h4 : a = a' <;> by_cases h5 : b = b' <;> by_cases h6 : c = c' <;> by_cases h7 : o = o' <;> by_cases h8 : i = i' <;> simp [h1, h2, h3, h4, h5, h6, h7, h8]
theorem guardIns (x y : Operand) (xs ys : Array Value) (w : World) : (eqGuard .eql 45 x y (.agg xs) (.agg ys)).run Tryz.prog w = .ok () w := run_eqGuard_agg w .eql _ x y xs ys (by kernel_rfl)
end Go.Proofs.YtjjgjadfnongfaaGreatDoor
