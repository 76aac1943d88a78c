import Derived.Test.YtjjgjadfnongfaaGreatDoorAWd1
set_option linter.unusedVariables false
set_option linter.unusedSimpArgs false
namespace Go.Proofs.YtjjgjadfnongfaaGreatDoor
open Go.RowKit Go.Maps Go.MapKept Go.ChangeMaps
def wakeL : List UInt8 := [65, 68, 68, 32, 82, 49, 44, 32, 82, 50, 44, 32, 82, 51]
def wakeS : List UInt8 := [66, 76, 46, 84, 32, 45, 49]
theorem wake_line : lineW 19398659 = (wakeL, 0) := by kernel_rfl
theorem wake_word : wordOf (parseP wakeS) wakeS = (4160749567, 0) := by kernel_rfl
set_option maxRecDepth 100000 in
/-- Small inputs are answered. -/
theorem wakes6_any (w : World) (hv : VarsA w) : Calls Tryz.prog 6 #[] w (Gives (.bool true) w) := by
  have HV := Aside.mk hv
  have HL := Lib.hid wake_line
  have HW := Lib.hid wake_word
  clear hv
  go_enter Tryz.func6, Tryz.ntmps6
  go_wp2_with fail
  refine (p_Line _ _ HV.out (by omega) (by omega)).mono ?_
  rintro e w1 ⟨rfl, hB1⟩
  rw [HL.out]
  go_wp2_with fail
  refine (p_Word wakeS _ (HV.out.stays hB1) (by decide)).mono ?_
  rintro e w2 ⟨rfl, hB2⟩
  rw [HW.out]
  go_wp2_with fail
  go_ret
  exact ⟨rfl, bthen hB1 hB2⟩
end Go.Proofs.YtjjgjadfnongfaaGreatDoor
