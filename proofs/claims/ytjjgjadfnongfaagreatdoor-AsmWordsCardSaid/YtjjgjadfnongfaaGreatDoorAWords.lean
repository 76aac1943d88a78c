import Derived.Test.YtjjgjadfnongfaaGreatDoorAWk
import Derived.Test.YtjjgjadfnongfaaGreatDoorAWordL
set_option linter.unusedVariables false
set_option linter.unusedSimpArgs false
namespace Go.Proofs.YtjjgjadfnongfaaGreatDoor
open Go.RowKit Go.Maps Go.MapKept Go.ChangeMaps
set_option maxRecDepth 100000 in
/-- The law AsmWords, walked. -/
theorem AsmWords_any (S : ByteArray) (w : World) (hv : VarsA w) (hs : S.size ≤ 140737488351232) : Calls Tryz.prog 3 #[.string S] w (Gives (.bool true) w) := by
  obtain ⟨s, hS⟩ : ∃ s, (⟨s.toArray⟩ : ByteArray) = S := ⟨S.data.toList, rfl⟩
  have hl : s.length ≤ 140737488351232 := by rw [← size_mk, hS]; exact hs
  have HV := Aside.mk hv
  have HS := Lib.hid hS
  clear hv hS
  by_cases hlong : (20000 : Int) < S.size
  · go_enter Tryz.func3, Tryz.ntmps3
    go_wp2_with fail
    refine (wakes6_any _ HV.out).mono ?_
    rintro e w3 ⟨rfl, hB3⟩
    go_wp2_with fail
    go_ret
    exact ⟨rfl, hB3⟩
  · obtain ⟨a, b, hr⟩ : ∃ a b, wordOf (parseR s) s = (a, b) := ⟨_, _, rfl⟩
    have hp := (word_law s).trans hr
    have HR := Lib.hid hr
    have HP := Lib.hid hp
    have q1 : (a == a) = true := by simp
    have q2 : (b == b) = true := by simp
    clear hr hp
    go_enter Tryz.func3, Tryz.ntmps3
    go_wp2_with fail
    rw [← HS.out]
    refine (p_Word s _ HV.out hl).mono ?_
    rintro e w1 ⟨rfl, hB1⟩
    rw [HP.out]
    go_wp2_with fail
    refine (r_Word s _ hl).mono ?_
    rintro e w2 ⟨rfl, hB2⟩
    rw [HR.out]
    have hB02 := bthen hB1 hB2
    go_wp2_with fail
    refine (wakes6_any _ (HV.out.stays hB02)).mono ?_
    rintro e w3 ⟨rfl, hB3⟩
    go_wp2_with fail
    go_ret
    exact ⟨rfl, bthen hB02 hB3⟩
end Go.Proofs.YtjjgjadfnongfaaGreatDoor
