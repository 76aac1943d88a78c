import Derived.Test.YtjjgjadfnongfaaDoorAWk
set_option linter.unusedVariables false
set_option linter.unusedSimpArgs false
namespace Go.Proofs.YtjjgjadfnongfaaDoor
open Go.RowKit Go.Maps Go.MapKept Go.ChangeMaps
theorem wf_u32 {n : Int} (h : (Lit.int .u32 n).wf = true) : 0 ≤ n ∧ n ≤ 4294967295 := by
  simp [Lit.wf, IntKind.min, IntKind.max, IntKind.signed, IntKind.bits] at h
  omega
set_option maxRecDepth 100000 in
/-- The law AsmLines, walked. -/
theorem AsmLines_any (x : Int) (w : World) (hv : VarsA w) (hx : (Lit.int .u32 x).wf = true) : Calls Tryd.prog 3 #[.int .u32 x] w (Gives (.bool true) w) := by
  obtain ⟨h0, h1⟩ := wf_u32 hx
  obtain ⟨ls, le, hl⟩ : ∃ a b, lineW x = (a, b) := ⟨_, _, rfl⟩
  obtain ⟨S, hS⟩ : ∃ S : ByteArray, (⟨ls.toArray⟩ : ByteArray) = S := ⟨_, rfl⟩
  have HL := Lib.hid hl
  have HS := Lib.hid hS
  have HV := Aside.mk hv
  have q : (S.toList == S.toList) = true := by simp
  have q2 : (le == le) = true := by simp
  clear hl hv hx hS
  go_enter Tryd.func3, Tryd.ntmps3
  go_wp2_with fail
  refine (p_Line x _ HV.out h0 h1).mono ?_
  rintro e w1 ⟨rfl, hB1⟩
  rw [HL.out]
  simp only []
  rw [HS.out]
  go_wp2_with fail
  refine (rr_Line x _ h0 h1).mono ?_
  rintro e w2 ⟨rfl, hB2⟩
  rw [HL.out]
  simp only []
  rw [HS.out]
  have hB02 := bthen hB1 hB2
  go_wp2_with fail
  refine (wakes6_any _ (HV.out.stays hB02)).mono ?_
  rintro e w3 ⟨rfl, hB3⟩
  go_wp2_with fail
  go_ret
  exact ⟨rfl, bthen hB02 hB3⟩
end Go.Proofs.YtjjgjadfnongfaaDoor
