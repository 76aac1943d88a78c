import Derived.Test.YtjjgjadfnongfaaGreatDoorARef3
import Derived.Test.YtjjgjadfnongfaaGreatDoorALineP
import Derived.Test.YtjjgjadfnongfaaGreatDoorADc
import Derived.Deep.RegionHeld3
set_option linter.unusedVariables false
set_option linter.unusedSimpArgs false
namespace Go.Proofs.YtjjgjadfnongfaaGreatDoor
open Go.RowKit Go.Maps Go.MapKept
theorem str_of {S : ByteArray} {l : List UInt8} (h : S.data.toList = l) : S = ⟨l.toArray⟩ := by rw [← h]
theorem regL_len {n : Int} (h0 : -2147483648 < n) (h1 : n < 2147483648) : (regL n).length ≤ 21 := by
  have := itoa_len h0 h1
  simp only [regL, List.length_cons]; omega
set_option maxRecDepth 100000 in
theorem a_reg (n : Int) (w : World) (h0 : -2147483648 < n) (h1 : n < 2147483648) : Calls Tryz.prog 47 #[.int .i64 n] w (Gives (.string ⟨(regL n).toArray⟩) w) := by
  obtain ⟨S, hS⟩ : ∃ S : ByteArray, (⟨(Lib.itoa n).toArray⟩ : ByteArray) = S := ⟨_, rfl⟩
  have hsz : S.size ≤ 20 := by rw [← hS, size_mk]; exact itoa_len h0 h1
  have hcat : ¬ (9223372036854775807 < 1 + S.size) := by omega
  have hfin : (⟨#[82]⟩ : ByteArray) ++ S = ⟨(regL n).toArray⟩ := str_of (by rw [← hS]; simp [ByteArray.data_append, regL])
  have HS := Lib.hid hS
  have HF := Lib.hid hfin
  clear hS hfin
  go_enter Tryz.func47, Tryz.ntmps47
  go_wp2_with fail
  refine (a_Dec n _ h0 h1).mono ?_
  rintro e w1 ⟨rfl, hB⟩
  rw [HS.out]
  go_wp2_with fail
  go_ret
  exact ⟨by rw [HF.out]; rfl, hB⟩
/-- A slice of texts that a call made. -/
def MadeStrs (L : List (List UInt8)) (n : Nat) (w : World) (e : Ending) (w' : World) : Prop := ∃ g, e = .returned (.slice (some ⟨g, 0, none⟩) n n) ∧ w'.heap[g]? = some (.cells (L.map fun s => Value.string ⟨s.toArray⟩).toArray 9 (0, 0)) ∧ w.heap.size ≤ g ∧ Below w.heap.size w w'
set_option maxRecDepth 100000 in
theorem a_ops (w : World) : Calls Tryz.prog 40 #[] w (MadeStrs opsL 12 w) := by
  go_enter Tryz.func40, Tryz.ntmps40
  go_wp2
  go_ret
  exact ⟨w.heap.size, rfl, alloc_block _ _, Nat.le_refl _, ablow _ _⟩
set_option maxRecDepth 100000 in
theorem a_conds (w : World) : Calls Tryz.prog 39 #[] w (MadeStrs condsL 16 w) := by
  go_enter Tryz.func39, Tryz.ntmps39
  go_wp2
  go_ret
  exact ⟨w.heap.size, rfl, alloc_block _ _, Nat.le_refl _, ablow _ _⟩
end Go.Proofs.YtjjgjadfnongfaaGreatDoor
