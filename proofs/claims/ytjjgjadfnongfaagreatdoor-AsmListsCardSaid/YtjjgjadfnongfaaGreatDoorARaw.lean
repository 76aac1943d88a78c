import Derived.Test.YtjjgjadfnongfaaGreatDoorAHex
set_option linter.unusedVariables false
set_option linter.unusedSimpArgs false
namespace Go.Proofs.YtjjgjadfnongfaaGreatDoor
open Go.RowKit
/-! asm.raw: a word that is no instruction, as a line. -/
structure VarsB (w : World) : Prop where
  base : VarsA w
  trail : w.cell? ⟨9, 15, none⟩ = some (.int .u8 4)
theorem VarsB.stays {w w' : World} (h : VarsB w) (hb : Below w.heap.size w w') : VarsB w' :=
  ⟨h.base.stays hb, (hb.cell (World.block_lt_of_cell? w _ h.trail)).trans h.trail⟩
def rawL (w : Nat) : List UInt8 := 35 :: (List.replicate (8 - (hexLow w).length) 48 ++ hexLow w)
theorem rep_one (k : Nat) : Lib.repeatL [48] k = List.replicate k 48 := by
  induction k with
  | zero => rfl
  | succ k ih => rw [Lib.repeatL, ih]; rfl
set_option maxHeartbeats 1000000 in
set_option maxRecDepth 100000 in
theorem raw_any (v : Nat) (w : World) (hv : VarsB w) (hn : (v : Int) ≤ 4294967295) :
    Calls Tryz.prog 28 #[.int .u32 v] w (fun e w' => e = .returned (.string ⟨(rawL v).toArray⟩) ∧ Below w.heap.size w w') := by
  have HT := Lib.hid hv.trail
  clear hv
  have hl8 := hexLow_len v (by omega)
  have hl1 := hexLow_pos v
  have hlen : ((hexLow v).length : Int) ≤ 8 := by omega
  have hlen1 : (1 : Int) ≤ (hexLow v).length := by omega
  have hw : IntKind.u64.wrap (v : Int) = v := by rw [IntKind.wrap_u64]; omega
  have hcv : (8 : Int) - ((hexLow v).length : Int) = ((8 - (hexLow v).length : Nat) : Int) := by omega
  have H1 := Lib.hid hl8
  have HC := Lib.hid hcv
  clear hl8 hl1 hcv
  go_enter Tryz.func28, Tryz.ntmps28
  go_wp2_with fail
  refine (FormatUint_any v _ hn HT.out).mono ?_
  rintro e w1 ⟨rfl, hB⟩
  have HB := Lib.hid hB
  clear hB
  go_wp2_with fail
  rw [HC.out]
  refine (Tryz.strings_Repeat ⟨#[48]⟩ (8 - (hexLow v).length) _ (by omega) (by show 1 * _ ≤ _; omega)).mono ?_
  rintro e w2 ⟨rfl, hB2⟩
  have HB2 := Lib.hid (HB.out.trans (hB2.mono HB.out.size))
  clear hB2
  rw [show (⟨#[48]⟩ : ByteArray).data.toList = [48] from rfl, rep_one]
  go_wp2_with fail
  go_ret
  refine ⟨?_, HB2.out⟩
  show Ending.returned (.string ((⟨#[35]⟩ : ByteArray) ++ ⟨Array.replicate (8 - (hexLow v).length) 48⟩ ++ ⟨(hexLow v).toArray⟩)) = _
  congr 2
end Go.Proofs.YtjjgjadfnongfaaGreatDoor
