import Derived.Test.YtjjgjadfnongfaaGreatDoorAPu
set_option linter.unusedVariables false
set_option linter.unusedSimpArgs false
namespace Go.Proofs.YtjjgjadfnongfaaGreatDoor
open Go.RowKit
/-! strconv.ParseUint at base 16 and 32 bits, at every text. -/
set_option maxHeartbeats 4000000 in
set_option maxRecDepth 100000 in
theorem pu_nil (w : World) :
    Calls Tryz.prog 77 #[.string ⟨#[]⟩, .int .i64 16, .int .i64 32] w (AtPu [] w) := by
  go_enter Tryz.func77, Tryz.ntmps77
  go_wp2
  go_ret2
  exact ⟨Below.refl _ _, .inr ⟨rfl, .inr rfl⟩⟩
theorem pu_all (t : ByteArray) (hmax : t.size ≤ 140737488351232) (w : World) :
    Calls Tryz.prog 77 #[.string t, .int .i64 16, .int .i64 32] w (AtPu t.data.toList w) := by
  by_cases h : t.size = 0
  · have e : t = ⟨#[]⟩ := by
      obtain ⟨⟨l⟩⟩ := t
      cases l with
      | nil => rfl
      | cons a b => exact absurd h (by simp [ByteArray.size])
    rw [e]
    exact pu_nil w
  · exact pu_any t h hmax w
def AtPub (t : List UInt8) (w : World) (e : Ending) (w' : World) : Prop := Below w.heap.size w w' ∧
  ((∃ v : Nat, puS t = some v ∧ (v : Int) ≤ 4294967295 ∧ e = .returned (.tuple #[.int .u64 v, .nilIface])) ∨
   (puS t = none ∧ ∃ m N : Nat, (m : Int) ≤ 4294967295 ∧ e = .returned (.tuple #[.int .u64 m, .iface 134 (.pointer (some ⟨N, 0, none⟩))])))
set_option maxHeartbeats 4000000 in
set_option maxRecDepth 100000 in
theorem pub_any (t : ByteArray) (hmax : t.size ≤ 140737488351232) (w : World) (hv : VarsA w) :
    Calls Tryz.prog 53 #[.string t, .int .i64 16, .int .i64 32] w (AtPub t.data.toList w) := by
  have HV := Lib.hid hv
  clear hv
  go_enter Tryz.func53, Tryz.ntmps53
  go_wp2_with fail
  refine (pu_all t hmax _).mono ?_
  rintro e w1 ⟨hB, h⟩
  have HB := Lib.hid hB
  clear hB
  have HV1 := Lib.hid (HV.out.stays HB.out)
  rcases h with ⟨v, h1, h2, rfl⟩ | ⟨h1, ⟨m, rfl, hm⟩ | rfl⟩
  · have HP := Lib.hid h1
    have h2i : (v : Int) ≤ 4294967295 := by omega
    have H2 := Lib.hid h2i
    clear h1 h2 h2i
    go_wp2_with fail
    go_ret2
    exact ⟨HB.out, .inl ⟨v, HP.out, H2.out, rfl⟩⟩
  · have HP := Lib.hid h1
    have h2i : (m : Int) ≤ 4294967295 := by omega
    have H2 := Lib.hid h2i
    clear h1 hm h2i
    obtain ⟨ev, hev, hev2⟩ := HV1.out.range
    have HE := Lib.hid hev
    have HE2 := Lib.hid hev2
    clear hev hev2
    go_wp2_with fail
    refine (Tryz.strconv_toError_range _ t 16 32 ev _ (by omega) HE.out HE2.out).mono ?_
    rintro e w2 ⟨N, rfl, hN, hNc, hB2⟩
    clear hN hNc
    have HB2 := Lib.hid (HB.out.trans (hB2.mono HB.out.size))
    clear hB2
    go_wp2_with fail
    go_ret2
    exact ⟨HB2.out, .inr ⟨HP.out, m, N, H2.out, rfl⟩⟩
  · have HP := Lib.hid h1
    clear h1
    obtain ⟨ev, hev, hev2⟩ := HV1.out.syn
    have HE := Lib.hid hev
    have HE2 := Lib.hid hev2
    clear hev hev2
    go_wp2_with fail
    refine (Tryz.strconv_toError_syntax _ t 16 32 ev _ (by omega) HE.out HE2.out).mono ?_
    rintro e w2 ⟨N, rfl, hN, hNc, hB2⟩
    clear hN hNc
    have HB2 := Lib.hid (HB.out.trans (hB2.mono HB.out.size))
    clear hB2
    go_wp2_with fail
    go_ret2
    exact ⟨HB2.out, .inr ⟨HP.out, 0, N, by omega, rfl⟩⟩
end Go.Proofs.YtjjgjadfnongfaaGreatDoor
