import Derived.Test.YtjjgjadfnongfaaGreatDoorALns0
import Derived.Test.YtjjgjadfnongfaaGreatDoorAPub
set_option linter.unusedVariables false
set_option linter.unusedSimpArgs false
namespace Go.Proofs.YtjjgjadfnongfaaGreatDoor
open Go.RowKit
/-! A line's word, an instruction or not. -/
def hashS (s : List UInt8) : Option Nat := match puS (s.drop 1) with
  | some v => if goodW (v : Int) = false ∧ rawL v = s then some v else none
  | none => none
def anyS (s : List UInt8) : Int × Int := if Lib.hasPrefix s [35] = true then (match hashS s with | some v => ((v : Int), 0) | none => (0, 60)) else wordOf (parseP s) s
def AtAny (s : List UInt8) (w : World) (e : Ending) (w' : World) : Prop := e = .returned (.tuple #[.int .u32 (anyS s).1, .int .i64 (anyS s).2]) ∧ Below w.heap.size w w'
theorem any_none {s : List UInt8} (h : Lib.hasPrefix s [35] = true) (h2 : hashS s = none) : anyS s = (0, 60) := by unfold anyS; rw [if_pos h, h2]
theorem any_some {s : List UInt8} {v : Nat} (h : Lib.hasPrefix s [35] = true) (h2 : hashS s = some v) : anyS s = ((v : Int), 0) := by unfold anyS; rw [if_pos h, h2]
set_option maxHeartbeats 4000000 in
set_option maxRecDepth 100000 in
theorem p_either (nv : Value) (s : List UInt8) (w : World) (hn : IsNamer w nv) (hv : VarsB w) (hs : s.length ≤ 1000000) : Calls Tryz.prog 25 #[nv, .string ⟨s.toArray⟩] w (AtAny s w) := by
  have HNm := Aside.mk hn
  have HV := Aside.mk hv
  clear hn hv
  obtain ⟨S, hS⟩ : ∃ S : ByteArray, (⟨s.toArray⟩ : ByteArray) = S := ⟨_, rfl⟩
  have hSs : S.data.toList = s := by rw [← hS]
  have hSz : S.size ≤ 1000000 := by rw [← len_list, hSs]; exact hs
  rw [hS]
  have HS := Lib.hid hS
  have HSs := Lib.hid hSs
  clear hS hSs
  by_cases hp : Lib.hasPrefix s [35] = true
  · have hpre : Lib.hasPrefix S.data.toList (⟨#[35]⟩ : ByteArray).data.toList = true := by rw [HSs.out]; exact hp
    have h1 : 1 ≤ S.size := by
      rw [← len_list, HSs.out]
      cases s with
      | nil => simp [Lib.hasPrefix] at hp
      | cons a b => simp
    have h1i : (1 : Int) ≤ S.size := by omega
    obtain ⟨T, hT⟩ : ∃ T, S.extract 1 S.size = T := ⟨_, rfl⟩
    have hTs : T.data.toList = s.drop 1 := by
      rw [← hT, ← HSs.out]
      simp [ByteArray.data_extract]
      exact List.take_of_length_le (by simp)
    have hTz : T.size ≤ 140737488351232 := by
      rw [← len_list, hTs, List.length_drop]; omega
    have HTs := Lib.hid hTs
    have HP := Lib.hid hp
    clear hTs hp
    go_enter Tryz.func25, Tryz.ntmps25
    go_wp2_with fail
    refine (Tryz.strings_HasPrefix S ⟨#[35]⟩ _).mono ?_
    rintro e w1 ⟨rfl, rfl⟩
    rw [hpre]
    go_wp2_with fail
    refine (pub_any T hTz _ HV.out.base).mono ?_
    rintro e w2 ⟨hB2, h⟩
    have HB2 := Aside.mk hB2
    have HV2 := Aside.mk (HV.out.stays hB2)
    clear hB2
    rcases h with ⟨v, hpu, hv1, rfl⟩ | ⟨hpu, m, N, hm1, rfl⟩
    · rw [HTs.out] at hpu
      have HPU := Lib.hid hpu
      clear hpu
      have hwr : IntKind.u32.wrap (v : Int) = v := by rw [IntKind.wrap_u32]; omega
      have H1 := Lib.hid hv1
      go_wp2_with fail
      refine (p_Decode (v : Int) _ (by omega) H1.out).mono ?_
      rintro e w3 ⟨rfl, hB3⟩
      have HB3 := Aside.mk (bthen HB2.out hB3)
      have HV3 := Aside.mk (HV2.out.stays hB3)
      clear hB3
      rcases decW_cases (v : Int) with ⟨hg, hd, -⟩ | ⟨hg, hd, -⟩
      · rw [hd]
        have hnone : hashS s = none := by unfold hashS; rw [HPU.out]; simp [hg]
        have HNO := Lib.hid hnone
        clear hg hd hnone
        generalize insOf (v : Int) = I
        obtain ⟨f, u, uv, a, b, c, op, im⟩ := I
        simp only [insV_eq]
        go_wp2_with fail
        go_ret2
        exact ⟨by rw [any_none HP.out HNO.out]; rfl, bthen HB3.out (ablow _ _)⟩
      · rw [hd]
        have HG := Lib.hid hg
        clear hg hd
        simp only [zeroI, insV_eq]
        go_wp2_with fail
        refine (raw_any v _ (HV3.out.stays (ablow _ _)) H1.out).mono ?_
        rintro e w4 ⟨rfl, hB4⟩
        have HB4 := Aside.mk (bthen (bthen HB3.out (ablow _ _)) hB4)
        clear hB4
        obtain ⟨R, hR⟩ : ∃ R : ByteArray, (⟨(rawL v).toArray⟩ : ByteArray) = R := ⟨_, rfl⟩
        have hRs : R.data.toList = rawL v := by rw [← hR]
        rw [hR]
        have HRs := Lib.hid hRs
        clear hR hRs
        by_cases he : rawL v = s
        · have hcmp : (R.toList == S.toList) = true := by
            rw [ByteArray.toList_eq, ByteArray.toList_eq, HRs.out, HSs.out, he]; simp
          have hsome : hashS s = some v := by unfold hashS; rw [HPU.out]; simp [HG.out, he]
          have HSO := Lib.hid hsome
          clear he hsome
          go_wp2_with fail
          go_ret2
          exact ⟨by rw [any_some HP.out HSO.out]; rfl, HB4.out⟩
        · have hcmp : (R.toList == S.toList) = false := by
            rw [ByteArray.toList_eq, ByteArray.toList_eq, HRs.out, HSs.out]; simpa using he
          have hnone : hashS s = none := by unfold hashS; rw [HPU.out]; simp [he]
          have HNO := Lib.hid hnone
          clear he hnone
          go_wp2_with fail
          go_ret2
          exact ⟨by rw [any_none HP.out HNO.out]; rfl, HB4.out⟩
    · rw [HTs.out] at hpu
      have hnone : hashS s = none := by unfold hashS; rw [hpu]
      have HNO := Lib.hid hnone
      clear hpu hnone
      have hwr : IntKind.u32.wrap (m : Int) = m := by rw [IntKind.wrap_u32]; omega
      have H1 := Lib.hid hm1
      go_wp2_with fail
      refine (p_Decode (m : Int) _ (by omega) H1.out).mono ?_
      rintro e w3 ⟨rfl, hB3⟩
      have HB3 := Aside.mk (bthen HB2.out hB3)
      clear hB3
      generalize (decW (m : Int)).2 = d
      generalize (decW (m : Int)).1 = I
      obtain ⟨f, u, uv, a, b, c, op, im⟩ := I
      simp only [insV_eq]
      go_wp2_with fail
      go_ret2
      exact ⟨by rw [any_none HP.out HNO.out]; rfl, bthen HB3.out (ablow _ _)⟩
  · have hp : Lib.hasPrefix s [35] = false := by simpa using hp
    have hpre : Lib.hasPrefix S.data.toList (⟨#[35]⟩ : ByteArray).data.toList = false := by rw [HSs.out]; exact hp
    have hany : anyS s = wordOf (parseP s) s := by unfold anyS; rw [hp]; rfl
    have HA := Lib.hid hany
    clear hp hany
    go_enter Tryz.func25, Tryz.ntmps25
    go_wp2_with fail
    refine (Tryz.strings_HasPrefix S ⟨#[35]⟩ _).mono ?_
    rintro e w1 ⟨rfl, rfl⟩
    rw [hpre]
    go_wp2_with fail
    rw [← HS.out]
    refine (p_word nv s _ HNm.out HV.out.base (by omega)).mono ?_
    rintro e w2 ⟨rfl, hB2⟩
    go_wp2_with fail
    go_ret2
    exact ⟨by rw [HA.out]; rfl, hB2⟩
end Go.Proofs.YtjjgjadfnongfaaGreatDoor
