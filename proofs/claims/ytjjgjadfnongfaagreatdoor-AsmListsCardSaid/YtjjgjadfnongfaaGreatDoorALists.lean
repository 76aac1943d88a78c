import Derived.Test.YtjjgjadfnongfaaGreatDoorAWsA
import Derived.Test.YtjjgjadfnongfaaGreatDoorALns
import Derived.Test.YtjjgjadfnongfaaGreatDoorARy
import Derived.Test.YtjjgjadfnongfaaGreatDoorARws
import Derived.Test.YtjjgjadfnongfaaGreatDoorAKeep
import Derived.Test.YtjjgjadfnongfaaGreatDoorAWk
set_option linter.unusedVariables false
set_option linter.unusedSimpArgs false
namespace Go.Proofs.YtjjgjadfnongfaaGreatDoor
open Go.RowKit
theorem wordsG_len (s cur : List UInt8) (out : List Int) : (wordsG s cur out).1.length ≤ out.length + s.length := by
  induction s generalizing cur out with
  | nil => simp only [wordsG]; split <;> simp
  | cons c r ih =>
    simp only [wordsG]
    split
    · split
      · have := ih [] (out ++ [(anyS cur).1])
        simp only [List.length_append, List.length_cons, List.length_nil] at this ⊢; omega
      · simp
    · have := ih (cur ++ [c]) out
      simp only [List.length_cons]; omega
set_option maxHeartbeats 4000000 in
set_option maxRecDepth 100000 in
/-- The law AsmLists, walked. -/
theorem AsmLists_any (v : Value) (l : List Int) (S : ByteArray) (w : World) (hv : VarsB w) (hr : ArgWs w v l) (hx : ∀ x ∈ l, 0 ≤ x ∧ x ≤ 4294967295) (hs : S.size ≤ 140737488351232) : Calls Tryz.prog 4 #[v, .string S] w (Gives (.bool true) w) := by
  have HV := Aside.mk hv
  have HX := Aside.mk hx
  have HR := Aside.mk hr
  clear hv hx hr
  obtain ⟨A, C, rfl, -⟩ := HR.out.reads
  by_cases hlong : 2000 < l.length ∨ 20000 < S.size
  · obtain ⟨n, hn⟩ : ∃ n, l.length = n := ⟨_, rfl⟩
    rw [hn] at hlong ⊢
    clear hn HR HX
    by_cases h1 : 2000 < n
    · have h1i : (2000 : Int) < n := by omega
      clear hlong h1
      go_enter Tryz.func4, Tryz.ntmps4
      go_wp2_with fail
      refine (wakes6_any _ HV.out.base).mono ?_
      rintro e w3 ⟨rfl, hB3⟩
      go_wp2_with fail
      go_ret
      exact ⟨rfl, hB3⟩
    · have h1i : ¬ ((2000 : Int) < n) := by omega
      have h2i : (20000 : Int) < S.size := by omega
      clear hlong h1
      go_enter Tryz.func4, Tryz.ntmps4
      go_wp2_with fail
      refine (wakes6_any _ HV.out.base).mono ?_
      rintro e w3 ⟨rfl, hB3⟩
      go_wp2_with fail
      go_ret
      exact ⟨rfl, hB3⟩
  · have hl2 : l.length ≤ 2000 := by omega
    have hs2 : S.size ≤ 20000 := by omega
    have h1i : ¬ ((2000 : Int) < l.length) := by omega
    have h2i : ¬ ((20000 : Int) < S.size) := by omega
    clear hlong
    obtain ⟨⟨ow, oa, oe⟩, hres⟩ : ∃ r, wordsS S.data.toList = r := ⟨_, rfl⟩
    have hol : ow.length ≤ 20000 := by
      have := wordsG_len S.data.toList [] []
      have e : wordsG S.data.toList [] [] = (ow, oa, oe) := hres
      rw [e, len_list] at this
      simp at this; omega
    have HRES := Lib.hid hres
    have q1 : (oa == oa) = true := by simp
    have q2 : (oe == oe) = true := by simp
    clear hres
    go_enter Tryz.func4, Tryz.ntmps4
    go_wp2_with (at_builtin; refine wpList_append_ws rfl _ _ rfl w.heap.size _ _ l rfl (new_row32 w) rfl ?c1 (by omega) ?c2 ?_)
    case c1 => exact HR.out.stays (ablow _ _)
    intro v1 w1 hown1 hgrow1
    have hB1 : Below w.heap.size w w1 := Below.grown (ablow _ _) hgrow1 (by simp) (fun b hb => by simp [Value.ownBlock] at hb; omega)
    obtain ⟨A1, C1, rfl⟩ := own_slice hown1
    have HIN1 := Aside.mk (own_reads32 hown1)
    have HB1 := Aside.mk hB1
    have HV1 := Aside.mk (HV.out.stays hB1)
    have HL := Aside.mk HR.out.reads
    clear hown1 hgrow1 hB1 HR
    have hsl : S.data.toList.length ≤ 65536 := by rw [len_list]; omega
    go_wp2_with fail
    refine (show Calls Tryz.prog 9 #[.string S] _ (AtWords (ow, oa, oe) _) from p_Words S.data.toList _ HV1.out hsl _ HRES.out).mono ?_
    rintro e w2 ⟨vk, rfl, hk, hB2⟩
    have HK2 := Aside.mk hk
    have HB2 := Aside.mk (bthen HB1.out hB2)
    have HIN2 := Aside.mk (HIN1.out.stays hB2)
    clear hk hB2 HIN1
    go_wp2_with fail
    refine (show Calls Tryz.prog 10 #[.string S] _ (AtWords (ow, oa, oe) _) from r_Words S.data.toList _ hsl _ HRES.out).mono ?_
    rintro e w3 ⟨vm, rfl, hm, hB3⟩
    have HM3 := Aside.mk hm
    have HK3 := Aside.mk (HK2.out.stays hB3)
    have HB3 := Aside.mk (bthen HB2.out hB3)
    have HIN3 := Aside.mk (HIN2.out.stays hB3)
    clear hm hB3 HK2 HIN2
    go_wp2_with fail
    refine (p_Lines _ l _ HIN3.out (HV.out.stays HB3.out) (by omega) HX.out).mono ?_
    rintro e w4 ⟨rfl, hB4⟩
    have HM4 := Aside.mk (HM3.out.stays hB4)
    have HK4 := Aside.mk (HK3.out.stays hB4)
    have HB4 := Aside.mk (bthen HB3.out hB4)
    have HIN4 := Aside.mk (HIN3.out.stays hB4)
    clear hB4 HM3 HK3 HIN3
    go_wp2_with fail
    refine (r_Lines _ l _ (HL.out.stays HB4.out) (by omega) HX.out).mono ?_
    rintro e w5 ⟨rfl, hB5⟩
    have HM5 := Aside.mk (HM4.out.stays hB5)
    have HK5 := Aside.mk (HK4.out.stays hB5)
    have HB5 := Aside.mk (bthen HB4.out hB5)
    have HIN5 := Aside.mk (HIN4.out.stays hB5)
    clear hB5 HM4 HK4 HIN4
    obtain ⟨T, hT⟩ : ∃ T : ByteArray, (⟨(linesS l).toArray⟩ : ByteArray) = T := ⟨_, rfl⟩
    rw [hT]
    clear hT
    go_wp2_with fail
    refine (k_Words _ _ l l _ HIN5.out (HL.out.stays HB5.out) (by omega) (by omega)).mono ?_
    rintro e w6 ⟨rfl, hB6⟩
    rw [decide_eq_true (rfl : l = l)]
    have HM6 := Aside.mk (HM5.out.stays hB6)
    have HK6 := Aside.mk (HK5.out.stays hB6)
    have HB6 := Aside.mk (bthen HB5.out hB6)
    clear hB6 HM5 HK5 HIN5
    go_wp2_with fail
    refine (k_Words _ _ ow ow _ HK6.out HM6.out (by omega) (by omega)).mono ?_
    rintro e w7 ⟨rfl, hB7⟩
    rw [decide_eq_true (rfl : ow = ow)]
    have HB7 := Aside.mk (bthen HB6.out hB7)
    clear hB7
    go_wp2_with fail
    refine (wakes6_any _ (HV.out.base.stays HB7.out)).mono ?_
    rintro e w8 ⟨rfl, hB8⟩
    go_wp2_with fail
    go_ret
    exact ⟨rfl, bthen HB7.out hB8⟩
end Go.Proofs.YtjjgjadfnongfaaGreatDoor
