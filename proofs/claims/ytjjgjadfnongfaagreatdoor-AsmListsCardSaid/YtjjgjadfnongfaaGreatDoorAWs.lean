import Derived.Test.YtjjgjadfnongfaaGreatDoorAWsS
set_option linter.unusedVariables false
set_option linter.unusedSimpArgs false
namespace Go.Proofs.YtjjgjadfnongfaaGreatDoor
open Go.RowKit
/-! asm.Words. -/
def AtWords (r : List Int × Int × Int) (w : World) (e : Ending) (w' : World) : Prop := ∃ v, e = .returned (.tuple #[v, .int .i64 r.2.1, .int .i64 r.2.2]) ∧ ReadsWs w' v r.1 ∧ Below w.heap.size w w'
def sizeV : Value → Nat
  | .string S => S.size
  | _ => 0
theorem ws_nil (w : World) : ReadsWs w (.slice none 0 0) [] := ⟨none, 0, rfl, fun h => by simp at h⟩
set_option maxHeartbeats 4000000 in
set_option maxRecDepth 100000 in
theorem p_Words (s : List UInt8) (w : World) (hv : VarsB w) (hs : s.length ≤ 65536) (r : List Int × Int × Int) (hres : wordsS s = r) :
    Calls Tryz.prog 9 #[.string ⟨s.toArray⟩] w (AtWords r w) := by
  obtain ⟨i0, hi, hz0, hz1, hz2⟩ := info_parts info_u32
  have HI := Lib.hid hi
  have HZ0 := Lib.hid hz0
  have HZ1 := Lib.hid hz1
  have HZ2 := Lib.hid hz2
  clear hi hz0 hz1 hz2
  have HV := Aside.mk hv
  have HRES := Lib.hid hres
  clear hv hres
  obtain ⟨S, hS⟩ : ∃ S : ByteArray, (⟨s.toArray⟩ : ByteArray) = S := ⟨_, rfl⟩
  have hSs : S.data.toList = s := by rw [← hS]
  have hSz : S.size ≤ 65536 := by rw [← len_list, hSs]; exact hs
  rw [hS]
  have HSs := Lib.hid hSs
  have hcb : Lib.countByte S.data.toList 10 ≤ 65536 := Nat.le_trans (List.count_le_length) (by rw [len_list]; exact hSz)
  obtain ⟨cb, hcbe⟩ : ∃ c, Lib.countByte S.data.toList 10 = c := ⟨_, rfl⟩
  rw [hcbe] at hcb
  have HCB := Lib.hid hcbe
  clear hS hSs hcbe
  go_enter Tryz.func9, Tryz.ntmps9
  go_wp2_with fail
  refine (Tryz.strings_Count_one S 10 _).mono ?_
  rintro e w0 ⟨rfl, rfl⟩
  rw [HCB.out]
  go_wp2_with fail
  refine (named_any _ HV.out.base.space).mono ?_
  rintro e w1 ⟨nv, rfl, hnm, hB1⟩
  have HM := Aside.mk hnm
  have HB1 := Aside.mk hB1
  have HV1 := Aside.mk (HV.out.stays hB1)
  clear hnm hB1
  go_wp2_with fail
  go_loopw [0, 7] (fun sv v wr => ∃ (Z : ByteArray) (n : Nat) (A : Option Addr) (C : Nat) (out : List Int), sv = .string Z ∧ v = .slice A n C ∧ n + Z.size ≤ 65536 ∧ Aside (out.length = n) ∧ Aside (wordsG Z.data.toList [] out = r) ∧ Aside (wr.ownsRow w1.heap.size 23 1 (.slice A n C) n (wordsV out)) ∧ Aside (Below w1.heap.size w1 wr)) (fun sv _ _ => sizeV sv)
  case atStart => exact ⟨S, 0, none, 0, [], rfl, rfl, by omega, ⟨rfl⟩, ⟨by rw [HSs.out]; exact HRES.out⟩, ⟨World.ownsRow_nil _ _ _ _⟩, ⟨Below.refl _ _⟩⟩
  case round =>
    obtain ⟨Z, n, A, C, out, rfl, rfl, hnz, hlen, hgo, hown, hbw⟩ := hrel
    by_cases hz : Z.toList = []
    · have he2 : Z.toList.isEmpty = true := by simpa using hz
      have hr : r = (out, 0, 0) := by
        rw [← hgo.out, ← ByteArray.toList_eq, hz]; rfl
      subst hr
      have HL := Aside.mk hlen.out
      clear hz hgo hlen
      go_wp2
      go_ret3
      have e := HL.out
      subst e
      exact ⟨_, rfl, own_reads32 hown.out, bthen HB1.out hbw.out⟩
    · have he2 : Z.toList.isEmpty = false := by simpa using hz
      have hzl : Z.data.toList ≠ [] := by rw [← ByteArray.toList_eq]; exact hz
      have hsub := Aside.mk (bthen HB1.out hbw.out)
      have HVr := Aside.mk (HV.out.stays hsub.out)
      have HNr := Aside.mk (namer_stays HM.out hbw.out)
      have hbr := Lib.hid hbw.out.size
      obtain ⟨mm, hmost⟩ := HVr.out.base.most
      have HMO := Aside.mk hmost
      have hZz : Z.size < 4294967281 := by omega
      clear hz hmost
      by_cases h10 : (10 : UInt8) ∈ Z.data.toList
      · obtain ⟨p, q, hpq, hp10⟩ := first_ten _ h10
        have hcut : Lib.cut Z.data.toList (⟨#[10]⟩ : ByteArray).data.toList = (p, q, true) := by rw [hpq]; exact cut_ten hp10
        have hpl : p.length + q.length + 1 = Z.size := by rw [← len_list, hpq]; simp; omega
        have hpl1 : p.length + q.length + 1 ≤ Z.size := Nat.le_of_eq hpl
        have hgo1 := hgo.out
        rw [hpq] at hgo1
        obtain ⟨LB, hLB⟩ : ∃ S : ByteArray, (⟨p.toArray⟩ : ByteArray) = S := ⟨_, rfl⟩
        obtain ⟨QB, hQB⟩ : ∃ S : ByteArray, (⟨q.toArray⟩ : ByteArray) = S := ⟨_, rfl⟩
        have hQs : QB.data.toList = q := by rw [← hQB]
        have hQz : QB.size + 1 ≤ Z.size := by rw [← len_list, hQs]; omega
        have HCUT := Lib.hid hcut
        have HGO := Lib.hid hgo1
        have HLB := Lib.hid hLB
        have HQB := Lib.hid hQB
        have HQs := Lib.hid hQs
        have HP10 := Lib.hid hp10
        clear hpq hcut hpl hgo1 hLB hQB hQs h10 hzl hgo hp10
        go_wp2_with fail
        refine (Tryz.strings_Cut Z ⟨#[10]⟩ mm _ hZz HMO.out).mono ?_
        rintro e w2 ⟨rfl, nd, hw2⟩
        rw [HCUT.out]
        simp only
        rw [HLB.out, HQB.out]
        have hB2 : Below wr.heap.size wr w2 := by rw [hw2]; exact bdrew _ _ _
        have HV2 := Aside.mk (HVr.out.stays hB2)
        have HN2 := Aside.mk (namer_stays HNr.out hB2)
        have hown2 : Aside (w2.ownsRow w1.heap.size 23 1 (.slice A n C) n (wordsV out)) := ⟨own_below hown.out hB2⟩
        have hbw2 := Aside.mk (bthen hbw.out hB2)
        clear hw2 hB2 hown hbw
        go_wp2_with fail
        rw [← HLB.out]
        refine (p_either nv p _ HN2.out HV2.out (by omega)).mono ?_
        rintro e w3 ⟨rfl, hB3⟩
        have hown3 : Aside (w3.ownsRow w1.heap.size 23 1 (.slice A n C) n (wordsV out)) := ⟨own_below hown2.out hB3⟩
        have hbw3 := Aside.mk (bthen hbw2.out hB3)
        clear hB3 hown2 hbw2
        obtain ⟨a0, a1, a2⟩ := any_range p
        obtain ⟨x, hx⟩ : ∃ x, (anyS p).1 = x := ⟨_, rfl⟩
        rw [hx] at a0 a1 ⊢
        have HX := Lib.hid hx
        have HA0 := Lib.hid a0
        have HA1 := Lib.hid a1
        clear hx a0 a1
        rcases a2 with a2 | a2
        · have hg := wordsG_good (r := q) (out := out) HP10.out a2
          rw [HX.out] at hg
          rw [a2]
          have HG := Lib.hid (hg.symm.trans HGO.out)
          clear a2 hg
          go_wp2_with (at_builtin; refine wpList_append_own _ rfl _ _ 30 rfl w1.heap.size 23 i0 _ 1 4 Tryz.underlying30 HI.out HZ0.out HZ1.out HZ2.out rfl (by decide) _ n _ rfl (hown3.out.alloc _) ⟨w3.heap.size, 0, none⟩ 1 1 [.int .u32 x] rfl rfl ?c1 ?c2 ?c3 ?c4 ?c5 ?_)
          case c1 => exact new_cells rfl
          case c2 => intro u hu; simp at hu; subst hu; rfl
          case c3 => unfold maxLen; omega
          case c4 => omega
          case c5 => have := hbw3.out.size; simp; omega
          intro v5 w5 hown5 hgrow5 _
          have hB5 : Below w1.heap.size w1 w5 := by
            refine Below.grown ?_ hgrow5 ?_ (fun b hb => own_base hown3.out b hb)
            · exact hbw3.out.alloc hbw3.out.size _
            · have := hbw3.out.size; simp; omega
          obtain ⟨A5, C5, rfl⟩ := own_slice hown5
          have HOWN5 := Aside.mk hown5
          have HB5 := Aside.mk hB5
          clear hown5 hgrow5 hown3 hbw3 hB5
          go_wp2_with fail
          go_roundw
          case rel =>
            refine ⟨QB, n + 1, A5, C5, out ++ [x], rfl, rfl, by omega, ⟨?_⟩, ⟨?_⟩, ⟨?_⟩, HB5⟩
            · rw [List.length_append, hlen.out]; rfl
            · rw [HQs.out]; exact HG.out
            · have : wordsV (out ++ [x]) = wordsV out ++ [.int .u32 x] := by simp [wordsV]
              rw [this]; exact HOWN5.out
          case measure => simp only [sizeV]; omega
        · have hg := wordsG_bad (r := q) (out := out) HP10.out (by rw [a2]; decide)
          rw [a2]
          have HG := Lib.hid (HGO.out.symm.trans hg)
          clear a2 hg
          go_wp2_with fail
          go_ret3
          refine ⟨_, by rw [HG.out, hlen.out]; rfl, by rw [HG.out]; exact ws_nil _, bthen HB1.out hbw3.out⟩
      · have hcut : Lib.cut Z.data.toList (⟨#[10]⟩ : ByteArray).data.toList = (Z.data.toList, [], false) := by
          unfold Lib.cut
          rw [show (⟨#[10]⟩ : ByteArray).data.toList = [10] from rfl, index_no _ [] 10 h10]
          rfl
        have hop := wordsG_open (out := out) h10 hzl
        have HOP := Lib.hid (hgo.out.symm.trans hop)
        have HCUT := Lib.hid hcut
        have hzz : Z.data.toList.length ≤ 1000000 := by rw [len_list]; omega
        clear hcut hop h10 hzl hgo
        go_wp2_with fail
        refine (Tryz.strings_Cut Z ⟨#[10]⟩ mm _ hZz HMO.out).mono ?_
        rintro e w2 ⟨rfl, nd, hw2⟩
        rw [HCUT.out]
        simp only
        have hB2 : Below wr.heap.size wr w2 := by rw [hw2]; exact bdrew _ _ _
        have HV2 := Aside.mk (HVr.out.stays hB2)
        have HN2 := Aside.mk (namer_stays HNr.out hB2)
        have hbw2 := Aside.mk (bthen hbw.out hB2)
        clear hw2 hB2 hbw
        go_wp2_with fail
        refine (p_either nv Z.data.toList _ HN2.out HV2.out hzz).mono ?_
        rintro e w3 ⟨rfl, hB3⟩
        have hbw3 := Aside.mk (bthen hbw2.out hB3)
        clear hB3 hbw2
        obtain ⟨-, -, a2⟩ := any_range Z.data.toList
        rcases a2 with a2 | a2
        · rw [a2]
          clear a2
          go_wp2_with fail
          go_ret3
          refine ⟨_, by rw [HOP.out, hlen.out]; rfl, by rw [HOP.out]; exact ws_nil _, bthen HB1.out hbw3.out⟩
        · rw [a2]
          clear a2
          go_wp2_with fail
          go_ret3
          refine ⟨_, by rw [HOP.out, hlen.out]; rfl, by rw [HOP.out]; exact ws_nil _, bthen HB1.out hbw3.out⟩
end Go.Proofs.YtjjgjadfnongfaaGreatDoor
