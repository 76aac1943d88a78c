import Derived.Test.YtjjgjadfnongfaaGreatDoorAHs
import Derived.Test.YtjjgjadfnongfaaGreatDoorAWs
import Derived.Test.YtjjgjadfnongfaaGreatDoorARw4
set_option linter.unusedVariables false
set_option linter.unusedSimpArgs false
namespace Go.Proofs.YtjjgjadfnongfaaGreatDoor
open Go.RowKit
/-! The reference's Words. -/
theorem head_op : ∀ (k : Fin 12) (u v : Bool), (opN (k.1 : Nat) ++ markL u v).headD 35 ≠ 35 := by decide +kernel
theorem head_mem : ∀ (u v : Bool), ((if u then [83, 84] else [76, 68]) ++ (if v then [66] else [82]) : List UInt8).headD 35 ≠ 35 := by decide +kernel
theorem head_jump : ∀ (k : Fin 16) (v : Bool), ((if v then [66, 76] else [66]) ++ (46 :: condN (k.1 : Nat)) : List UInt8).headD 35 ≠ 35 := by decide +kernel
theorem name_head {x : Ins} (h : goodI x = true) : (nameI x).headD 35 ≠ 35 := by
  obtain ⟨f, u, v, a, b, c, op, im⟩ := x
  have hf := good_form h
  obtain ⟨⟨a0, a1⟩, -, -, o0, o1⟩ := good_nibs h
  simp only at a0 a1 o0 o1 hf
  obtain ⟨n, rfl⟩ := Int.eq_ofNat_of_zero_le o0
  obtain ⟨m, rfl⟩ := Int.eq_ofNat_of_zero_le a0
  have hn : n < 12 := by omega
  have hm : m < 16 := by omega
  rcases hf with rfl | rfl | rfl | rfl
  · exact head_op ⟨n, hn⟩ u v
  · exact head_op ⟨n, hn⟩ u v
  · exact head_mem u v
  · exact head_jump ⟨m, hm⟩ v
theorem any_word {s : List UInt8} (h : Lib.hasPrefix s [35] = true → hashS s = none) : anyS s = wordOf (parseR s) s := by
  by_cases hp : Lib.hasPrefix s [35] = true
  · rw [any_none hp (h hp), word_of_none]
    rintro w ⟨h0, h1, hg, rfl⟩
    simp only [goodW, Bool.and_eq_true] at hg
    have hh := name_head hg.1
    cases hn : nameI (insOf w) with
    | nil => rw [hn] at hh; exact hh rfl
    | cons c t =>
      rw [hn] at hh
      simp only [lineI, hn, List.cons_append, Lib.hasPrefix, List.isPrefixOf, Bool.and_eq_true] at hp
      have e : 35 = c := by simpa using hp
      exact hh e.symm
  · unfold anyS
    rw [if_neg hp, word_law]
set_option maxHeartbeats 4000000 in
set_option maxRecDepth 100000 in
theorem r_Words (s : List UInt8) (w : World) (hs : s.length ≤ 65536) (r : List Int × Int × Int) (hres : wordsS s = r) :
    Calls Tryz.prog 10 #[.string ⟨s.toArray⟩] w (AtWords r w) := by
  obtain ⟨i0, hi, hz0, hz1, hz2⟩ := info_parts info_u32
  have HI := Lib.hid hi
  have HZ0 := Lib.hid hz0
  have HZ1 := Lib.hid hz1
  have HZ2 := Lib.hid hz2
  clear hi hz0 hz1 hz2
  have HRES := Lib.hid hres
  clear hres
  obtain ⟨S, hS⟩ : ∃ S : ByteArray, (⟨s.toArray⟩ : ByteArray) = S := ⟨_, rfl⟩
  have hSs : S.data.toList = s := by rw [← hS]
  have hSz : S.size ≤ 65536 := by rw [← len_list, hSs]; exact hs
  rw [hS]
  have HSs := Lib.hid hSs
  clear hS hSs
  go_enter Tryz.func10, Tryz.ntmps10
  go_wp2_with fail
  go_loop [5, 6] (fun nv iv => ∃ (n i : Nat), n ≤ i ∧ i ≤ S.size ∧ nv = .int .i64 n ∧ iv = .int .i64 i) (fun _ iv => S.size - (intOf iv).toNat)
  case atStart => exact ⟨0, 0, by omega, by omega, rfl, rfl⟩
  case round =>
    obtain ⟨n, i, hni, hiS, rfl, rfl⟩ := hrel
    by_cases hlt : i < S.size
    · by_cases h10 : ((S[i]'hlt).toNat : Int) = 10
      · go_wp2_with fail
        go_round
        case rel => exact ⟨n + 1, i + 1, by omega, by omega, by go_num, by go_num⟩
        case measure => simp [intOf]; omega
      · go_wp2_with fail
        go_round
        case rel => exact ⟨n, i + 1, by omega, by omega, rfl, by go_num⟩
        case measure => simp [intOf]; omega
    · have hn : (n : Int) ≤ 65536 := by omega
      clear hni hiS
      go_wp2_with fail
      clear hn
      go_loopw [7, 8, 9] (fun v fv iv wr => ∃ (n f i : Nat) (A : Option Addr) (C : Nat) (out : List Int), v = .slice A n C ∧ fv = .int .i64 f ∧ iv = .int .i64 i ∧ n ≤ f ∧ f ≤ i ∧ i ≤ S.size ∧ Aside (out.length = n) ∧ Aside (wordsG (S.data.toList.drop i) ((S.data.toList.drop f).take (i - f)) out = r) ∧ Aside (wr.ownsRow w.heap.size 23 1 (.slice A n C) n (wordsV out)) ∧ Aside (Below w.heap.size w wr)) (fun _ _ iv _ => S.size - (intOf iv).toNat)
      case atStart => exact ⟨0, 0, 0, none, 0, [], rfl, rfl, rfl, by omega, by omega, by omega, ⟨rfl⟩, ⟨by rw [HSs.out]; exact HRES.out⟩, ⟨World.ownsRow_nil _ _ _ _⟩, ⟨Below.refl _ _⟩⟩
      case round =>
        obtain ⟨n, f, i, A, C, out, rfl, rfl, rfl, hnf, hfi, hiS, hlen, hgo, hown, hbw⟩ := hrel
        by_cases hlt : i < S.size
        · have hdc : S.data.toList.drop i = S[i] :: S.data.toList.drop (i + 1) := drop_cons S i hlt
          have hgo1 := hgo.out
          rw [hdc, wordsG] at hgo1
          by_cases h10 : S[i]'hlt = 10
          · rw [if_pos h10] at hgo1
            have h10i : (((S[i]'hlt).toNat : Int) == 10) = true := by rw [h10]; rfl
            have h10e : ((S[i]'hlt).toNat : Int) = 10 := by rw [h10]; rfl
            obtain ⟨T, hT⟩ : ∃ T, S.extract f i = T := ⟨_, rfl⟩
            have hTs : T.data.toList = (S.data.toList.drop f).take (i - f) := by rw [← hT, extract_list]
            rw [← hTs] at hgo1
            have hTz : T.size ≤ 65536 := by
              rw [← len_list, hTs, List.length_take, List.length_drop, len_list]; omega
            have HGO := Lib.hid hgo1
            have hfii : (f : Int) ≤ i := by omega
            have hiSi : (i : Int) ≤ S.size := by omega
            clear hgo1 hdc hTs hgo
            go_wp2_with fail
            refine (r_hash T _ (by omega)).mono ?_
            rintro e w3 ⟨v, ok, rfl, hok, hno, hB3⟩
            have hown3 : Aside (w3.ownsRow w.heap.size 23 1 (.slice A n C) n (wordsV out)) := ⟨own_below hown.out hB3⟩
            have hbw3 := Aside.mk (bthen hbw.out hB3)
            clear hown hbw hB3
            cases ok
            · have hany := any_word (hno rfl)
              obtain ⟨-, -, ha2⟩ := any_range T.data.toList
              have hTl : T.data.toList.length ≤ 140737488351232 := by rw [len_list]; omega
              have HANY := Lib.hid hany
              clear hok hno hany
              go_wp2_with fail
              refine (show Calls Tryz.prog 8 #[.string T] _ (AtWordR T.data.toList _) from r_Word T.data.toList _ hTl).mono ?_
              rintro e w4 ⟨rfl, hB4⟩
              have hown4 : Aside (w4.ownsRow w.heap.size 23 1 (.slice A n C) n (wordsV out)) := ⟨own_below hown3.out hB4⟩
              have hbw4 := Aside.mk (bthen hbw3.out hB4)
              clear hown3 hbw3 hB4 hTl
              rw [← HANY.out]
              obtain ⟨x, hx⟩ : ∃ x, (anyS T.data.toList).1 = x := ⟨_, rfl⟩
              obtain ⟨y, hy⟩ : ∃ y, (anyS T.data.toList).2 = y := ⟨_, rfl⟩
              have hg := HGO.out
              rw [hx, hy] at hg
              rw [hy] at ha2
              rw [hx, hy]
              clear hx hy HGO HANY
              rcases ha2 with rfl | rfl
              · rw [if_pos rfl] at hg
                have HG := Lib.hid hg
                clear hg
                go_wp2_with (at_builtin; refine wpList_append_own _ rfl _ _ 30 rfl w.heap.size 23 i0 _ 1 4 Tryz.underlying30 HI.out HZ0.out HZ1.out HZ2.out rfl (by decide) _ n _ rfl (hown4.out.alloc _) ⟨w4.heap.size, 0, none⟩ 1 1 [.int .u32 x] rfl rfl ?c1 ?c2 ?c3 ?c4 ?c5 ?_)
                case c1 => exact new_cells rfl
                case c2 => intro u hu; simp at hu; subst hu; rfl
                case c3 => unfold maxLen; omega
                case c4 => omega
                case c5 => have := hbw4.out.size; simp; omega
                intro v5 w5 hown5 hgrow5 _
                have hB5 : Below w.heap.size w w5 := by
                  refine Below.grown ?_ hgrow5 ?_ (fun b hb => own_base hown4.out b hb)
                  · exact hbw4.out.alloc hbw4.out.size _
                  · have := hbw4.out.size; simp; omega
                obtain ⟨A5, C5, rfl⟩ := own_slice hown5
                have HOWN5 := Aside.mk hown5
                have HB5 := Aside.mk hB5
                clear hown5 hgrow5 hown4 hbw4 hB5
                go_wp2_with fail
                go_roundw
                case rel =>
                  refine ⟨n + 1, i + 1, i + 1, A5, C5, out ++ [x], rfl, by go_num, by go_num, by omega, by omega, by omega, ⟨?_⟩, ⟨?_⟩, ⟨?_⟩, HB5⟩
                  · rw [List.length_append, hlen.out]; rfl
                  · rw [Nat.sub_self, List.take_zero]; exact HG.out
                  · have : wordsV (out ++ [x]) = wordsV out ++ [.int .u32 (x)] := by simp [wordsV]
                    rw [this]; exact HOWN5.out
                case measure => simp [intOf]; omega
              · rw [if_neg (by decide)] at hg
                have HG := Lib.hid hg
                clear hg
                go_wp2_with fail
                go_ret3
                refine ⟨_, by rw [← HG.out, hlen.out]; rfl, by rw [← HG.out]; exact ws_nil _, hbw4.out⟩
            · obtain ⟨hp, m, rfl, hm⟩ := hok rfl
              have hg := HGO.out
              rw [any_some hp hm, if_pos rfl] at hg
              have HG := Lib.hid hg
              clear hok hno hp hm hg HGO
              go_wp2_with (at_builtin; refine wpList_append_own _ rfl _ _ 30 rfl w.heap.size 23 i0 _ 1 4 Tryz.underlying30 HI.out HZ0.out HZ1.out HZ2.out rfl (by decide) _ n _ rfl (hown3.out.alloc _) ⟨w3.heap.size, 0, none⟩ 1 1 [.int .u32 (m : Int)] rfl rfl ?c1 ?c2 ?c3 ?c4 ?c5 ?_)
              case c1 => exact new_cells rfl
              case c2 => intro u hu; simp at hu; subst hu; rfl
              case c3 => unfold maxLen; omega
              case c4 => omega
              case c5 => have := hbw3.out.size; simp; omega
              intro v5 w5 hown5 hgrow5 _
              have hB5 : Below w.heap.size w w5 := by
                refine Below.grown ?_ hgrow5 ?_ (fun b hb => own_base hown3.out b hb)
                · exact hbw3.out.alloc hbw3.out.size _
                · have := hbw3.out.size; simp; omega
              obtain ⟨A5, C5, rfl⟩ := own_slice hown5
              have HOWN5 := Aside.mk hown5
              have HB5 := Aside.mk hB5
              clear hown5 hgrow5 hown3 hbw3 hB5
              go_wp2_with fail
              go_roundw
              case rel =>
                refine ⟨n + 1, i + 1, i + 1, A5, C5, out ++ [(m : Int)], rfl, by go_num, by go_num, by omega, by omega, by omega, ⟨?_⟩, ⟨?_⟩, ⟨?_⟩, HB5⟩
                · rw [List.length_append, hlen.out]; rfl
                · rw [Nat.sub_self, List.take_zero]; exact HG.out
                · have : wordsV (out ++ [(m : Int)]) = wordsV out ++ [.int .u32 ((m : Int))] := by simp [wordsV]
                  rw [this]; exact HOWN5.out
              case measure => simp [intOf]; omega
          · rw [if_neg h10] at hgo1
            have h10i : ¬ (((S[i]'hlt).toNat : Int) = 10) := fun e => h10 (UInt8.toNat.inj (by simpa using (by omega : (S[i]'hlt).toNat = 10)))
            have htk : (S.data.toList.drop f).take (i + 1 - f) = (S.data.toList.drop f).take (i - f) ++ [S[i]'hlt] := by
              rw [show i + 1 - f = i - f + 1 by omega, List.take_add_one, List.getElem?_drop, show f + (i - f) = i by omega, List.getElem?_eq_getElem (by rw [len_list]; exact hlt), get_list S i hlt]; rfl
            rw [← htk] at hgo1
            have HGO := Aside.mk hgo1
            clear hgo1 hdc htk hgo h10
            go_wp2_with fail
            go_roundw
            case rel => exact ⟨n, f, i + 1, A, C, out, rfl, rfl, by go_num, hnf, by omega, by omega, hlen, HGO, hown, hbw⟩
            case measure => simp [intOf]; omega
        · have hie : i = S.size := by omega
          have hgo1 := hgo.out
          rw [List.drop_of_length_le (i := i) (by rw [len_list, hie]; exact Nat.le_refl _), List.take_of_length_le (by rw [List.length_drop, len_list, hie]; exact Nat.le_refl _), wordsG] at hgo1
          by_cases hfs : f < S.size
          · rw [if_neg (by intro e; have := congrArg List.length e; rw [List.length_drop, len_list] at this; simp at this; omega)] at hgo1
            have HGO := Lib.hid hgo1
            clear hgo1 hgo
            go_wp2_with fail
            go_ret3
            refine ⟨_, by rw [← HGO.out, hlen.out]; rfl, by rw [← HGO.out]; exact ws_nil _, hbw.out⟩
          · rw [if_pos (List.drop_of_length_le (by rw [len_list]; omega))] at hgo1
            have HGO := Lib.hid hgo1
            clear hgo1 hgo
            go_wp2_with fail
            go_ret3
            have e := hlen.out
            subst e
            refine ⟨_, by rw [← HGO.out]; rfl, by rw [← HGO.out]; exact own_reads32 hown.out, hbw.out⟩
end Go.Proofs.YtjjgjadfnongfaaGreatDoor
