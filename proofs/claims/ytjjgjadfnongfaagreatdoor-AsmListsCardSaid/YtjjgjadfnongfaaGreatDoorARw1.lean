import Derived.Test.YtjjgjadfnongfaaGreatDoorARLine
import Derived.Test.YtjjgjadfnongfaaGreatDoorAWordP
import Derived.Lib.CutLaws
set_option linter.unusedVariables false
set_option linter.unusedSimpArgs false
namespace Go.Proofs.YtjjgjadfnongfaaGreatDoor
open Go.RowKit Go.Maps Go.MapKept
theorem idx_hit {L : List (List UInt8)} {s : List UInt8} {k : Nat} (h : s ∉ L.take k) (hk : L[k]? = some s) : idxL L s = k := by
  have hlt := (List.getElem?_eq_some_iff.1 hk).1
  have e : L.idxOf s = k := by
    have hs : L = L.take k ++ L.drop k := (List.take_append_drop k L).symm
    rw [hs, List.idxOf_append, if_neg h, List.length_take, Nat.min_eq_left (by omega)]
    rw [List.drop_eq_getElem_cons hlt, (List.getElem?_eq_some_iff.1 hk).2, List.idxOf_cons_self, Nat.zero_add]
  unfold idxL
  rw [e, if_pos hlt]
theorem idx_miss {L : List (List UInt8)} {s : List UInt8} (h : s ∉ L) : idxL L s = -1 := by
  unfold idxL
  rw [if_neg (by rw [List.idxOf_lt_length_iff]; exact h)]
/-- spinetref06.index. -/
theorem r_index (L : List (List UInt8)) (n g : Nat) (s : List UInt8) (w : World) (hn : L.length = n) (hz : n ≤ 1000) (hg : w.heap[g]? = some (.cells (textsRow L) 9 (0, 0))) :
    Calls Tryz.prog 38 #[.slice (some ⟨g, 0, none⟩) n n, .string ⟨s.toArray⟩] w (Is (.int .i64 (idxL L s)) w) := by
  obtain ⟨S, hS⟩ : ∃ S : ByteArray, (⟨s.toArray⟩ : ByteArray) = S := ⟨_, rfl⟩
  have hSl : S.data.toList = s := by rw [← hS]
  rw [hS]
  have HN := Lib.hid hn
  have HG := Lib.hid hg
  have HSL := Lib.hid hSl
  clear hn hg hSl hS
  go_enter Tryz.func38, Tryz.ntmps38
  go_wp2_with fail
  go_loop [5] (fun i => ∃ k : Nat, k ≤ n ∧ i = .int .i64 k ∧ Aside (s ∉ L.take k)) (fun i => n - (intOf i).toNat)
  case atStart => exact ⟨0, by omega, rfl, ⟨by simp⟩⟩
  case round =>
    obtain ⟨k, hk, rfl, hno⟩ := hrel
    by_cases hlt : k < n
    · obtain ⟨p, hp⟩ : ∃ p, L[k]? = some p := ⟨L[k]'(by rw [HN.out]; exact hlt), List.getElem?_eq_getElem _⟩
      obtain ⟨A, hA⟩ : ∃ S : ByteArray, (⟨p.toArray⟩ : ByteArray) = S := ⟨_, rfl⟩
      have hAl : A.data.toList = p := by rw [← hA]
      have hcell : w.cell? ⟨g, k, none⟩ = some (.string A) := by
        rw [cell_of_block HG.out, ← hA]
        simp [textsRow, hp]
      have hki : (k : Int) < n := by omega
      by_cases he : p = s
      · have q : (A.toList == S.toList) = true := by rw [ByteArray.toList_eq, ByteArray.toList_eq, HSL.out, hAl, he]; simp
        have HP := Lib.hid hp
        have HE := Lib.hid he
        clear hp he hA hAl
        go_wp2_with fail
        go_ret
        exact ⟨ret_int (idx_hit hno.out (HE.out ▸ HP.out)).symm, rfl⟩
      · have q : (A.toList == S.toList) = false := by rw [ByteArray.toList_eq, ByteArray.toList_eq, HSL.out, hAl]; simp [he]
        have HP := Lib.hid hp
        clear hp hA hAl
        go_wp2_with fail
        go_round
        case rel =>
          refine ⟨k + 1, by omega, by go_num, ⟨?_⟩⟩
          rw [List.take_add_one, HP.out]
          intro hm
          rcases List.mem_append.1 hm with hm | hm
          · exact hno.out hm
          · simp at hm; exact he hm.symm
        case measure => simp [intOf]; omega
    · have hkn : k = n := by omega
      subst hkn
      go_wp2_with fail
      go_ret
      refine ⟨ret_int (idx_miss ?_).symm, rfl⟩
      have := hno.out
      rwa [List.take_of_length_le (Nat.le_of_eq HN.out)] at this
def AtCut (s sep : List UInt8) (w : World) (e : Ending) (w' : World) : Prop := e = .returned (.tuple #[.string ⟨(Lib.cut s sep).1.toArray⟩, .string ⟨(Lib.cut s sep).2.1.toArray⟩, .bool (Lib.cut s sep).2.2]) ∧ Below w.heap.size w w'
set_option maxRecDepth 100000 in
set_option maxHeartbeats 1600000 in
/-- spinetref06.cut. -/
theorem r_cut (s sep : List UInt8) (w : World) (hs : s.length ≤ 1000000000) (h1 : 1 ≤ sep.length) (h2 : sep.length ≤ 2) :
    Calls Tryz.prog 17 #[.string ⟨s.toArray⟩, .string ⟨sep.toArray⟩] w (AtCut s sep w) := by
  obtain ⟨S, hS⟩ : ∃ S : ByteArray, (⟨s.toArray⟩ : ByteArray) = S := ⟨_, rfl⟩
  have hSl : S.data.toList = s := by rw [← hS]
  obtain ⟨T, hT⟩ : ∃ S : ByteArray, (⟨sep.toArray⟩ : ByteArray) = S := ⟨_, rfl⟩
  have hTl : T.data.toList = sep := by rw [← hT]
  have hz : S.size ≤ 1000000000 := by rw [← hS, size_mk]; exact hs
  have hz1 : 1 ≤ T.size := by rw [← hT, size_mk]; exact h1
  have hz2 : T.size ≤ 2 := by rw [← hT, size_mk]; exact h2
  have hsz : s.length = S.size := by rw [← hS, size_mk]
  have htz : sep.length = T.size := by rw [← hT, size_mk]
  rw [hS, hT]
  have HSL := Lib.hid hSl
  have HTL := Lib.hid hTl
  have HSZ := Lib.hid hsz
  have HTZ := Lib.hid htz
  clear hS hT hSl hTl hsz htz hs h1 h2
  go_enter Tryz.func17, Tryz.ntmps17
  go_wp2_with fail
  go_loop [7] (fun i => ∃ k : Nat, k ≤ S.size ∧ i = .int .i64 k ∧ Aside (Lib.NoOcc s sep k)) (fun i => S.size + 1 - (intOf i).toNat)
  case atStart => exact ⟨0, by omega, rfl, ⟨Lib.NoOcc.zero _ _⟩⟩
  case round =>
    obtain ⟨k, hk, rfl, hno⟩ := hrel
    by_cases hlt : k + T.size ≤ S.size
    · have hli : (k : Int) + T.size ≤ S.size := by omega
      have hocc := Lib.occAt_iff_take s sep k (by rw [HSZ.out, HTZ.out]; omega)
      have hext : (S.extract k (k + T.size)).toList = (s.drop k).take sep.length := by
        rw [extract_toList, HSL.out, HTZ.out, show k + T.size - k = T.size by omega]
      by_cases ho : Lib.occAt s sep k = true
      · have q : ((S.extract k (k + T.size)).toList == T.toList) = true := by
          rw [hext, ByteArray.toList_eq, HTL.out, ← hocc, ho]
        have hcut : Lib.cut s sep = (s.take k, s.drop (k + sep.length), true) := by
          unfold Lib.cut
          rw [Lib.index_hit hno.out (by rw [HSZ.out]; omega) ho, if_pos (by omega), Int.toNat_natCast]
        have HC := Lib.hid hcut
        have hli2 : (k : Int) + T.size ≤ 9223372036854775807 := by omega
        clear hext hocc hcut ho
        go_wp2_with fail
        refine any_begin later_goes (by kernel_rfl) ?_
        generalize hW : World.drew _ = W0
        have hB0 : Below w.heap.size w W0 := by rw [← hW]; exact (Below.refl _ _).drew
        clear hW
        refine any_take later_goes 0 ?_ ?_ (by simp only [List.getElem?_toArray, List.getElem?_cons_succ, List.getElem?_cons_zero]; exact rfl) (by kernel_rfl) (by kernel_rfl) (by kernel_rfl) (fun _ _ _ _ _ h => h) (by rfl) ?_ ?_
        rotate_left
        · intro wl hL
          have wa : 0 ≤ (k : Int) + T.size := by omega
          have wb : ((k : Int) + T.size).toNat = k + T.size := by omega
          have wc := IntWalk.i64_in ((k : Int) + T.size) ⟨by omega, by omega⟩
          go_simp
          try with_reducible rfl
        try simp only [Act.put, List.setIfInBounds_toArray, List.set_cons_zero, List.set_cons_succ]
        refine any_take later_goes 1 ?_ ?_ (by simp only [List.getElem?_toArray, List.getElem?_cons_succ, List.getElem?_cons_zero]; exact rfl) (by kernel_rfl) (by kernel_rfl) (by kernel_rfl) (fun _ _ _ _ _ h => h) (by rfl) ?_ ?_
        rotate_left
        · intro wl hL
          have wa : 0 ≤ (k : Int) + T.size := by omega
          have wb : ((k : Int) + T.size).toNat = k + T.size := by omega
          have wc := IntWalk.i64_in ((k : Int) + T.size) ⟨by omega, by omega⟩
          go_simp
          try with_reducible rfl
        try simp only [Act.put, List.setIfInBounds_toArray, List.set_cons_zero, List.set_cons_succ]
        refine any_take later_goes 2 ?_ ?_ (by simp only [List.getElem?_toArray, List.getElem?_cons_succ, List.getElem?_cons_zero]; exact rfl) (by kernel_rfl) (by kernel_rfl) (by kernel_rfl) (fun _ _ _ _ _ h => h) (by rfl) ?_ ?_
        rotate_left
        · intro wl hL
          have wa : 0 ≤ (k : Int) + T.size := by omega
          have wb : ((k : Int) + T.size).toNat = k + T.size := by omega
          have wc := IntWalk.i64_in ((k : Int) + T.size) ⟨by omega, by omega⟩
          go_simp
          try with_reducible rfl
        try simp only [Act.put, List.setIfInBounds_toArray, List.set_cons_zero, List.set_cons_succ]
        refine any_take later_goes 3 ?_ ?_ (by simp only [List.getElem?_toArray, List.getElem?_cons_succ, List.getElem?_cons_zero]; exact rfl) (by kernel_rfl) (by kernel_rfl) (by kernel_rfl) (fun _ _ _ _ _ h => h) (by rfl) ?_ ?_
        rotate_left
        · intro wl hL
          have wa : 0 ≤ (k : Int) + T.size := by omega
          have wb : ((k : Int) + T.size).toNat = k + T.size := by omega
          have wc := IntWalk.i64_in ((k : Int) + T.size) ⟨by omega, by omega⟩
          go_simp
          try with_reducible rfl
        try simp only [Act.put, List.setIfInBounds_toArray, List.set_cons_zero, List.set_cons_succ]
        refine any_take later_goes 4 ?_ ?_ (by simp only [List.getElem?_toArray, List.getElem?_cons_succ, List.getElem?_cons_zero]; exact rfl) (by kernel_rfl) (by kernel_rfl) (by kernel_rfl) (fun _ _ _ _ _ h => h) (by rfl) ?_ ?_
        rotate_left
        · intro wl hL
          have wa : 0 ≤ (k : Int) + T.size := by omega
          have wb : ((k : Int) + T.size).toNat = k + T.size := by omega
          have wc := IntWalk.i64_in ((k : Int) + T.size) ⟨by omega, by omega⟩
          go_simp
          try with_reducible rfl
        try simp only [Act.put, List.setIfInBounds_toArray, List.set_cons_zero, List.set_cons_succ]
        refine any_take later_goes 5 ?_ ?_ (by simp only [List.getElem?_toArray, List.getElem?_cons_succ, List.getElem?_cons_zero]; exact rfl) (by kernel_rfl) (by kernel_rfl) (by kernel_rfl) (fun _ _ _ _ _ h => h) (by rfl) ?_ ?_
        rotate_left
        · intro wl hL
          have wa : 0 ≤ (k : Int) + T.size := by omega
          have wb : ((k : Int) + T.size).toNat = k + T.size := by omega
          have wc := IntWalk.i64_in ((k : Int) + T.size) ⟨by omega, by omega⟩
          go_simp
          try with_reducible rfl
        try simp only [Act.put, List.setIfInBounds_toArray, List.set_cons_zero, List.set_cons_succ]
        refine any_take later_goes 6 ?_ ?_ (by simp only [List.getElem?_toArray, List.getElem?_cons_succ, List.getElem?_cons_zero]; exact rfl) (by kernel_rfl) (by kernel_rfl) (by kernel_rfl) (fun _ _ _ _ _ h => h) (by rfl) ?_ ?_
        rotate_left
        · intro wl hL
          have wa : 0 ≤ (k : Int) + T.size := by omega
          have wb : ((k : Int) + T.size).toNat = k + T.size := by omega
          have wc := IntWalk.i64_in ((k : Int) + T.size) ⟨by omega, by omega⟩
          go_simp
          try with_reducible rfl
        try simp only [Act.put, List.setIfInBounds_toArray, List.set_cons_zero, List.set_cons_succ]
        refine any_take later_goes 7 ?_ ?_ (by simp only [List.getElem?_toArray, List.getElem?_cons_succ, List.getElem?_cons_zero]; exact rfl) (by kernel_rfl) (by kernel_rfl) (by kernel_rfl) (fun _ _ _ _ _ h => h) (by rfl) ?_ ?_
        rotate_left
        · intro wl hL
          have wa : 0 ≤ (k : Int) + T.size := by omega
          have wb : ((k : Int) + T.size).toNat = k + T.size := by omega
          have wc := IntWalk.i64_in ((k : Int) + T.size) ⟨by omega, by omega⟩
          go_simp
          try with_reducible rfl
        try simp only [Act.put, List.setIfInBounds_toArray, List.set_cons_zero, List.set_cons_succ]
        refine any_take later_goes 8 ?_ ?_ (by simp only [List.getElem?_toArray, List.getElem?_cons_succ, List.getElem?_cons_zero]; exact rfl) (by kernel_rfl) (by kernel_rfl) (by kernel_rfl) (fun _ _ _ _ _ h => h) (by rfl) ?_ ?_
        rotate_left
        · intro wl hL
          have wa : 0 ≤ (k : Int) + T.size := by omega
          have wb : ((k : Int) + T.size).toNat = k + T.size := by omega
          have wc := IntWalk.i64_in ((k : Int) + T.size) ⟨by omega, by omega⟩
          go_simp
          try with_reducible rfl
        try simp only [Act.put, List.setIfInBounds_toArray, List.set_cons_zero, List.set_cons_succ]
        refine any_take later_goes 9 ?_ ?_ (by simp only [List.getElem?_toArray, List.getElem?_cons_succ, List.getElem?_cons_zero]; exact rfl) (by kernel_rfl) (by kernel_rfl) (by kernel_rfl) (fun _ _ _ _ _ h => h) (by rfl) ?_ ?_
        rotate_left
        · intro wl hL
          have wa : 0 ≤ (k : Int) + T.size := by omega
          have wb : ((k : Int) + T.size).toNat = k + T.size := by omega
          have wc := IntWalk.i64_in ((k : Int) + T.size) ⟨by omega, by omega⟩
          go_simp
          try with_reducible rfl
        try simp only [Act.put, List.setIfInBounds_toArray, List.set_cons_zero, List.set_cons_succ]
        refine any_take later_goes 10 ?_ ?_ (by simp only [List.getElem?_toArray, List.getElem?_cons_succ, List.getElem?_cons_zero]; exact rfl) (by kernel_rfl) (by kernel_rfl) (by kernel_rfl) (fun _ _ _ _ _ h => h) (by rfl) ?_ ?_
        rotate_left
        · intro wl hL
          have wa : 0 ≤ (k : Int) + T.size := by omega
          have wb : ((k : Int) + T.size).toNat = k + T.size := by omega
          have wc := IntWalk.i64_in ((k : Int) + T.size) ⟨by omega, by omega⟩
          go_simp
          try with_reducible rfl
        try simp only [Act.put, List.setIfInBounds_toArray, List.set_cons_zero, List.set_cons_succ]
        refine any_take later_goes 11 ?_ ?_ (by simp only [List.getElem?_toArray, List.getElem?_cons_succ, List.getElem?_cons_zero]; exact rfl) (by kernel_rfl) (by kernel_rfl) (by kernel_rfl) (fun _ _ _ _ _ h => h) (by rfl) ?_ ?_
        rotate_left
        · intro wl hL
          have wa : 0 ≤ (k : Int) + T.size := by omega
          have wb : ((k : Int) + T.size).toNat = k + T.size := by omega
          have wc := IntWalk.i64_in ((k : Int) + T.size) ⟨by omega, by omega⟩
          go_simp
          try with_reducible rfl
        try simp only [Act.put, List.setIfInBounds_toArray, List.set_cons_zero, List.set_cons_succ]
        refine any_done (by kernel_rfl) ?_ _
        go_wp2_with fail
        go_ret3
        refine ⟨?_, hB0⟩
        rw [HC.out, ← HSL.out]
        have e1 : S.extract 0 k = ⟨(S.data.toList.take k).toArray⟩ := by rw [extract_mk]; simp
        have e2 : S.extract (k + T.size) S.size = ⟨(S.data.toList.drop (k + sep.length)).toArray⟩ := by
          rw [extract_mk, HTZ.out, List.take_of_length_le (by rw [List.length_drop, len_list]; omega)]
        show Ending.returned (.tuple #[.string _, .string _, .bool true]) = _
        rw [← e1, ← e2]
        try rfl
      · have hof : Lib.occAt s sep k = false := by simpa using ho
        have q : ((S.extract k (k + T.size)).toList == T.toList) = false := by
          rw [hext, ByteArray.toList_eq, HTL.out, ← hocc, hof]
        have HO := Lib.hid hof
        clear hext hocc hof ho
        go_wp2_with fail
        go_round
        case rel => exact ⟨k + 1, by omega, by go_num, ⟨hno.out.succ HO.out⟩⟩
        case measure => simp [intOf]; omega
    · have hli : ¬ (k : Int) + T.size ≤ S.size := by omega
      go_wp2_with fail
      go_ret3
      refine ⟨?_, Below.refl _ _⟩
      have hcut : Lib.cut s sep = (s, [], false) := by
        unfold Lib.cut
        rw [Lib.index_past (by intro e; have := HTZ.out; rw [e] at this; simp at this; omega) hno.out (by rw [HSZ.out, HTZ.out]; omega), if_neg (by omega)]
      rw [hcut, ← HSL.out]
      rfl
end Go.Proofs.YtjjgjadfnongfaaGreatDoor
