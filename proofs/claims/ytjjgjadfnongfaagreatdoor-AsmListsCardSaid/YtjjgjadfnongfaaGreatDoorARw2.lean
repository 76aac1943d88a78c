import Derived.Test.YtjjgjadfnongfaaGreatDoorARw1
set_option linter.unusedVariables false
set_option linter.unusedSimpArgs false
namespace Go.Proofs.YtjjgjadfnongfaaGreatDoor
open Go.RowKit Go.Maps Go.MapKept
theorem valD_range : ∀ (l : List UInt8), l.all isDig = true → 0 ≤ valD l ∧ valD l < (10 ^ l.length : Nat) := by
  have key : ∀ (n : Nat) (l : List UInt8), l.length = n → l.all isDig = true → 0 ≤ valD l ∧ valD l < (10 ^ l.length : Nat) := by
    intro n
    induction n with
    | zero => intro l hl _; rw [List.eq_nil_of_length_eq_zero hl]; simp [valD]
    | succ n ih =>
      intro l hl h
      rcases List.eq_nil_or_concat l with rfl | ⟨l', c, rfl⟩
      · cases hl
      · rw [List.concat_eq_append] at hl h ⊢
        rw [List.length_append, List.length_cons, List.length_nil] at hl
        rw [List.all_append, Bool.and_eq_true] at h
        obtain ⟨h1, h2⟩ := ih l' (by omega) h.1
        have hc : isDig c = true := by simpa using h.2
        simp only [isDig, Bool.and_eq_true, decide_eq_true_eq] at hc
        rw [valD_snoc, List.length_append, List.length_cons, List.length_nil, Nat.zero_add, Nat.pow_succ]
        omega
  exact fun l => key l.length l rfl
theorem pow_le9 {k : Nat} (h : k ≤ 8) : (10 ^ k : Nat) ≤ 100000000 := by
  have := Nat.pow_le_pow_right (n := 10) (by omega) h
  exact this
theorem all_take {l : List UInt8} {k : Nat} (h : k < l.length) (h1 : (l.take k).all isDig = true) (h2 : isDig l[k] = true) : (l.take (k + 1)).all isDig = true := by
  rw [List.take_add_one, List.all_append, h1, List.getElem?_eq_getElem h]
  simp [h2]
theorem all_not {l : List UInt8} {k : Nat} (h : k < l.length) (h2 : isDig l[k] = false) : l.all isDig = false := by
  rw [Bool.eq_false_iff]
  intro ha
  have := List.all_eq_true.1 ha l[k] (List.getElem_mem h)
  rw [h2] at this; cases this
def AtNum (p : Int × Bool) (w : World) (e : Ending) (w' : World) : Prop := e = .returned (.tuple #[.int .i64 p.1, .bool p.2]) ∧ Below w.heap.size w w'
theorem r_number_nil (w : World) : Calls Tryz.prog 20 #[.string ⟨#[]⟩] w (AtNum (numV []) w) := by
  go_enter Tryz.func20, Tryz.ntmps20
  go_wp2_with fail
  go_ret2
  exact ⟨rfl, Below.refl _ _⟩
set_option maxRecDepth 100000 in
set_option maxHeartbeats 4000000 in
theorem r_number_neg (s : List UInt8) (w : World) (hs : s.length ≤ 1000000000) (hpos : 1 ≤ s.length) (hh : s.head? = some 45) : Calls Tryz.prog 20 #[.string ⟨s.toArray⟩] w (AtNum (numV s) w) := by
  obtain ⟨S, hS⟩ : ∃ S : ByteArray, (⟨s.toArray⟩ : ByteArray) = S := ⟨_, rfl⟩
  have hSl : S.data.toList = s := by rw [← hS]
  have hz0 : S.size = s.length := by rw [← hS, size_mk]
  have hz : 0 < S.size := by omega
  have hzm : S.size ≤ 1000000000 := by omega
  have hb : s.head? = some S[0] := by
    rw [List.head?_eq_getElem?, ← hSl, List.getElem?_eq_getElem (by rw [len_list]; exact hz)]
    rfl
  have h45 : ((S[0].toNat : Nat) : Int) = 45 := by
    rw [hh] at hb
    have := Option.some.inj hb
    rw [← this]; rfl
  have q45 : (((S[0].toNat : Nat) : Int) == 45) = true := by rw [h45]; rfl
  obtain ⟨T, hT⟩ : ∃ T : ByteArray, S.extract 1 S.size = T := ⟨_, rfl⟩
  obtain ⟨t, ht⟩ : ∃ t, s.drop 1 = t := ⟨_, rfl⟩
  have hTl : T.data.toList = t := by
    rw [← hT, extract_list, hSl, ← ht, List.take_of_length_le (by rw [List.length_drop]; omega)]
  have htz : s.length - 1 = t.length := by rw [← ht, List.length_drop]
  have hnv : numV s = (if t.length < 1 ∨ 9 < t.length ∨ t.all isDig = false then (0, false) else (-valD t, decide (Lib.itoa (-valD t) = s))) := by
    unfold numV; rw [if_pos hh, ht, htz]
  have hTz : T.size = t.length := by rw [← hTl, len_list]
  clear h45 htz
  rw [hS]
  have HNV := Lib.hid hnv
  have HSL := Lib.hid hSl
  have HTL := Lib.hid hTl
  have HTZ := Lib.hid hTz
  clear hnv hSl hTl hTz hh hb hS ht hz0
  by_cases hlen : T.size < 1 ∨ 9 < T.size
  · have hnv : numV s = (0, false) := by rw [HNV.out, ← HTZ.out, if_pos (by rcases hlen with h | h; exact .inl h; exact .inr (.inl h))]
    have HN := Lib.hid hnv
    clear hnv
    rcases hlen with hl | hl
    skip
    all_goals
      have hl' : T.size < 1 ∨ 9 < T.size := by omega
      go_enter Tryz.func20, Tryz.ntmps20
      go_wp2_with fail
      go_ret2
      exact ⟨by rw [HN.out]; rfl, Below.refl _ _⟩
  · have hl1 : ¬ T.size < 1 := by omega
    have hl2 : ¬ 9 < T.size := by omega
    clear hlen
    go_enter Tryz.func20, Tryz.ntmps20
    go_wp2_with fail
    go_loop [6, 7] (fun n i => ∃ (k : Nat) (v : Int), k ≤ T.size ∧ i = .int .i64 k ∧ n = .int .i64 v ∧ Aside (v = valD (t.take k)) ∧ Aside ((t.take k).all isDig = true)) (fun _ i => T.size - (intOf i).toNat)
    case atStart => exact ⟨0, 0, by omega, rfl, rfl, ⟨rfl⟩, ⟨by simp⟩⟩
    case round =>
      obtain ⟨k, v, hk, rfl, rfl, hv, hall⟩ := hrel
      by_cases hlt : k < T.size
      · have hkl : k < t.length := by rw [← HTZ.out]; exact hlt
        have hr := valD_range _ hall.out
        have hp := pow_le9 (k := k) (by omega)
        rw [← hv.out, List.length_take, Nat.min_eq_left (by omega)] at hr
        have hv0 : 0 ≤ v := hr.1
        have hv1 : v ≤ 100000000 := by omega
        have hki : (k : Int) < T.size := by omega
        have hge : t[k] = T[k] := by
          have : t[k]? = some T[k] := by rw [← HTL.out, List.getElem?_eq_getElem (by rw [len_list]; exact hlt)]; rfl
          rw [List.getElem?_eq_getElem hkl] at this
          exact Option.some.inj this
        have hc256 : ((T[k].toNat : Nat) : Int) < 256 := by have := UInt8.toNat_lt T[k]; omega
        by_cases hd : isDig T[k] = true
        · have hd2 := hd
          simp only [isDig, Bool.and_eq_true, decide_eq_true_eq] at hd2
          have hd3 : (48 : Int) ≤ ((T[k].toNat : Nat) : Int) := by omega
          have hd4 : ((T[k].toNat : Nat) : Int) ≤ 57 := by omega
          have HGE := Lib.hid hge
          have HD := Lib.hid hd
          clear hr hp hd2 hge hd
          go_wp2_with fail
          go_round
          case rel =>
            refine ⟨k + 1, 10 * v + (((T[k].toNat : Nat) : Int) - 48), by omega, by go_num, rfl, ⟨?_⟩, ⟨all_take hkl hall.out (by rw [HGE.out]; exact HD.out)⟩⟩
            rw [List.take_add_one, List.getElem?_eq_getElem hkl]
            show _ = valD (t.take k ++ [t[k]])
            rw [valD_snoc, ← hv.out, HGE.out]
          case measure => simp [intOf]; omega
        · have hd0 : isDig T[k] = false := by simpa using hd
          have hnv : numV s = (0, false) := by
            rw [HNV.out, if_pos (.inr (.inr (all_not hkl (by rw [hge]; exact hd0))))]
          have HN := Lib.hid hnv
          have hd2 : ((T[k].toNat : Nat) : Int) < 48 ∨ 57 < ((T[k].toNat : Nat) : Int) := by
            simp only [isDig, Bool.and_eq_true, decide_eq_true_eq] at hd
            omega
          clear hnv hd hd0 hge hr hp
          rcases hd2 with hd2 | hd2
          all_goals
            go_wp2_with fail
            go_ret2
            exact ⟨by rw [HN.out]; rfl, Below.refl _ _⟩
      · have hkn : k = T.size := by omega
        have hall' : t.all isDig = true := by
          have := hall.out
          rwa [hkn, HTZ.out, List.take_of_length_le (Nat.le_refl _)] at this
        have hv' : v = valD t := by
          have := hv.out
          rwa [hkn, HTZ.out, List.take_of_length_le (Nat.le_refl _)] at this
        have hr := valD_range _ hall'
        have hp : (10 ^ t.length : Nat) ≤ 1000000000 := by
          have := Nat.pow_le_pow_right (n := 10) (i := t.length) (j := 9) (by omega) (by rw [← HTZ.out]; omega)
          exact this
        rw [← hv'] at hr
        have hv0 : 0 ≤ v := hr.1
        have hv1 : v ≤ 1000000000 := by omega
        have hnv : numV s = (-v, decide (Lib.itoa (-v) = s)) := by
          rw [HNV.out, if_neg (by rw [hall', ← HTZ.out]; rintro (h | h | h) <;> first | omega | cases h), hv']
        have HN := Lib.hid hnv
        clear hnv hr hp hv' hall' hkn
        go_wp2_with fail
        refine (a_Dec _ _ (by omega) (by omega)).mono ?_
        rintro e w1 ⟨rfl, hB⟩
        obtain ⟨D, hD⟩ : ∃ D : ByteArray, (⟨(Lib.itoa (-v)).toArray⟩ : ByteArray) = D := ⟨_, rfl⟩
        rw [hD]
        have hDl : D.data.toList = Lib.itoa (-v) := by rw [← hD]
        have q : (D.toList == S.toList) = decide (Lib.itoa (-v) = s) := by
          rw [ByteArray.toList_eq, ByteArray.toList_eq, HSL.out, hDl, Bool.eq_iff_iff]; simp
        have Q := Lib.hid q
        clear q hD hDl
        go_wp2_with fail
        go_ret2
        refine ⟨?_, hB⟩
        rw [HN.out, ← Q.out]
        rfl
set_option maxRecDepth 100000 in
set_option maxHeartbeats 4000000 in
theorem r_number_pos (s : List UInt8) (w : World) (hs : s.length ≤ 1000000000) (hpos : 1 ≤ s.length) (hh : ¬ s.head? = some 45) : Calls Tryz.prog 20 #[.string ⟨s.toArray⟩] w (AtNum (numV s) w) := by
  obtain ⟨S, hS⟩ : ∃ S : ByteArray, (⟨s.toArray⟩ : ByteArray) = S := ⟨_, rfl⟩
  have hSl : S.data.toList = s := by rw [← hS]
  have hz0 : S.size = s.length := by rw [← hS, size_mk]
  have hz : 0 < S.size := by omega
  have hzm : S.size ≤ 1000000000 := by omega
  have hb : s.head? = some S[0] := by
    rw [List.head?_eq_getElem?, ← hSl, List.getElem?_eq_getElem (by rw [len_list]; exact hz)]
    rfl
  have h45 : ¬ ((S[0].toNat : Nat) : Int) = 45 := by
    intro e
    refine hh ?_
    rw [hb]
    congr 1
    apply UInt8.toNat_inj.1
    exact Int.ofNat.inj e
  have q45 : (((S[0].toNat : Nat) : Int) == 45) = false := by simpa using h45
  obtain ⟨T, hT⟩ : ∃ T : ByteArray, S = T := ⟨_, rfl⟩
  obtain ⟨t, ht⟩ : ∃ t, s = t := ⟨_, rfl⟩
  have hTl : T.data.toList = t := by rw [← hT, hSl, ht]
  have hnv : numV s = (if t.length < 1 ∨ 9 < t.length ∨ t.all isDig = false then (0, false) else (valD t, decide (Lib.itoa (valD t) = s))) := by
    unfold numV; rw [if_neg hh, ht]
  have hTz : T.size = t.length := by rw [← hTl, len_list]
  subst hT
  clear h45
  rw [hS]
  have HNV := Lib.hid hnv
  have HSL := Lib.hid hSl
  have HTL := Lib.hid hTl
  have HTZ := Lib.hid hTz
  clear hnv hSl hTl hTz hh hb hS ht hz0
  by_cases hlen : S.size < 1 ∨ 9 < S.size
  · have hnv : numV s = (0, false) := by rw [HNV.out, ← HTZ.out, if_pos (by rcases hlen with h | h; exact .inl h; exact .inr (.inl h))]
    have HN := Lib.hid hnv
    clear hnv
    rcases hlen with hl | hl
    · omega
    all_goals
      have hl' : S.size < 1 ∨ 9 < S.size := by omega
      go_enter Tryz.func20, Tryz.ntmps20
      go_wp2_with fail
      go_ret2
      exact ⟨by rw [HN.out]; rfl, Below.refl _ _⟩
  · have hl1 : ¬ S.size < 1 := by omega
    have hl2 : ¬ 9 < S.size := by omega
    clear hlen
    go_enter Tryz.func20, Tryz.ntmps20
    go_wp2_with fail
    go_loop [6, 7] (fun n i => ∃ (k : Nat) (v : Int), k ≤ S.size ∧ i = .int .i64 k ∧ n = .int .i64 v ∧ Aside (v = valD (t.take k)) ∧ Aside ((t.take k).all isDig = true)) (fun _ i => S.size - (intOf i).toNat)
    case atStart => exact ⟨0, 0, by omega, rfl, rfl, ⟨rfl⟩, ⟨by simp⟩⟩
    case round =>
      obtain ⟨k, v, hk, rfl, rfl, hv, hall⟩ := hrel
      by_cases hlt : k < S.size
      · have hkl : k < t.length := by rw [← HTZ.out]; exact hlt
        have hr := valD_range _ hall.out
        have hp := pow_le9 (k := k) (by omega)
        rw [← hv.out, List.length_take, Nat.min_eq_left (by omega)] at hr
        have hv0 : 0 ≤ v := hr.1
        have hv1 : v ≤ 100000000 := by omega
        have hki : (k : Int) < S.size := by omega
        have hge : t[k] = S[k] := by
          have : t[k]? = some S[k] := by rw [← HTL.out, List.getElem?_eq_getElem (by rw [len_list]; exact hlt)]; rfl
          rw [List.getElem?_eq_getElem hkl] at this
          exact Option.some.inj this
        have hc256 : ((S[k].toNat : Nat) : Int) < 256 := by have := UInt8.toNat_lt S[k]; omega
        by_cases hd : isDig S[k] = true
        · have hd2 := hd
          simp only [isDig, Bool.and_eq_true, decide_eq_true_eq] at hd2
          have hd3 : (48 : Int) ≤ ((S[k].toNat : Nat) : Int) := by omega
          have hd4 : ((S[k].toNat : Nat) : Int) ≤ 57 := by omega
          have HGE := Lib.hid hge
          have HD := Lib.hid hd
          clear hr hp hd2 hge hd
          go_wp2_with fail
          go_round
          case rel =>
            refine ⟨k + 1, 10 * v + (((S[k].toNat : Nat) : Int) - 48), by omega, by go_num, rfl, ⟨?_⟩, ⟨all_take hkl hall.out (by rw [HGE.out]; exact HD.out)⟩⟩
            rw [List.take_add_one, List.getElem?_eq_getElem hkl]
            show _ = valD (t.take k ++ [t[k]])
            rw [valD_snoc, ← hv.out, HGE.out]
          case measure => simp [intOf]; omega
        · have hd0 : isDig S[k] = false := by simpa using hd
          have hnv : numV s = (0, false) := by
            rw [HNV.out, if_pos (.inr (.inr (all_not hkl (by rw [hge]; exact hd0))))]
          have HN := Lib.hid hnv
          have hd2 : ((S[k].toNat : Nat) : Int) < 48 ∨ 57 < ((S[k].toNat : Nat) : Int) := by
            simp only [isDig, Bool.and_eq_true, decide_eq_true_eq] at hd
            omega
          clear hnv hd hd0 hge hr hp
          rcases hd2 with hd2 | hd2
          all_goals
            go_wp2_with fail
            go_ret2
            exact ⟨by rw [HN.out]; rfl, Below.refl _ _⟩
      · have hkn : k = S.size := by omega
        have hall' : t.all isDig = true := by
          have := hall.out
          rwa [hkn, HTZ.out, List.take_of_length_le (Nat.le_refl _)] at this
        have hv' : v = valD t := by
          have := hv.out
          rwa [hkn, HTZ.out, List.take_of_length_le (Nat.le_refl _)] at this
        have hr := valD_range _ hall'
        have hp : (10 ^ t.length : Nat) ≤ 1000000000 := by
          have := Nat.pow_le_pow_right (n := 10) (i := t.length) (j := 9) (by omega) (by rw [← HTZ.out]; omega)
          exact this
        rw [← hv'] at hr
        have hv0 : 0 ≤ v := hr.1
        have hv1 : v ≤ 1000000000 := by omega
        have hnv : numV s = (v, decide (Lib.itoa (v) = s)) := by
          rw [HNV.out, if_neg (by rw [hall', ← HTZ.out]; rintro (h | h | h) <;> first | omega | cases h), hv']
        have HN := Lib.hid hnv
        clear hnv hr hp hv' hall' hkn
        go_wp2_with fail
        refine (a_Dec _ _ (by omega) (by omega)).mono ?_
        rintro e w1 ⟨rfl, hB⟩
        obtain ⟨D, hD⟩ : ∃ D : ByteArray, (⟨(Lib.itoa (v)).toArray⟩ : ByteArray) = D := ⟨_, rfl⟩
        rw [hD]
        have hDl : D.data.toList = Lib.itoa (v) := by rw [← hD]
        have q : (D.toList == S.toList) = decide (Lib.itoa (v) = s) := by
          rw [ByteArray.toList_eq, ByteArray.toList_eq, HSL.out, hDl, Bool.eq_iff_iff]; simp
        have Q := Lib.hid q
        clear q hD hDl
        go_wp2_with fail
        go_ret2
        refine ⟨?_, hB⟩
        rw [HN.out, ← Q.out]
        rfl
theorem r_number (s : List UInt8) (w : World) (hs : s.length ≤ 1000000000) : Calls Tryz.prog 20 #[.string ⟨s.toArray⟩] w (AtNum (numV s) w) := by
  cases s with
  | nil => exact r_number_nil w
  | cons c r =>
    by_cases h : (c :: r).head? = some 45
    · exact r_number_neg _ w hs (by simp) h
    · exact r_number_pos _ w hs (by simp) h
end Go.Proofs.YtjjgjadfnongfaaGreatDoor
