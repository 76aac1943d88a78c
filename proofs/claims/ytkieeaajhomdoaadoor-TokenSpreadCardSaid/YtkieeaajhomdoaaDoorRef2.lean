import Derived.Test.YtkieeaajhomdoaaDoorRef1
set_option linter.unusedVariables false
set_option linter.unusedSimpArgs false
namespace Go.Proofs.YtkieeaajhomdoaaDoor
open Go.RowKit Go.Maps Go.MapKept
def cmtEnd (l : List UInt8) (k : Nat) : Int := match cmt (l.drop k) 0 with | some n => ((k + n : Nat) : Int) | none => -1
set_option maxRecDepth 100000 in
set_option maxHeartbeats 800000 in
theorem r_comment (s : ByteArray) (k0 : Nat) (w : World) (hs : s.size ≤ 140737488351232) (hk0 : k0 ≤ s.size) :
    Calls Tryd.prog 46 #[.string s, .int .i64 k0] w (Is (.int .i64 (cmtEnd s.data.toList k0)) w) := by
  obtain ⟨r, hr⟩ : ∃ r, cmtEnd s.data.toList k0 = r := ⟨_, rfl⟩
  rw [hr]
  have HR := Lib.hid hr
  clear hr
  go_enter Tryd.func46, Tryd.ntmps46
  go_wp2
  go_loop [1, 5] (fun i o => ∃ k : Nat, ∃ d : Int, k0 ≤ k ∧ k ≤ s.size ∧ i = .int .i64 k ∧ o = .int .i64 d ∧ -(k:Int) ≤ d ∧ d ≤ (k:Int) ∧ Hid (cmt (s.data.toList.drop k0) 0 = (cmt (s.data.toList.drop k) d).map (k - k0 + ·))) (fun i _ => s.size - (intOf i).toNat)
  case atStart => exact ⟨k0, 0, Nat.le_refl _, hk0, rfl, rfl, by omega, by omega, by simp [Hid]⟩
  case round =>
    obtain ⟨k, d, hk1, hk, rfl, rfl, hd1, hd2, HT⟩ := hrel
    by_cases hlt : k + 1 < s.size
    · have HC := Lib.hid (cmt_at s k hlt d)
      have T1 := Lib.hid (two_beq s k hlt 40 42)
      have T2 := Lib.hid (two_beq s k hlt 42 41)
      go_wp2
      · rename_i h1
        rw [T1.out] at h1
        have h1 := of_decide_eq_true h1
        go_round
        case rel =>
          refine ⟨k + 2, d + 1, by omega, by omega, by go_num, rfl, by omega, by omega, ?_⟩
          show _ = _
          rw [HT.out, HC.out, if_pos h1, map_add, show k - k0 + 2 = k + 2 - k0 from by omega]
        case measure => simp [intOf]; omega
      · have h1 : ((s.extract k (k + 2)).toList == [40, 42]) = false := by assumption
        have h2 : ((s.extract k (k + 2)).toList == [42, 41]) = true := by assumption
        have h3 : (d - 1 == 0) = true := by assumption
        rw [T1.out] at h1
        rw [T2.out] at h2
        have e : cmt (s.data.toList.drop k0) 0 = some (k - k0 + 2) := by
          rw [HT.out, HC.out, if_neg (of_decide_eq_false h1), if_pos (of_decide_eq_true h2), if_pos (by simpa using h3)]; rfl
        go_ret
        refine ⟨ret_int ?_, rfl⟩
        rw [← HR.out, cmtEnd, e]
        simp only
        omega
      · have h1 : ((s.extract k (k + 2)).toList == [40, 42]) = false := by assumption
        have h2 : ((s.extract k (k + 2)).toList == [42, 41]) = true := by assumption
        have h3 : (d - 1 == 0) = false := by assumption
        rw [T1.out] at h1
        rw [T2.out] at h2
        go_round
        case rel =>
          refine ⟨k + 2, d - 1, by omega, by omega, by go_num, rfl, by omega, by omega, ?_⟩
          show _ = _
          rw [HT.out, HC.out, if_neg (of_decide_eq_false h1), if_pos (of_decide_eq_true h2), if_neg (by simpa using h3), map_add, show k - k0 + 2 = k + 2 - k0 from by omega]
        case measure => simp [intOf]; omega
      · have h1 : ((s.extract k (k + 2)).toList == [40, 42]) = false := by assumption
        have h2 : ((s.extract k (k + 2)).toList == [42, 41]) = false := by assumption
        rw [T1.out] at h1
        rw [T2.out] at h2
        go_round
        case rel =>
          refine ⟨k + 1, d, by omega, by omega, by go_num, rfl, by omega, by omega, ?_⟩
          show _ = _
          rw [HT.out, HC.out, if_neg (of_decide_eq_false h1), if_neg (of_decide_eq_false h2), map_add, show k - k0 + 1 = k + 1 - k0 from by omega]
        case measure => simp [intOf]; omega
    · go_wp2
      have e : cmt (s.data.toList.drop k0) 0 = none := by
        rw [HT.out, cmt_short (by rw [List.length_drop, len_list]; omega)]; rfl
      go_ret
      refine ⟨ret_int ?_, rfl⟩
      rw [← HR.out, cmtEnd, e]
theorem prefix_in (s : ByteArray) (k : Nat) (h : k + 1 < s.size) : [40, 42].isPrefixOf (s[k] :: s.data.toList.drop (k + 1)) = ((s.extract k (k + 2)).toList == [40, 42]) := by
  rw [prefix_bool s k (by omega), two_beq s k h, List.getElem?_eq_getElem (by rw [len_list]; omega), List.getElem?_eq_getElem (by rw [len_list]; exact h), get_list s k (by omega), get_list s (k + 1) h]
  simp only [Option.some.injEq]
theorem prefix_out (s : ByteArray) (k : Nat) (h0 : k < s.size) (h : ¬ k + 1 < s.size) : [40, 42].isPrefixOf (s[k] :: s.data.toList.drop (k + 1)) = false := by
  rw [drop_nil s (k + 1) (by omega)]
  simp [List.isPrefixOf]
def AtSkip (s : ByteArray) (k : Nat) (w : World) (e : Ending) (w' : World) : Prop := ∃ (k' : Nat) (ok : Bool), e = .returned (.tuple #[.int .i64 k', .bool ok]) ∧ w' = w ∧ k ≤ k' ∧ k' ≤ s.size ∧
  (ok = true → (∀ acc R, Rest (s.data.toList.drop k) k acc R → Rest (s.data.toList.drop k') k' acc R) ∧ ∀ h : k' < s.size, isBlank s[k'] = false ∧ [40, 42].isPrefixOf (s[k'] :: s.data.toList.drop (k' + 1)) = false) ∧
  (ok = false → ∀ acc R, Rest (s.data.toList.drop k) k acc R → R = .error (k', 90))
set_option maxRecDepth 100000 in
set_option maxHeartbeats 1600000 in
theorem r_skip (s : ByteArray) (k0 : Nat) (w : World) (hs : s.size ≤ 140737488351232) (hk0 : k0 ≤ s.size) :
    Calls Tryd.prog 24 #[.string s, .int .i64 k0] w (AtSkip s k0 w) := by
  go_enter Tryd.func24, Tryd.ntmps24
  go_wp2
  go_loop [1] (fun i => ∃ k : Nat, k0 ≤ k ∧ k ≤ s.size ∧ i = .int .i64 k ∧ Hid (∀ acc R, Rest (s.data.toList.drop k0) k0 acc R → Rest (s.data.toList.drop k) k acc R)) (fun i => s.size - (intOf i).toNat)
  case atStart => exact ⟨k0, Nat.le_refl _, hk0, rfl, fun acc R h => h⟩
  case round =>
    obtain ⟨k, hk1, hk, rfl, HT⟩ := hrel
    by_cases hlt : k < s.size
    · have HDR := Lib.hid (drop_cons s k hlt)
      have hcb : ((s[k].toNat : Nat) : Int) < 256 := by have := UInt8.toNat_lt s[k]; omega
      cases hbl : isBlank s[k] with
      | true =>
        have HR2 : Hid (∀ acc R, Rest (s.data.toList.drop k0) k0 acc R → Rest (s.data.toList.drop (k + 1)) (k + 1) acc R) := fun acc R h => by
          have h1 := HT.out acc R h
          rw [HDR.out] at h1
          exact h1.blank hbl
        rw [blank_int] at hbl
        go_wp2_with fail
        all_goals go_round
        all_goals first
          | exact ⟨k + 1, by omega, by omega, by go_num, HR2⟩
          | (simp [intOf]; omega)
      | false =>
        have HBL := Lib.hid hbl
        rw [blank_int] at hbl
        simp only [Bool.or_eq_false_iff] at hbl
        obtain ⟨⟨⟨e9, e10⟩, e13⟩, e32⟩ := hbl
        by_cases hlt2 : k + 1 < s.size
        · have hlt3 : (k : Int) + 1 < s.size := by omega
          cases hp : [40, 42].isPrefixOf (s[k] :: s.data.toList.drop (k + 1)) with
          | true =>
            have hp2 : ((s.extract k (k + 2)).toList == [40, 42]) = true := by rw [← prefix_in s k hlt2]; exact hp
            have HP := Lib.hid hp
            clear hp
            go_wp2_with fail
            refine (r_comment s k _ hs hk).mono ?_
            rintro e w1 ⟨rfl, rfl⟩
            cases hc : cmt (s[k] :: s.data.toList.drop (k + 1)) 0 with
            | none =>
              have hv : cmtEnd s.data.toList k = -1 := by rw [cmtEnd, HDR.out, hc]
              have HC := Lib.hid hc
              rw [hv]
              clear hv hc
              go_wp2_with fail
              go_ret2
              refine ⟨k, false, rfl, rfl, hk1, hk, (fun h => by cases h), fun _ acc R h => ?_⟩
              have h1 := HT.out acc R h
              rw [HDR.out] at h1
              exact h1.cmtBad HBL.out HP.out HC.out
            | some n =>
              have hv : cmtEnd s.data.toList k = ((k + n : Nat) : Int) := by rw [cmtEnd, HDR.out, hc]
              have hn := cmt_bound _ _ _ hc
              rw [← HDR.out, List.length_drop, len_list] at hn
              have HR2 : Hid (∀ acc R, Rest (s.data.toList.drop k0) k0 acc R → Rest (s.data.toList.drop (k + n)) (k + n) acc R) := fun acc R h => by
                have h1 := HT.out acc R h
                rw [HDR.out] at h1
                have h2 := h1.cmtOk HBL.out HP.out hc
                rwa [← HDR.out, List.drop_drop] at h2
              rw [hv]
              clear hv hc
              go_wp2_with fail
              go_round
              case rel => exact ⟨k + n, by omega, by omega, by go_num, HR2⟩
              case measure => simp [intOf]; omega
          | false =>
            have hp2 : ((s.extract k (k + 2)).toList == [40, 42]) = false := by rw [← prefix_in s k hlt2]; exact hp
            have HP := Lib.hid hp
            clear hp
            go_wp2_with fail
            go_ret2
            exact ⟨k, true, rfl, rfl, hk1, hk, fun _ => ⟨HT.out, fun _ => ⟨HBL.out, HP.out⟩⟩, fun h => by cases h⟩
        · have hlt3 : ¬ (k : Int) + 1 < s.size := by omega
          have HP := Lib.hid (prefix_out s k hlt hlt2)
          go_wp2_with fail
          go_ret2
          exact ⟨k, true, rfl, rfl, hk1, hk, fun _ => ⟨HT.out, fun _ => ⟨HBL.out, HP.out⟩⟩, fun h => by cases h⟩
    · go_wp2_with fail
      go_ret2
      refine ⟨k, true, rfl, rfl, hk1, hk, fun _ => ⟨HT.out, fun h => absurd h hlt⟩, fun h => by cases h⟩
end Go.Proofs.YtkieeaajhomdoaaDoor
