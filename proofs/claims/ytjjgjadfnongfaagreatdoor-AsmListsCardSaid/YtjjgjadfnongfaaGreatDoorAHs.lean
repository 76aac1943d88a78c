import Derived.Test.YtjjgjadfnongfaaGreatDoorAHsS
import Derived.Test.YtjjgjadfnongfaaGreatDoorARef3
import Derived.BigQuiet
set_option linter.unusedVariables false
set_option linter.unusedSimpArgs false
namespace Go.Proofs.YtjjgjadfnongfaaGreatDoor
open Go.RowKit
/-! The reference's hash. -/
def AtHash (s : List UInt8) (w : World) (e : Ending) (w' : World) : Prop := ∃ (v : Int) (ok : Bool), e = .returned (.tuple #[.int .u32 v, .bool ok]) ∧ (ok = true → Lib.hasPrefix s [35] = true ∧ ∃ n : Nat, v = n ∧ hashS s = some n) ∧ (ok = false → Lib.hasPrefix s [35] = true → hashS s = none) ∧ Below w.heap.size w w'
theorem hash_no {s : List UInt8} {w w' : World} (h : Lib.hasPrefix s [35] = true → hashS s = none) (hb : Below w.heap.size w w') : AtHash s w (.returned (.tuple #[.int .u32 0, .bool false])) w' := ⟨0, false, rfl, (fun h => nomatch h), (fun _ => h), hb⟩
def dV (c : UInt8) (k : Nat) : Int := if posH c < k then (posH c : Int) else -1
theorem dV_step (c : UInt8) (k : Nat) (h : posH c = k) : dV c (k + 1) = k := by unfold dV; rw [if_pos (by omega), h]
theorem dV_stay (c : UInt8) (k : Nat) (h : posH c ≠ k) : dV c (k + 1) = dV c k := by
  unfold dV
  by_cases h2 : posH c < k
  · rw [if_pos (by omega), if_pos h2]
  · rw [if_neg (by omega), if_neg h2]
set_option maxHeartbeats 4000000 in
set_option maxRecDepth 100000 in
theorem r_hash (S : ByteArray) (w : World) (hs : S.size ≤ 1000000) : Calls Tryz.prog 26 #[.string S] w (AtHash S.data.toList w) := by
  go_enter Tryz.func26, Tryz.ntmps26
  by_cases h9 : S.size = 9
  · have h9i : (S.size : Int) = 9 := by omega
    have h0 : 0 < S.size := by omega
    have hcons : S.data.toList = S[0] :: S.data.toList.drop 1 := drop_cons S 0 h0
    by_cases h35 : S[0] = 35
    · have h35i : ((S[0]'h0).toNat : Int) = 35 := by rw [h35]; rfl
      have h35b : ((((S[0]'h0).toNat : Int)) == 35) = true := by rw [h35i]; rfl
      have hcs : S.data.toList = 35 :: S.data.toList.drop 1 := by rw [← h35]; exact hcons
      have htl : (S.data.toList.drop 1).length = 8 := by rw [List.length_drop, len_list, h9]
      have HCS := Lib.hid hcs
      have HTL := Lib.hid htl
      have H9 := Lib.hid h9
      clear hcs htl hcons h9
      go_wp2_with fail
      clear h9i
      go_loopw [4, 5] (fun wv iv wr => ∃ (i W : Nat), 1 ≤ i ∧ i ≤ 9 ∧ iv = .int .i64 i ∧ wv = .int .u32 W ∧ Hid (W < 16 ^ (i - 1)) ∧ Hid (vH (S.data.toList.drop 1) 0 = vH (S.data.toList.drop i) W) ∧ Aside (Below w.heap.size w wr)) (fun _ iv _ => 9 - (intOf iv).toNat)
      case atStart => exact ⟨1, 0, by omega, by omega, rfl, rfl, by simp [Hid], rfl, ⟨Below.refl _ _⟩⟩
      case round =>
        obtain ⟨i, W, hi1, hi9, rfl, rfl, HW, HV, HB⟩ := hrel
        by_cases hi : i < 9
        · have hid : decide ((i : Int) < 9) = true := decide_eq_true (by omega)
          have hiS : i < S.size := by rw [H9.out]; exact hi
          have hiSi : (i : Int) < S.size := by omega
          have hWb : (W : Int) ≤ 268435455 := by
            have h1 := HW.out
            have h2 : 16 ^ (i - 1) ≤ 16 ^ 7 := Nat.pow_le_pow_right (by omega) (by omega)
            omega
          obtain ⟨c, hc⟩ : ∃ c, S[i]'hiS = c := ⟨_, rfl⟩
          have HC := Lib.hid hc
          have hdc : S.data.toList.drop i = c :: S.data.toList.drop (i + 1) := by rw [← hc]; exact drop_cons S i hiS
          have HDC := Lib.hid hdc
          clear hc hdc
          go_wp2_with fail
          go_loopw [6, 7] (fun dv kv wi => ∃ (k : Nat) (d : Int), k ≤ 16 ∧ kv = .int .i64 k ∧ dv = .int .i64 d ∧ Hid (d = dV c k) ∧ Aside (Below w.heap.size w wi)) (fun _ kv _ => 16 - (intOf kv).toNat)
          case atStart => exact ⟨0, -1, by omega, rfl, rfl, rfl, HB⟩
          case round =>
            obtain ⟨k, d, hk, rfl, rfl, HD, HBi⟩ := hrel
            by_cases hlt : k < 16
            · have hki : (k : Int) < 16 := by omega
              have hb : (⟨#[48, 49, 50, 51, 52, 53, 54, 55, 56, 57, 97, 98, 99, 100, 101, 102]⟩ : ByteArray)[k]'hlt = digL k := digBl k hlt hlt
              have hcc := HC.out
              by_cases hp : posH c = k
              · have hq : ((((⟨#[48, 49, 50, 51, 52, 53, 54, 55, 56, 57, 97, 98, 99, 100, 101, 102]⟩ : ByteArray)[k]'hlt).toNat : Int) == ((S[i]'hiS).toNat : Int)) = true := by
                  rw [hb, hcc, (dig_iff c k hlt).2 hp]; simp
                have HP := Lib.hid hp
                clear hb hcc hp
                go_wp2_with fail
                go_quiet (fail)
                go_wp2_with fail
                refine ⟨⟨k + 1, k, by omega, by go_num, rfl, (dV_step c k HP.out).symm, ⟨bthen HBi.out (bdrew _ _ _)⟩⟩, by simp [intOf]; omega⟩
              · have hq : ((((⟨#[48, 49, 50, 51, 52, 53, 54, 55, 56, 57, 97, 98, 99, 100, 101, 102]⟩ : ByteArray)[k]'hlt).toNat : Int) == ((S[i]'hiS).toNat : Int)) = false := by
                  rw [hb, hcc]
                  apply beq_false_of_ne
                  intro e
                  exact hp ((dig_iff c k hlt).1 (UInt8.toNat.inj (by omega)))
                have HP := Lib.hid hp
                clear hb hcc hp
                go_wp2_with fail
                go_quiet (fail)
                go_wp2_with fail
                refine ⟨⟨k + 1, d, by omega, by go_num, rfl, HD.out.trans (dV_stay c k HP.out).symm, ⟨bthen HBi.out (bdrew _ _ _)⟩⟩, by simp [intOf]; omega⟩
            · have hk16 : k = 16 := by omega
              subst hk16
              have hd := HD.out
              have hpl := (pos_of c).2
              by_cases hp : posH c < 16
              · have hde : d = (posH c : Nat) := by rw [hd]; unfold dV; rw [if_pos hp]
                have hd0 : 0 ≤ d := by omega
                have hd1 : d < 16 := by omega
                have hstep : vH (S.data.toList.drop 1) 0 = vH (S.data.toList.drop (i + 1)) (W * 16 + posH c) := by
                  rw [HV.out, HDC.out]; simp only [vH]; rw [if_pos hp]
                have hW2 : W * 16 + posH c < 16 ^ (i + 1 - 1) := by
                  have e : 16 ^ (i + 1 - 1) = 16 ^ (i - 1) * 16 := by rw [show i + 1 - 1 = i - 1 + 1 by omega, Nat.pow_succ]
                  have := HW.out
                  rw [e]; omega
                have HST := Lib.hid hstep
                have HW2 := Lib.hid hW2
                have HDE := Lib.hid hde
                clear hd hpl hp hde hstep hW2
                go_wp2_with fail
                refine ⟨⟨i + 1, W * 16 + posH c, by omega, by omega, by go_num, ?_, HW2, HST, HBi⟩, by simp [intOf]; omega⟩
                rw [HDE.out]
                congr 1
              · have hde : d = -1 := by rw [hd]; unfold dV; rw [if_neg hp]
                have hnone : vH (S.data.toList.drop 1) 0 = none := by
                  rw [HV.out, HDC.out]; simp only [vH]; rw [if_neg hp]
                have HNO := Lib.hid hnone
                subst hde
                clear hd hpl hp hnone
                go_wp2_with fail
                go_ret2
                exact hash_no (fun _ => by rw [HCS.out]; exact hash_none HTL.out HNO.out) HBi.out
        · have hi9e : i = 9 := by omega
          subst hi9e
          have hid : decide (((9 : Nat) : Int) < 9) = false := by decide
          have hWv := HV.out
          rw [List.drop_of_length_le (i := 9) (by rw [len_list, H9.out]; omega)] at hWv
          have hWs : vH (S.data.toList.drop 1) 0 = some W := hWv
          have hWb : (W : Int) ≤ 4294967295 := by
            have h1 := HW.out
            have h2 : (16 : Nat) ^ (9 - 1) = 4294967296 := by decide
            omega
          have HWS := Lib.hid hWs
          have HWb := Lib.hid hWb
          clear hWv hWs hWb
          go_wp2_with fail
          refine (rr_Decode (W : Int) _ (by omega) HWb.out).mono ?_
          rintro e w3 ⟨rfl, hB3⟩
          have HB3 := Aside.mk (bthen HB.out hB3)
          clear hB3
          rcases decW_cases (W : Int) with ⟨hg, hd, -⟩ | ⟨hg, hd, -⟩
          · rw [hd]
            have hh : hashS (35 :: S.data.toList.drop 1) = none := by rw [hash_some HTL.out HWS.out, if_neg (by rw [hg]; decide)]
            have HH := Lib.hid hh
            clear hg hd hh
            generalize insOf (W : Int) = I
            obtain ⟨f, u, uv, a, b, c, op, im⟩ := I
            simp only [insV_eq]
            go_wp2_with fail
            go_ret2
            exact ⟨_, _, rfl, (fun h => nomatch h), (fun _ _ => by rw [HCS.out]; exact HH.out), bthen HB3.out (ablow _ _)⟩
          · rw [hd]
            have hh : hashS (35 :: S.data.toList.drop 1) = some W := by rw [hash_some HTL.out HWS.out, if_pos hg]
            have HH := Lib.hid hh
            clear hg hd hh
            simp only [zeroI, insV_eq]
            go_wp2_with fail
            go_ret2
            exact ⟨_, _, rfl, (fun _ => ⟨by rw [HCS.out]; rfl, W, rfl, by rw [HCS.out]; exact HH.out⟩), (fun h => nomatch h), bthen HB3.out (ablow _ _)⟩
    · have h35b : ((((S[0]'h0).toNat : Int)) == 35) = false := by
        apply beq_false_of_ne
        intro e
        exact h35 (UInt8.toNat.inj (by simpa using (by omega : (S[0]'h0).toNat = 35)))
      have hnp : ¬ Lib.hasPrefix S.data.toList [35] = true := by
        rw [hcons]
        simp [Lib.hasPrefix, List.isPrefixOf]
        exact fun e => h35 e.symm
      have HNP := Lib.hid hnp
      clear hcons hnp
      go_wp2_with fail
      go_ret2
      exact hash_no (fun h => absurd h HNP.out) (Below.refl _ _)
  · have h9i : ¬ ((S.size : Int) = 9) := by omega
    have hnone := hash_len (s := S.data.toList) (by rw [len_list]; exact h9)
    have HNO := Lib.hid hnone
    clear hnone
    go_wp2_with fail
    go_ret2
    exact hash_no (fun _ => HNO.out) (Below.refl _ _)
end Go.Proofs.YtjjgjadfnongfaaGreatDoor
