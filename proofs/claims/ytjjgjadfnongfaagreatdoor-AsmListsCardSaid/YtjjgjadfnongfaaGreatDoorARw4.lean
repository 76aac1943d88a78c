import Derived.Test.YtjjgjadfnongfaaGreatDoorARw3
set_option linter.unusedVariables false
set_option linter.unusedSimpArgs false
namespace Go.Proofs.YtjjgjadfnongfaaGreatDoor
open Go.RowKit Go.Maps Go.MapKept
def AtWordR (s : List UInt8) (w : World) (e : Ending) (w' : World) : Prop := e = .returned (.tuple #[.int .u32 (wordOf (parseR s) s).1, .int .i64 (wordOf (parseR s) s).2]) ∧ Below w.heap.size w w'
theorem wr_none {s : List UInt8} {p : Option Ins} (h : p = none) : wordOf p s = (0, 60) := by rw [h]; rfl
theorem wr_enc {x : Ins} {a b : Int} (h : encW x = (a, b)) : 0 ≤ a ∧ a ≤ 4294967295 ∧ (b = 0 ∨ b = 20) := by
  unfold encW at h
  split at h
  · rename_i hg
    injection h with h1 h2
    obtain ⟨r1, r2⟩ := encI_range hg
    exact ⟨by omega, by omega, .inl h2.symm⟩
  · injection h with h1 h2
    exact ⟨by omega, by omega, .inr h2.symm⟩
theorem wr_line {x : Int} {a : List UInt8} {b : Int} (h : lineW x = (a, b)) : b = 0 ∨ (b = 20 ∧ a = []) := by
  unfold lineW at h
  split at h
  · injection h with h1 h2; exact .inl h2.symm
  · injection h with h1 h2; exact .inr ⟨h2.symm, h1.symm⟩
theorem wr_bad1 {x : Ins} {s : List UInt8} {ew : Int} (h : encW x = (ew, 20)) : wordOf (some x) s = (0, 60) := by
  unfold wordOf
  simp only [h]
  rw [if_neg (by simp)]
theorem wr_bad3 {x : Ins} {s ls : List UInt8} {ew le : Int} (h : encW x = (ew, 0)) (hl : lineW ew = (ls, le)) (hne : ls ≠ s) : wordOf (some x) s = (0, 60) := by
  unfold wordOf
  simp only [h, hl]
  rw [if_neg (by simp [hne])]
theorem wr_good {x : Ins} {s : List UInt8} {ew : Int} (h : encW x = (ew, 0)) (hl : lineW ew = (s, 0)) : wordOf (some x) s = (ew, 0) := by
  unfold wordOf
  simp only [h, hl]
  rw [if_pos (by simp)]
theorem inR0R : InR 0 := ⟨by omega, by omega⟩
theorem numV_range (s : List UInt8) : InR (numV s).1 := by
  have key : ∀ l : List UInt8, ¬ (l.length < 1 ∨ 9 < l.length ∨ l.all isDig = false) → 0 ≤ valD l ∧ valD l ≤ 1000000000 := by
    intro l hl
    have ha : l.all isDig = true := by
      cases h : l.all isDig with
      | true => rfl
      | false => exact absurd (.inr (.inr h)) hl
    obtain ⟨h1, h2⟩ := valD_range l ha
    have h3 : (10 ^ l.length : Nat) ≤ 1000000000 := by
      have := Nat.pow_le_pow_right (n := 10) (i := l.length) (j := 9) (by omega) (by omega)
      exact this
    exact ⟨h1, by omega⟩
  unfold numV InR
  split
  · split
    · simp
    · rename_i h
      have := key (s.drop 1) (by rw [List.length_drop]; exact h)
      simp only
      omega
  · split
    · simp
    · rename_i h
      have := key s h
      simp only
      omega
theorem parts_form {nm : List UInt8} {x : Ins} (h : partsR nm = some x) : (∃ u v o, x = ⟨0, u, v, 0, 0, 0, o, 0⟩) ∨ (∃ u v, x = ⟨2, u, v, 0, 0, 0, 0, 0⟩) ∨ ∃ v c, x = ⟨3, false, v, c, 0, 0, 0, 0⟩ := by
  unfold partsR at h
  split at h
  · injection h with h; exact .inr (.inl ⟨_, _, h.symm⟩)
  · split at h
    · split at h
      · injection h with h; exact .inr (.inr ⟨_, _, h.symm⟩)
      · cases h
    · split at h
      · injection h with h; exact .inl ⟨_, _, _, h.symm⟩
      · cases h
theorem cut_found {s NM RS : List UInt8} (h : Lib.cut s [32] = (NM, RS, true)) : s ≠ [] := by
  rintro rfl
  have : Lib.cut [] [32] = ([], [], false) := by decide
  rw [this] at h; cases h
set_option maxRecDepth 100000 in
theorem r_word_long (s : List UInt8) (w : World) (hs : s.length ≤ 140737488351232) (hl : 60 < s.length) : Calls Tryz.prog 8 #[.string ⟨s.toArray⟩] w (AtWordR s w) := by
  have hw := wr_none (s := s) (show parseR s = none by unfold parseR; rw [if_pos hl])
  obtain ⟨S, hS⟩ : ∃ S : ByteArray, (⟨s.toArray⟩ : ByteArray) = S := ⟨_, rfl⟩
  have hz : (60 : Int) < S.size := by rw [← hS, size_mk]; omega
  have hz2 : S.size ≤ 140737488351232 := by rw [← hS, size_mk]; exact hs
  rw [hS]
  have HW := Lib.hid hw
  clear hw hS
  go_enter Tryz.func8, Tryz.ntmps8
  go_wp2_with fail
  go_ret2
  exact ⟨by rw [HW.out]; rfl, Below.refl _ _⟩
set_option maxRecDepth 100000 in
theorem r_word_bad (s : List UInt8) (w : World) (hs : ¬ 60 < s.length) (NM RS : List UInt8) (ok : Bool) (hc : Lib.cut s [32] = (NM, RS, ok)) (hb : ok = false ∨ partsR NM = none) : Calls Tryz.prog 8 #[.string ⟨s.toArray⟩] w (AtWordR s w) := by
  have hw := wr_none (s := s) (show parseR s = none by
    unfold parseR
    rw [if_neg hs, hc]
    rcases hb with rfl | hb
    · simp only
      cases partsR NM <;> simp
    · simp only [hb])
  obtain ⟨S, hS⟩ : ∃ S : ByteArray, (⟨s.toArray⟩ : ByteArray) = S := ⟨_, rfl⟩
  have hSl : S.data.toList = s := by rw [← hS]
  have hz : ¬ (60 : Int) < S.size := by rw [← hS, size_mk]; omega
  have hcl := cut_lenR s [32]
  rw [hc] at hcl
  obtain ⟨hn1, hr1⟩ := hcl
  simp only at hn1 hr1
  have HS := Lib.hid hS
  have HSL := Lib.hid hSl
  have HC := Lib.hid hc
  rw [hS]
  have HW := Lib.hid hw
  have HB := Aside.mk hb
  clear hw hS hSl hc hb
  go_enter Tryz.func8, Tryz.ntmps8
  go_wp2_with fail
  rw [← HS.out]
  refine (r_cut s [32] _ (by omega) (by simp) (by simp)).mono ?_
  rintro e w1 ⟨rfl, hB1⟩
  rw [HC.out, HS.out]
  simp only []
  go_wp2_with fail
  refine (r_parts NM _ (by omega)).mono ?_
  rintro e w2 ⟨x, is, rfl, hx, hB2⟩
  have hB02 := bthen hB1 hB2
  rw [show insV x = .agg #[.int .i64 x.form, .bool x.u, .bool x.v, .int .i64 x.a, .int .i64 x.b, .int .i64 x.c, .int .i64 x.op, .int .i64 x.im] from rfl]
  have HX := Aside.mk hx
  clear hx hB1 hB2
  cases ok
  · go_wp2_with fail
    go_ret2
    exact ⟨by rw [HW.out]; rfl, bthen hB02 (ablow _ _)⟩
  · cases is
    · go_wp2_with fail
      go_ret2
      exact ⟨by rw [HW.out]; rfl, bthen hB02 (ablow _ _)⟩
    · exfalso
      rcases HB.out with h | h
      · cases h
      · rw [HX.out] at h; cases h
set_option maxRecDepth 100000 in
set_option maxHeartbeats 4000000 in
theorem r_word_f3 (s : List UInt8) (w : World) (hs : ¬ 60 < s.length) (NM RS : List UInt8) (hc : Lib.cut s [32] = (NM, RS, true)) (vv : Bool) (ca : Int) (hp : partsR NM = some ⟨3, false, vv, ca, 0, 0, 0, 0⟩) : Calls Tryz.prog 8 #[.string ⟨s.toArray⟩] w (AtWordR s w) := by
  have hsne := cut_found hc
  obtain ⟨c, isR, hcr⟩ : ∃ a b, regV RS = (a, b) := ⟨_, _, rfl⟩
  obtain ⟨im, isN, hin⟩ : ∃ a b, numV RS = (a, b) := ⟨_, _, rfl⟩
  have him : InR im := by have := numV_range RS; rw [hin] at this; exact this
  have hpx : parseR s = if isR = false ∧ isN = false then none else some ⟨3, !isR, vv, ca, 0, c, 0, if isR = true then 0 else im⟩ := by
    unfold parseR
    rw [if_neg hs, hc]
    simp only [hp, if_true, restR, hcr, hin]
  obtain ⟨S, hS⟩ : ∃ S : ByteArray, (⟨s.toArray⟩ : ByteArray) = S := ⟨_, rfl⟩
  have hSl : S.data.toList = s := by rw [← hS]
  have hz : ¬ (60 : Int) < S.size := by rw [← hS, size_mk]; omega
  have hcl := cut_lenR s [32]
  rw [hc] at hcl
  obtain ⟨hn1, hr1⟩ := hcl
  simp only at hn1 hr1
  have HS := Lib.hid hS
  have HSL := Lib.hid hSl
  have HC := Lib.hid hc
  rw [hS]
  have HCR := Lib.hid hcr
  have HIN := Lib.hid hin
  have HPP := Lib.hid hpx
  have HP := Lib.hid hp
  clear hS hSl hc hcr hin hpx hp
  go_enter Tryz.func8, Tryz.ntmps8
  go_wp2_with fail
  rw [← HS.out]
  refine (r_cut s [32] _ (by omega) (by simp) (by simp)).mono ?_
  rintro e w1 ⟨rfl, hB1⟩
  rw [HC.out, HS.out]
  simp only []
  go_wp2_with fail
  refine (r_parts NM _ (by omega)).mono ?_
  rintro e w2 ⟨x, is, rfl, hx, hB2⟩
  have hB02 := bthen hB1 hB2
  rw [HP.out] at hx
  obtain ⟨rfl, rfl⟩ : is = true ∧ x = ⟨3, false, vv, ca, 0, 0, 0, 0⟩ := by
    cases is
    · cases hx
    · exact ⟨rfl, (Option.some.inj hx).symm⟩
  rw [insV_eq]
  clear hx hB1 hB2
  obtain ⟨X, hX⟩ : ∃ b, w2.heap.size = b := ⟨_, rfl⟩
  have HX := Lib.hid hX
  go_wp2_with fail
  refine (r_register RS _ (by omega)).mono ?_
  rintro e w3 ⟨rfl, hB3⟩
  rw [HCR.out]
  have fX := b_below (b_new w2 _) hB3
  have hB03 := bthen (bthen hB02 (ablow _ _)) hB3
  rw [hX] at fX
  have FX := Lib.hid fX
  clear fX hB3 hX
  go_wp2_with fail
  refine (r_number RS _ (by omega)).mono ?_
  rintro e w4 ⟨rfl, hB4⟩
  rw [HIN.out]
  have fX := b_below FX.out hB4
  have hB04 := bthen hB03 hB4
  have hwX : w.heap.size ≤ X := by rw [← HX.out]; exact hB02.size
  obtain ⟨x0, x1, x2, x3, x4, x5, x6, x7⟩ := b_cells8 fX
  have z1 := b_free fX 1
  have z5 := b_free fX 5
  have z7 := b_free fX 7
  have hlX : X < w4.heap.size := block_lt fX
  have FX4 := Lib.hid fX
  clear fX hB4 FX hB03
  cases isR
  · cases isN
    · have HPX := Lib.hid (show parseR s = none by rw [HPP.out]; rfl)
      go_wp2_with fail
      go_ret2
      refine ⟨?_, ((hB04.setCell hwX _).setCell hwX _).setCell hwX _⟩
      rw [HPX.out]
      rfl
    · have HPX := Lib.hid (show parseR s = some ⟨3, true, vv, ca, 0, c, 0, im⟩ by rw [HPP.out]; rfl)
      go_wp2_with fail
      refine (rr_Encode ⟨3, true, vv, ca, 0, c, 0, im⟩ _ him).mono ?_
      rintro e w8 ⟨rfl, hB8⟩
      obtain ⟨ew, ee, hE⟩ : ∃ a b, encW ⟨3, true, vv, ca, 0, c, 0, im⟩ = (a, b) := ⟨_, _, rfl⟩
      rw [hE]
      obtain ⟨e0, e1, he⟩ := wr_enc hE
      have hB08 : Below w.heap.size w w8 := bthen (((hB04.setCell hwX _).setCell hwX _).setCell hwX _) hB8
      have HE := Lib.hid hE
      clear hE hB8
      go_wp2_with fail
      refine (rr_Line ew _ e0 e1).mono ?_
      rintro e w9 ⟨rfl, hB9⟩
      obtain ⟨ls, le, hL⟩ : ∃ a b, lineW ew = (a, b) := ⟨_, _, rfl⟩
      rw [hL]
      have hle := wr_line hL
      have HL := Lib.hid hL
      have HLE := Aside.mk hle
      clear hL hle
      rcases he with rfl | rfl
      · by_cases hls : ls = s
        · have q : (!ls == S.toList) = false := by rw [ByteArray.toList_eq, HSL.out, hls]; simp
          have hle0 : le = 0 := by
            rcases HLE.out with h | ⟨-, h⟩
            · exact h
            · exact absurd (hls.symm.trans h) hsne
          have HLS := Lib.hid hls
          have HL0 := Lib.hid hle0
          clear hls hle0
          go_wp2_with fail
          go_ret2
          refine ⟨?_, bthen hB08 hB9⟩
          rw [HPX.out, wr_good HE.out (show lineW ew = (s, 0) by rw [HL.out, HLS.out, HL0.out])]
          rfl
        · have q : (!ls == S.toList) = true := by rw [ByteArray.toList_eq, HSL.out]; simp [hls]
          go_wp2_with fail
          go_ret2
          refine ⟨?_, bthen hB08 hB9⟩
          rw [HPX.out, wr_bad3 HE.out HL.out hls]
          rfl
      · go_wp2_with fail
        go_ret2
        refine ⟨?_, bthen hB08 hB9⟩
        rw [HPX.out, wr_bad1 HE.out]
        rfl
  · have HPX := Lib.hid (show parseR s = some ⟨3, false, vv, ca, 0, c, 0, 0⟩ by rw [HPP.out]; cases isN <;> rfl)
    have y7 : ((((w4.setCell ⟨X, 5, none⟩ (.int .i64 c)).setCell ⟨X, 7, none⟩ (.int .i64 im)).setCell ⟨X, 1, none⟩ (.bool false)).setCell ⟨X, 7, none⟩ (.int .i64 0)).cell? ⟨X, 7, none⟩ = some (.int .i64 0) := cell_of_block (b_set (b_set (b_set (b_set FX4.out 5 _) 7 _) 1 _) 7 _) 7
    go_wp2_with fail
    refine (rr_Encode ⟨3, false, vv, ca, 0, c, 0, 0⟩ _ inR0R).mono ?_
    rintro e w8 ⟨rfl, hB8⟩
    obtain ⟨ew, ee, hE⟩ : ∃ a b, encW ⟨3, false, vv, ca, 0, c, 0, 0⟩ = (a, b) := ⟨_, _, rfl⟩
    rw [hE]
    obtain ⟨e0, e1, he⟩ := wr_enc hE
    have hB08 : Below w.heap.size w w8 := bthen ((((hB04.setCell hwX _).setCell hwX _).setCell hwX _).setCell hwX _) hB8
    have HE := Lib.hid hE
    clear hE hB8
    go_wp2_with fail
    refine (rr_Line ew _ e0 e1).mono ?_
    rintro e w9 ⟨rfl, hB9⟩
    obtain ⟨ls, le, hL⟩ : ∃ a b, lineW ew = (a, b) := ⟨_, _, rfl⟩
    rw [hL]
    have hle := wr_line hL
    have HL := Lib.hid hL
    have HLE := Aside.mk hle
    clear hL hle
    rcases he with rfl | rfl
    · by_cases hls : ls = s
      · have q : (!ls == S.toList) = false := by rw [ByteArray.toList_eq, HSL.out, hls]; simp
        have hle0 : le = 0 := by
          rcases HLE.out with h | ⟨-, h⟩
          · exact h
          · exact absurd (hls.symm.trans h) hsne
        have HLS := Lib.hid hls
        have HL0 := Lib.hid hle0
        clear hls hle0
        go_wp2_with fail
        go_ret2
        refine ⟨?_, bthen hB08 hB9⟩
        rw [HPX.out, wr_good HE.out (show lineW ew = (s, 0) by rw [HL.out, HLS.out, HL0.out])]
        rfl
      · have q : (!ls == S.toList) = true := by rw [ByteArray.toList_eq, HSL.out]; simp [hls]
        go_wp2_with fail
        go_ret2
        refine ⟨?_, bthen hB08 hB9⟩
        rw [HPX.out, wr_bad3 HE.out HL.out hls]
        rfl
    · go_wp2_with fail
      go_ret2
      refine ⟨?_, bthen hB08 hB9⟩
      rw [HPX.out, wr_bad1 HE.out]
      rfl
set_option maxRecDepth 100000 in
set_option maxHeartbeats 4000000 in
theorem r_word_f0 (s : List UInt8) (w : World) (hs : ¬ 60 < s.length) (NM RS : List UInt8) (hc : Lib.cut s [32] = (NM, RS, true)) (u vv : Bool) (o : Int) (hp : partsR NM = some ⟨0, u, vv, 0, 0, 0, o, 0⟩) : Calls Tryz.prog 8 #[.string ⟨s.toArray⟩] w (AtWordR s w) := by
  have hsne := cut_found hc
  obtain ⟨a, more, k1, hq⟩ : ∃ a b c, Lib.cut RS [44, 32] = (a, b, c) := ⟨_, _, _, rfl⟩
  obtain ⟨b, last, k2, hr⟩ : ∃ a b c, Lib.cut more [44, 32] = (a, b, c) := ⟨_, _, _, rfl⟩
  obtain ⟨p, one, ha⟩ : ∃ x y, regV a = (x, y) := ⟨_, _, rfl⟩
  obtain ⟨q, two, hb⟩ : ∃ x y, regV b = (x, y) := ⟨_, _, rfl⟩
  obtain ⟨c, isR, hcr⟩ : ∃ x y, regV last = (x, y) := ⟨_, _, rfl⟩
  obtain ⟨im, isN, hin⟩ : ∃ x y, numV last = (x, y) := ⟨_, _, rfl⟩
  have him : InR im := by have := numV_range last; rw [hin] at this; exact this
  have hpx : parseR s = if one = false ∨ two = false ∨ (isR = false ∧ isN = false) ∨ (isR = true ∧ (0 : Int) = 2) then none
      else if isR = true then some ⟨0, u, vv, p, q, c, o, 0⟩ else some ⟨if (0 : Int) = 0 then 1 else 0, u, vv, p, q, 0, o, im⟩ := by
    unfold parseR
    rw [if_neg hs, hc]
    simp only [hp, if_true, restR, hq, hr, ha, hb, hcr, hin]
    rfl
  have hl1 := cut_lenR RS [44, 32]
  rw [hq] at hl1
  have hl2 := cut_lenR more [44, 32]
  rw [hr] at hl2
  obtain ⟨l1, l2⟩ := hl1
  obtain ⟨l3, l4⟩ := hl2
  simp only at l1 l2 l3 l4
  obtain ⟨S, hS⟩ : ∃ S : ByteArray, (⟨s.toArray⟩ : ByteArray) = S := ⟨_, rfl⟩
  have hSl : S.data.toList = s := by rw [← hS]
  have hz : ¬ (60 : Int) < S.size := by rw [← hS, size_mk]; omega
  have hcl := cut_lenR s [32]
  rw [hc] at hcl
  obtain ⟨hn1, hr1⟩ := hcl
  simp only at hn1 hr1
  have HS := Lib.hid hS
  have HSL := Lib.hid hSl
  have HC := Lib.hid hc
  rw [hS]
  have HQ := Lib.hid hq
  have HR := Lib.hid hr
  have HA := Lib.hid ha
  have HB := Lib.hid hb
  have HCR := Lib.hid hcr
  have HIN := Lib.hid hin
  have HPP := Lib.hid hpx
  have HP := Lib.hid hp
  clear hS hSl hc hcr hin hpx hp hq hr ha hb
  go_enter Tryz.func8, Tryz.ntmps8
  go_wp2_with fail
  rw [← HS.out]
  refine (r_cut s [32] _ (by omega) (by simp) (by simp)).mono ?_
  rintro e w1 ⟨rfl, hB1⟩
  rw [HC.out, HS.out]
  simp only []
  go_wp2_with fail
  refine (r_parts NM _ (by omega)).mono ?_
  rintro e w2 ⟨x, is, rfl, hx, hB2⟩
  have hB02 := bthen hB1 hB2
  rw [HP.out] at hx
  obtain ⟨rfl, rfl⟩ : is = true ∧ x = ⟨0, u, vv, 0, 0, 0, o, 0⟩ := by
    cases is
    · cases hx
    · exact ⟨rfl, (Option.some.inj hx).symm⟩
  rw [insV_eq]
  clear hx hB1 hB2
  obtain ⟨X, hX⟩ : ∃ b, w2.heap.size = b := ⟨_, rfl⟩
  have HX := Lib.hid hX
  go_wp2_with fail
  refine (r_cut RS [44, 32] _ (by omega) (by simp) (by simp)).mono ?_
  rintro e w3 ⟨rfl, hB3⟩
  rw [HQ.out]
  simp only []
  have fX := b_below (b_new w2 _) hB3
  have hB03 := bthen (bthen hB02 (ablow _ _)) hB3
  rw [hX] at fX
  have FX := Lib.hid fX
  clear fX hB3 hX
  go_wp2_with fail
  refine (r_cut more [44, 32] _ (by omega) (by simp) (by simp)).mono ?_
  rintro e w4 ⟨rfl, hB4⟩
  rw [HR.out]
  simp only []
  go_wp2_with fail
  refine (r_register a _ (by omega)).mono ?_
  rintro e w5 ⟨rfl, hB5⟩
  rw [HA.out]
  go_wp2_with fail
  refine (r_register b _ (by omega)).mono ?_
  rintro e w6 ⟨rfl, hB6⟩
  rw [HB.out]
  have fX := b_below (b_below (b_below FX.out hB4) hB5) hB6
  have hB06 := bthen (bthen (bthen hB03 hB4) hB5) hB6
  have hwX : w.heap.size ≤ X := by rw [← HX.out]; exact hB02.size
  have pc3 := cell_of_block fX 3
  have pc4 := cell_of_block fX 4
  have pf3 := frozen_of_block fX 3
  have pf4 := frozen_of_block fX 4
  have FX6 := Lib.hid fX
  clear hB4 hB5 hB6 hB03 fX FX
  go_wp2_with fail
  generalize hW : World.setCell _ _ _ = V1
  have fX : V1.heap[X]? = some (.cells #[.int .i64 0, .bool u, .bool vv, .int .i64 p, .int .i64 q, .int .i64 0, .int .i64 o, .int .i64 0] 45 (0, 0)) := by
    rw [← hW]; exact b_put (b_put FX6.out 3 _ rfl) 4 _ rfl
  have hBV : Below w.heap.size w V1 := by rw [← hW]; exact (hB06.setCell hwX _).setCell hwX _
  have FXV := Lib.hid fX
  clear hW fX FX6 hB06 pc3 pc4 pf3 pf4
  refine (r_register last _ (by omega)).mono ?_
  rintro e w7 ⟨rfl, hB7⟩
  rw [HCR.out]
  have FX7 := Lib.hid (b_below FXV.out hB7)
  have hBV7 := bthen hBV hB7
  clear hB7 hBV FXV
  go_wp2_with fail
  refine (r_number last _ (by omega)).mono ?_
  rintro e w10 ⟨rfl, hB10⟩
  rw [HIN.out]
  have fX := b_below FX7.out hB10
  have hB010 := bthen hBV7 hB10
  obtain ⟨x0, x1, x2, x3, x4, x5, x6, x7⟩ := b_cells8 fX
  have z0 := b_free fX 0
  have z5 := b_free fX 5
  have z7 := b_free fX 7
  have hlX : X < w10.heap.size := block_lt fX
  clear fX hB10 FX7 hBV7
  cases one
  · have HPX := Lib.hid (show parseR s = none by rw [HPP.out]; rw [if_pos (.inl rfl)])
    go_wp2_with fail
    go_ret2
    refine ⟨?_, hB010⟩
    rw [HPX.out]
    rfl
  · cases two
    · have HPX := Lib.hid (show parseR s = none by rw [HPP.out]; rw [if_pos (.inr (.inl rfl))])
      go_wp2_with fail
      go_ret2
      refine ⟨?_, hB010⟩
      rw [HPX.out]
      rfl
    · cases isR
      · cases isN
        · have HPX := Lib.hid (show parseR s = none by rw [HPP.out]; rw [if_pos (.inr (.inr (.inl ⟨rfl, rfl⟩)))])
          go_wp2_with fail
          go_ret2
          refine ⟨?_, hB010⟩
          rw [HPX.out]
          rfl
        · have HPX := Lib.hid (show parseR s = some ⟨1, u, vv, p, q, 0, o, im⟩ by rw [HPP.out]; simp)
          go_wp2_with fail
          refine (rr_Encode ⟨1, u, vv, p, q, 0, o, im⟩ _ him).mono ?_
          rintro e w8 ⟨rfl, hB8⟩
          obtain ⟨ew, ee, hE⟩ : ∃ a b, encW ⟨1, u, vv, p, q, 0, o, im⟩ = (a, b) := ⟨_, _, rfl⟩
          rw [hE]
          obtain ⟨e0, e1, he⟩ := wr_enc hE
          have hB08 : Below w.heap.size w w8 := bthen ((hB010.setCell hwX _).setCell hwX _) hB8
          have HE := Lib.hid hE
          clear hE hB8
          go_wp2_with fail
          refine (rr_Line ew _ e0 e1).mono ?_
          rintro e w9 ⟨rfl, hB9⟩
          obtain ⟨ls, le, hL⟩ : ∃ a b, lineW ew = (a, b) := ⟨_, _, rfl⟩
          rw [hL]
          have hle := wr_line hL
          have HL := Lib.hid hL
          have HLE := Aside.mk hle
          clear hL hle
          rcases he with rfl | rfl
          · by_cases hls : ls = s
            · have q : (!ls == S.toList) = false := by rw [ByteArray.toList_eq, HSL.out, hls]; simp
              have hle0 : le = 0 := by
                rcases HLE.out with h | ⟨-, h⟩
                · exact h
                · exact absurd (hls.symm.trans h) hsne
              have HLS := Lib.hid hls
              have HL0 := Lib.hid hle0
              clear hls hle0
              go_wp2_with fail
              go_ret2
              refine ⟨?_, bthen hB08 hB9⟩
              rw [HPX.out, wr_good HE.out (show lineW ew = (s, 0) by rw [HL.out, HLS.out, HL0.out])]
              rfl
            · have q : (!ls == S.toList) = true := by rw [ByteArray.toList_eq, HSL.out]; simp [hls]
              go_wp2_with fail
              go_ret2
              refine ⟨?_, bthen hB08 hB9⟩
              rw [HPX.out, wr_bad3 HE.out HL.out hls]
              rfl
          · go_wp2_with fail
            go_ret2
            refine ⟨?_, bthen hB08 hB9⟩
            rw [HPX.out, wr_bad1 HE.out]
            rfl
      · have HPX := Lib.hid (show parseR s = some ⟨0, u, vv, p, q, c, o, 0⟩ by rw [HPP.out]; simp)
        go_wp2_with fail
        refine (rr_Encode ⟨0, u, vv, p, q, c, o, 0⟩ _ inR0R).mono ?_
        rintro e w8 ⟨rfl, hB8⟩
        obtain ⟨ew, ee, hE⟩ : ∃ a b, encW ⟨0, u, vv, p, q, c, o, 0⟩ = (a, b) := ⟨_, _, rfl⟩
        rw [hE]
        obtain ⟨e0, e1, he⟩ := wr_enc hE
        have hB08 : Below w.heap.size w w8 := bthen (hB010.setCell hwX _) hB8
        have HE := Lib.hid hE
        clear hE hB8
        go_wp2_with fail
        refine (rr_Line ew _ e0 e1).mono ?_
        rintro e w9 ⟨rfl, hB9⟩
        obtain ⟨ls, le, hL⟩ : ∃ a b, lineW ew = (a, b) := ⟨_, _, rfl⟩
        rw [hL]
        have hle := wr_line hL
        have HL := Lib.hid hL
        have HLE := Aside.mk hle
        clear hL hle
        rcases he with rfl | rfl
        · by_cases hls : ls = s
          · have q : (!ls == S.toList) = false := by rw [ByteArray.toList_eq, HSL.out, hls]; simp
            have hle0 : le = 0 := by
              rcases HLE.out with h | ⟨-, h⟩
              · exact h
              · exact absurd (hls.symm.trans h) hsne
            have HLS := Lib.hid hls
            have HL0 := Lib.hid hle0
            clear hls hle0
            go_wp2_with fail
            go_ret2
            refine ⟨?_, bthen hB08 hB9⟩
            rw [HPX.out, wr_good HE.out (show lineW ew = (s, 0) by rw [HL.out, HLS.out, HL0.out])]
            rfl
          · have q : (!ls == S.toList) = true := by rw [ByteArray.toList_eq, HSL.out]; simp [hls]
            go_wp2_with fail
            go_ret2
            refine ⟨?_, bthen hB08 hB9⟩
            rw [HPX.out, wr_bad3 HE.out HL.out hls]
            rfl
        · go_wp2_with fail
          go_ret2
          refine ⟨?_, bthen hB08 hB9⟩
          rw [HPX.out, wr_bad1 HE.out]
          rfl
set_option maxRecDepth 100000 in
set_option maxHeartbeats 4000000 in
theorem r_word_f2 (s : List UInt8) (w : World) (hs : ¬ 60 < s.length) (NM RS : List UInt8) (hc : Lib.cut s [32] = (NM, RS, true)) (u vv : Bool) (hp : partsR NM = some ⟨2, u, vv, 0, 0, 0, 0, 0⟩) : Calls Tryz.prog 8 #[.string ⟨s.toArray⟩] w (AtWordR s w) := by
  have hsne := cut_found hc
  obtain ⟨a, more, k1, hq⟩ : ∃ a b c, Lib.cut RS [44, 32] = (a, b, c) := ⟨_, _, _, rfl⟩
  obtain ⟨b, last, k2, hr⟩ : ∃ a b c, Lib.cut more [44, 32] = (a, b, c) := ⟨_, _, _, rfl⟩
  obtain ⟨p, one, ha⟩ : ∃ x y, regV a = (x, y) := ⟨_, _, rfl⟩
  obtain ⟨q, two, hb⟩ : ∃ x y, regV b = (x, y) := ⟨_, _, rfl⟩
  obtain ⟨c, isR, hcr⟩ : ∃ x y, regV last = (x, y) := ⟨_, _, rfl⟩
  obtain ⟨im, isN, hin⟩ : ∃ x y, numV last = (x, y) := ⟨_, _, rfl⟩
  have him : InR im := by have := numV_range last; rw [hin] at this; exact this
  have hpx : parseR s = if one = false ∨ two = false ∨ (isR = false ∧ isN = false) ∨ (isR = true ∧ (2 : Int) = 2) then none
      else if isR = true then some ⟨2, u, vv, p, q, c, 0, 0⟩ else some ⟨if (2 : Int) = 0 then 1 else 2, u, vv, p, q, 0, 0, im⟩ := by
    unfold parseR
    rw [if_neg hs, hc]
    simp only [hp, if_true, restR, hq, hr, ha, hb, hcr, hin]
    rfl
  have hl1 := cut_lenR RS [44, 32]
  rw [hq] at hl1
  have hl2 := cut_lenR more [44, 32]
  rw [hr] at hl2
  obtain ⟨l1, l2⟩ := hl1
  obtain ⟨l3, l4⟩ := hl2
  simp only at l1 l2 l3 l4
  obtain ⟨S, hS⟩ : ∃ S : ByteArray, (⟨s.toArray⟩ : ByteArray) = S := ⟨_, rfl⟩
  have hSl : S.data.toList = s := by rw [← hS]
  have hz : ¬ (60 : Int) < S.size := by rw [← hS, size_mk]; omega
  have hcl := cut_lenR s [32]
  rw [hc] at hcl
  obtain ⟨hn1, hr1⟩ := hcl
  simp only at hn1 hr1
  have HS := Lib.hid hS
  have HSL := Lib.hid hSl
  have HC := Lib.hid hc
  rw [hS]
  have HQ := Lib.hid hq
  have HR := Lib.hid hr
  have HA := Lib.hid ha
  have HB := Lib.hid hb
  have HCR := Lib.hid hcr
  have HIN := Lib.hid hin
  have HPP := Lib.hid hpx
  have HP := Lib.hid hp
  clear hS hSl hc hcr hin hpx hp hq hr ha hb
  go_enter Tryz.func8, Tryz.ntmps8
  go_wp2_with fail
  rw [← HS.out]
  refine (r_cut s [32] _ (by omega) (by simp) (by simp)).mono ?_
  rintro e w1 ⟨rfl, hB1⟩
  rw [HC.out, HS.out]
  simp only []
  go_wp2_with fail
  refine (r_parts NM _ (by omega)).mono ?_
  rintro e w2 ⟨x, is, rfl, hx, hB2⟩
  have hB02 := bthen hB1 hB2
  rw [HP.out] at hx
  obtain ⟨rfl, rfl⟩ : is = true ∧ x = ⟨2, u, vv, 0, 0, 0, 0, 0⟩ := by
    cases is
    · cases hx
    · exact ⟨rfl, (Option.some.inj hx).symm⟩
  rw [insV_eq]
  clear hx hB1 hB2
  obtain ⟨X, hX⟩ : ∃ b, w2.heap.size = b := ⟨_, rfl⟩
  have HX := Lib.hid hX
  go_wp2_with fail
  refine (r_cut RS [44, 32] _ (by omega) (by simp) (by simp)).mono ?_
  rintro e w3 ⟨rfl, hB3⟩
  rw [HQ.out]
  simp only []
  have fX := b_below (b_new w2 _) hB3
  have hB03 := bthen (bthen hB02 (ablow _ _)) hB3
  rw [hX] at fX
  have FX := Lib.hid fX
  clear fX hB3 hX
  go_wp2_with fail
  refine (r_cut more [44, 32] _ (by omega) (by simp) (by simp)).mono ?_
  rintro e w4 ⟨rfl, hB4⟩
  rw [HR.out]
  simp only []
  go_wp2_with fail
  refine (r_register a _ (by omega)).mono ?_
  rintro e w5 ⟨rfl, hB5⟩
  rw [HA.out]
  go_wp2_with fail
  refine (r_register b _ (by omega)).mono ?_
  rintro e w6 ⟨rfl, hB6⟩
  rw [HB.out]
  have fX := b_below (b_below (b_below FX.out hB4) hB5) hB6
  have hB06 := bthen (bthen (bthen hB03 hB4) hB5) hB6
  have hwX : w.heap.size ≤ X := by rw [← HX.out]; exact hB02.size
  have pc3 := cell_of_block fX 3
  have pc4 := cell_of_block fX 4
  have pf3 := frozen_of_block fX 3
  have pf4 := frozen_of_block fX 4
  have FX6 := Lib.hid fX
  clear hB4 hB5 hB6 hB03 fX FX
  go_wp2_with fail
  generalize hW : World.setCell _ _ _ = V1
  have fX : V1.heap[X]? = some (.cells #[.int .i64 2, .bool u, .bool vv, .int .i64 p, .int .i64 q, .int .i64 0, .int .i64 0, .int .i64 0] 45 (0, 0)) := by
    rw [← hW]; exact b_put (b_put FX6.out 3 _ rfl) 4 _ rfl
  have hBV : Below w.heap.size w V1 := by rw [← hW]; exact (hB06.setCell hwX _).setCell hwX _
  have FXV := Lib.hid fX
  clear hW fX FX6 hB06 pc3 pc4 pf3 pf4
  refine (r_register last _ (by omega)).mono ?_
  rintro e w7 ⟨rfl, hB7⟩
  rw [HCR.out]
  have FX7 := Lib.hid (b_below FXV.out hB7)
  have hBV7 := bthen hBV hB7
  clear hB7 hBV FXV
  go_wp2_with fail
  refine (r_number last _ (by omega)).mono ?_
  rintro e w10 ⟨rfl, hB10⟩
  rw [HIN.out]
  have fX := b_below FX7.out hB10
  have hB010 := bthen hBV7 hB10
  obtain ⟨x0, x1, x2, x3, x4, x5, x6, x7⟩ := b_cells8 fX
  have z0 := b_free fX 0
  have z5 := b_free fX 5
  have z7 := b_free fX 7
  have hlX : X < w10.heap.size := block_lt fX
  clear fX hB10 FX7 hBV7
  cases one
  · have HPX := Lib.hid (show parseR s = none by rw [HPP.out]; rw [if_pos (.inl rfl)])
    go_wp2_with fail
    go_ret2
    refine ⟨?_, hB010⟩
    rw [HPX.out]
    rfl
  · cases two
    · have HPX := Lib.hid (show parseR s = none by rw [HPP.out]; rw [if_pos (.inr (.inl rfl))])
      go_wp2_with fail
      go_ret2
      refine ⟨?_, hB010⟩
      rw [HPX.out]
      rfl
    · cases isR
      · cases isN
        · have HPX := Lib.hid (show parseR s = none by rw [HPP.out]; rw [if_pos (.inr (.inr (.inl ⟨rfl, rfl⟩)))])
          go_wp2_with fail
          go_ret2
          refine ⟨?_, hB010⟩
          rw [HPX.out]
          rfl
        · have HPX := Lib.hid (show parseR s = some ⟨2, u, vv, p, q, 0, 0, im⟩ by rw [HPP.out]; simp)
          go_wp2_with fail
          refine (rr_Encode ⟨2, u, vv, p, q, 0, 0, im⟩ _ him).mono ?_
          rintro e w8 ⟨rfl, hB8⟩
          obtain ⟨ew, ee, hE⟩ : ∃ a b, encW ⟨2, u, vv, p, q, 0, 0, im⟩ = (a, b) := ⟨_, _, rfl⟩
          rw [hE]
          obtain ⟨e0, e1, he⟩ := wr_enc hE
          have hB08 : Below w.heap.size w w8 := bthen (hB010.setCell hwX _) hB8
          have HE := Lib.hid hE
          clear hE hB8
          go_wp2_with fail
          refine (rr_Line ew _ e0 e1).mono ?_
          rintro e w9 ⟨rfl, hB9⟩
          obtain ⟨ls, le, hL⟩ : ∃ a b, lineW ew = (a, b) := ⟨_, _, rfl⟩
          rw [hL]
          have hle := wr_line hL
          have HL := Lib.hid hL
          have HLE := Aside.mk hle
          clear hL hle
          rcases he with rfl | rfl
          · by_cases hls : ls = s
            · have q : (!ls == S.toList) = false := by rw [ByteArray.toList_eq, HSL.out, hls]; simp
              have hle0 : le = 0 := by
                rcases HLE.out with h | ⟨-, h⟩
                · exact h
                · exact absurd (hls.symm.trans h) hsne
              have HLS := Lib.hid hls
              have HL0 := Lib.hid hle0
              clear hls hle0
              go_wp2_with fail
              go_ret2
              refine ⟨?_, bthen hB08 hB9⟩
              rw [HPX.out, wr_good HE.out (show lineW ew = (s, 0) by rw [HL.out, HLS.out, HL0.out])]
              rfl
            · have q : (!ls == S.toList) = true := by rw [ByteArray.toList_eq, HSL.out]; simp [hls]
              go_wp2_with fail
              go_ret2
              refine ⟨?_, bthen hB08 hB9⟩
              rw [HPX.out, wr_bad3 HE.out HL.out hls]
              rfl
          · go_wp2_with fail
            go_ret2
            refine ⟨?_, bthen hB08 hB9⟩
            rw [HPX.out, wr_bad1 HE.out]
            rfl
      · have HPX := Lib.hid (show parseR s = none by rw [HPP.out]; rw [if_pos (.inr (.inr (.inr ⟨rfl, by decide⟩)))])
        go_wp2_with fail
        go_ret2
        refine ⟨?_, hB010⟩
        rw [HPX.out]
        rfl
/-- spinetref06.Word. -/
theorem r_Word (s : List UInt8) (w : World) (hs : s.length ≤ 140737488351232) : Calls Tryz.prog 8 #[.string ⟨s.toArray⟩] w (AtWordR s w) := by
  by_cases hl : 60 < s.length
  · exact r_word_long s w hs hl
  · obtain ⟨NM, RS, ok, hc⟩ : ∃ A B f, Lib.cut s [32] = (A, B, f) := ⟨_, _, _, rfl⟩
    cases ok with
    | false => exact r_word_bad s w hl NM RS false hc (.inl rfl)
    | true =>
      cases hp : partsR NM with
      | none => exact r_word_bad s w hl NM RS true hc (.inr hp)
      | some x =>
        rcases parts_form hp with ⟨u, v, o, rfl⟩ | ⟨u, v, rfl⟩ | ⟨v, c, rfl⟩
        · exact r_word_f0 s w hl NM RS hc u v o hp
        · exact r_word_f2 s w hl NM RS hc u v hp
        · exact r_word_f3 s w hl NM RS hc v c hp
end Go.Proofs.YtjjgjadfnongfaaGreatDoor
