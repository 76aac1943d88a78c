import Derived.Test.YtjjgjadfnongfaaGreatDoorAEnc
import Derived.Test.YtjjgjadfnongfaaGreatDoorABlk
import Derived.Test.YtjjgjadfnongfaaGreatDoorALineP
import Derived.Test.YtjjgjadfnongfaaGreatDoorAny
import Derived.Laws.IdiomStrings
set_option linter.unusedVariables false
set_option linter.unusedSimpArgs false
namespace Go.Proofs.YtjjgjadfnongfaaGreatDoor
open Go.RowKit Go.Maps Go.MapKept
theorem a_dec_len (n : Nat) (h : n < 10000000000000000000) : (Lib.decDigits n).length ≤ 19 := by
  have key : ∀ (k n : Nat), n < 10 ^ (k + 1) → (Lib.decDigits n).length ≤ k + 1 := by
    intro k
    induction k with
    | zero => intro n h; rw [Lib.decDigits, dif_pos (by simpa using h)]; simp
    | succ k ih =>
      intro n h
      rw [Lib.decDigits]
      split
      · simp
      · rw [List.length_append]
        have := ih (n / 10) (by rw [Nat.pow_succ] at h; omega)
        simp only [List.length_cons, List.length_nil]
        omega
  exact key 18 n h
theorem itoa_len {n : Int} (h0 : -2147483648 < n) (h1 : n < 2147483648) : (Lib.itoa n).length ≤ 20 := by
  unfold Lib.itoa
  split
  · have := a_dec_len n.natAbs (by omega)
    simp only [List.length_cons]; omega
  · have := a_dec_len n.toNat (by omega)
    omega
theorem size_mk (l : List UInt8) : (⟨l.toArray⟩ : ByteArray).size = l.length := by simp [ByteArray.size]
theorem add_zero (g j : Nat) : (⟨g, 0, none⟩ : Addr).add j = ⟨g, j, none⟩ := by unfold Addr.add; split <;> simp_all
/-- One byte as a text. -/
theorem conv_one {w : World} {g : Nat} (d : Nat) (h : d < 10) (bt : UInt8) (hbt : UInt8.ofNat (48 + d) = bt) (hc : w.cell? ⟨g, 0, none⟩ = some (.int .u8 (48 + (d : Int)))) :
    (Go.convert 57 9 (.slice (some ⟨g, 0, none⟩) 1 1)).run Tryz.prog w = .ok (.string ⟨#[bt]⟩) w := by
  have := run_convert_bytes_back (P := Tryz.prog) w 57 9 5 ⟨g, 0, none⟩ 1 [bt] Tryz.underlying57 Tryz.underlying5 Tryz.underlying9 (fun j hj => by
    simp only [List.length_cons, List.length_nil] at hj
    obtain rfl : j = 0 := by omega
    rw [add_zero, hc]
    have e : bt.toNat = 48 + d := by rw [← hbt, UInt8.toNat_ofNat']; omega
    simp [e])
  exact this
set_option maxRecDepth 100000 in
set_option maxHeartbeats 1600000 in
theorem a_DecN (K : Nat) : ∀ (n : Nat) (w : World), n < K → n < 2147483648 → Calls Tryz.prog 41 #[.int .i64 n] w (Gives (.string ⟨(Lib.decDigits n).toArray⟩) w) := by
  induction K with
  | zero => intro n w h; omega
  | succ K ih =>
    intro n w hK hn
    by_cases h : n < 10
    · have hd : Lib.decDigits n = [UInt8.ofNat (48 + n)] := by rw [Lib.decDigits, dif_pos h]
      obtain ⟨bt, hbt⟩ : ∃ b, UInt8.ofNat (48 + n) = b := ⟨_, rfl⟩
      rw [hbt] at hd
      have hcv := conv_one (w := w.alloc (.cells #[.int .u8 (48 + (n : Int))] 5)) (g := w.heap.size) n h bt hbt (by simp)
      have HD := Lib.hid hd
      have hni : (n : Int) < 10 := by omega
      clear hd ih hbt
      go_enter Tryz.func41, Tryz.ntmps41
      go_wp2_with fail
      go_ret
      exact ⟨by rw [HD.out]; rfl, ablow _ _⟩
    · have hd : Lib.decDigits n = Lib.decDigits (n / 10) ++ [UInt8.ofNat (48 + n % 10)] := by rw [Lib.decDigits, dif_neg h]
      obtain ⟨m, hm⟩ : ∃ m, n / 10 = m := ⟨_, rfl⟩
      obtain ⟨d, hdd⟩ : ∃ d, n % 10 = d := ⟨_, rfl⟩
      have hd10 : d < 10 := by omega
      have hml : m < K := by omega
      have hm31 : m < 2147483648 := by omega
      obtain ⟨bt, hbt⟩ : ∃ b, UInt8.ofNat (48 + d) = b := ⟨_, rfl⟩
      have hmi : (n : Int) / 10 = m := by omega
      have hdi : (n : Int) % 10 = d := by omega
      have hl := a_dec_len m (by omega)
      rw [hm, hdd, hbt] at hd
      obtain ⟨SM, hSM⟩ : ∃ S : ByteArray, (⟨(Lib.decDigits m).toArray⟩ : ByteArray) = S := ⟨_, rfl⟩
      have zM : SM.size ≤ 19 := by rw [← hSM, size_mk]; exact hl
      have zc : ¬ (9223372036854775807 < SM.size + 1) := by omega
      have hfin : SM ++ ⟨#[bt]⟩ = ⟨(Lib.decDigits n).toArray⟩ := by
        rw [hd, ← hSM]
        apply ByteArray.ext
        simp [ByteArray.data_append]
      have hge : ¬ (n : Int) < 10 := by omega
      have IH := Aside.mk (ih m)
      have HF := Lib.hid hfin
      have HS := Lib.hid hSM
      have HMI := Lib.hid hmi
      have HDI := Lib.hid hdi
      have HBT := Lib.hid hbt
      clear ih hd hm hdd hfin hSM hmi hdi hbt
      go_enter Tryz.func41, Tryz.ntmps41
      go_wp2_with fail
      refine any_begin later_goes (by kernel_rfl) ?_
      generalize hW : World.drew _ = W0
      have hB0 : Below w.heap.size w W0 := by rw [← hW]; exact (Below.refl _ _).drew
      clear hW
      refine any_take later_goes 0 ?_ ?_ (by simp only [List.getElem?_toArray, List.getElem?_cons_succ, List.getElem?_cons_zero]; exact rfl) (by kernel_rfl) (by kernel_rfl) (by kernel_rfl) (fun _ _ _ _ _ h => h) (by rfl) ?_ ?_
      rotate_left
      · intro wl hL
        have wq : IntKind.i64.wrap ((n : Int).tdiv 10) = (m : Int) := by rw [Int.tdiv_eq_ediv_of_nonneg (by omega), HMI.out]; exact IntWalk.i64_in _ ⟨by omega, by omega⟩
        have wq2 : (n : Int).tdiv 10 = (m : Int) := by rw [Int.tdiv_eq_ediv_of_nonneg (by omega), HMI.out]
        have wq3 := HMI.out
        have wq4 : IntKind.i64.wrap (m : Int) = (m : Int) := IntWalk.i64_in _ ⟨by omega, by omega⟩
        go_simp
        try with_reducible rfl
      try simp only [Act.put, List.setIfInBounds_toArray, List.set_cons_zero, List.set_cons_succ]
      refine any_take later_goes 1 ?_ ?_ (by simp only [List.getElem?_toArray, List.getElem?_cons_succ, List.getElem?_cons_zero]; exact rfl) (by kernel_rfl) (by kernel_rfl) (by kernel_rfl) (fun _ _ _ _ _ h => h) (by rfl) ?_ ?_
      rotate_left
      · intro wl hL
        have wq : IntKind.i64.wrap ((n : Int).tdiv 10) = (m : Int) := by rw [Int.tdiv_eq_ediv_of_nonneg (by omega), HMI.out]; exact IntWalk.i64_in _ ⟨by omega, by omega⟩
        have wq2 : (n : Int).tdiv 10 = (m : Int) := by rw [Int.tdiv_eq_ediv_of_nonneg (by omega), HMI.out]
        have wq3 := HMI.out
        have wq4 : IntKind.i64.wrap (m : Int) = (m : Int) := IntWalk.i64_in _ ⟨by omega, by omega⟩
        go_simp
        try with_reducible rfl
      try simp only [Act.put, List.setIfInBounds_toArray, List.set_cons_zero, List.set_cons_succ]
      refine any_take later_goes 3 ?_ ?_ (by simp only [List.getElem?_toArray, List.getElem?_cons_succ, List.getElem?_cons_zero]; exact rfl) (by kernel_rfl) (by kernel_rfl) (by kernel_rfl) (fun _ _ _ _ _ h => h) (by rfl) ?_ ?_
      rotate_left
      · intro wl hL
        have wr : (n : Int).tmod 10 = (d : Int) := by rw [Int.tmod_eq_emod_of_nonneg (by omega), HDI.out]
        have wr2 := HDI.out
        have ws : IntKind.i64.wrap (48 + (d : Int)) = 48 + (d : Int) := IntWalk.i64_in _ ⟨by omega, by omega⟩
        have wt : IntKind.u8.wrap (48 + (d : Int)) = 48 + (d : Int) := IntWalk.u8_in _ ⟨by omega, by omega⟩
        go_simp
        try with_reducible rfl
      try simp only [Act.put, List.setIfInBounds_toArray, List.set_cons_zero, List.set_cons_succ]
      refine any_take later_goes 4 ?_ ?_ (by simp only [List.getElem?_toArray, List.getElem?_cons_succ, List.getElem?_cons_zero]; exact rfl) (by kernel_rfl) (by kernel_rfl) (by kernel_rfl) (fun _ _ _ _ _ h => h) (by rfl) ?_ ?_
      rotate_left
      · intro wl hL
        have wr : (n : Int).tmod 10 = (d : Int) := by rw [Int.tmod_eq_emod_of_nonneg (by omega), HDI.out]
        have wr2 := HDI.out
        have ws : IntKind.i64.wrap (48 + (d : Int)) = 48 + (d : Int) := IntWalk.i64_in _ ⟨by omega, by omega⟩
        have wt : IntKind.u8.wrap (48 + (d : Int)) = 48 + (d : Int) := IntWalk.u8_in _ ⟨by omega, by omega⟩
        go_simp
        try with_reducible rfl
      try simp only [Act.put, List.setIfInBounds_toArray, List.set_cons_zero, List.set_cons_succ]
      refine any_take later_goes 5 ?_ ?_ (by simp only [List.getElem?_toArray, List.getElem?_cons_succ, List.getElem?_cons_zero]; exact rfl) (by kernel_rfl) (by kernel_rfl) (by kernel_rfl) (fun _ _ _ _ _ h => h) (by rfl) ?_ ?_
      rotate_left
      · intro wl hL
        have wr : (n : Int).tmod 10 = (d : Int) := by rw [Int.tmod_eq_emod_of_nonneg (by omega), HDI.out]
        have wr2 := HDI.out
        have ws : IntKind.i64.wrap (48 + (d : Int)) = 48 + (d : Int) := IntWalk.i64_in _ ⟨by omega, by omega⟩
        have wt : IntKind.u8.wrap (48 + (d : Int)) = 48 + (d : Int) := IntWalk.u8_in _ ⟨by omega, by omega⟩
        go_simp
        try with_reducible rfl
      try simp only [Act.put, List.setIfInBounds_toArray, List.set_cons_zero, List.set_cons_succ]
      refine any_take later_goes 6 ?_ ?_ (by simp only [List.getElem?_toArray, List.getElem?_cons_succ, List.getElem?_cons_zero]; exact rfl) (by kernel_rfl) (by kernel_rfl) (by kernel_rfl) (fun _ _ _ _ _ h => h) (by rfl) ?_ ?_
      rotate_left
      · intro wl hL
        have wr : (n : Int).tmod 10 = (d : Int) := by rw [Int.tmod_eq_emod_of_nonneg (by omega), HDI.out]
        have wr2 := HDI.out
        have ws : IntKind.i64.wrap (48 + (d : Int)) = 48 + (d : Int) := IntWalk.i64_in _ ⟨by omega, by omega⟩
        have wt : IntKind.u8.wrap (48 + (d : Int)) = 48 + (d : Int) := IntWalk.u8_in _ ⟨by omega, by omega⟩
        go_simp
        try with_reducible rfl
      try simp only [Act.put, List.setIfInBounds_toArray, List.set_cons_zero, List.set_cons_succ]
      refine any_two 2 7 _ _ (by kernel_rfl) (by simp only [List.getElem?_toArray, List.getElem?_cons_succ, List.getElem?_cons_zero]; exact rfl) (by simp only [List.getElem?_toArray, List.getElem?_cons_succ, List.getElem?_cons_zero]; exact rfl) (fun K2 hK2 => ?_) (fun K2 hK2 => ?_)
      · go_simp
        refine (IH.out _ hml (by omega)).mono ?_
        rintro e w1 ⟨rfl, hBr⟩
        rw [HS.out]
        refine hK2.out _ _ hBr ?_
        clear hK2 K2
        try simp only [Act.put, List.setIfInBounds_toArray, List.set_cons_zero, List.set_cons_succ]
        replace hB0 := bthen hB0 hBr
        refine any_one 7 _ (by kernel_rfl) (by simp only [List.getElem?_toArray, List.getElem?_cons_succ, List.getElem?_cons_zero]; exact rfl) (fun K2 hK2 => ?_)
        go_simp
        refine hK2.out _ _ (ablow _ _) ?_
        clear hK2 K2
        try simp only [Act.put, List.setIfInBounds_toArray, List.set_cons_zero, List.set_cons_succ]
        have hb : (w1.alloc (.cells #[.int .u8 (48 + (d : Int))] 5)).cell? ⟨w1.heap.size, 0, none⟩ = some (.int .u8 (48 + (d : Int))) := by rw [cell_of_block (b_new w1 _)]; rfl
        replace hB0 := bthen hB0 (ablow w1 (.cells #[.int .u8 (48 + (d : Int))] 5))
        refine any_take later_goes 8 ?_ ?_ (by simp only [List.getElem?_toArray, List.getElem?_cons_succ, List.getElem?_cons_zero]; exact rfl) (by kernel_rfl) (by kernel_rfl) (by kernel_rfl) (fun _ _ _ _ _ h => h) (by rfl) ?_ ?_
        rotate_left
        · intro wl hL
          have hcv := conv_one d hd10 bt HBT.out (a_keep hL hb)
          go_simp
          try with_reducible rfl
        try simp only [Act.put, List.setIfInBounds_toArray, List.set_cons_zero, List.set_cons_succ]
        refine any_take later_goes 9 ?_ ?_ (by simp only [List.getElem?_toArray, List.getElem?_cons_succ, List.getElem?_cons_zero]; exact rfl) (by kernel_rfl) (by kernel_rfl) (by kernel_rfl) (fun _ _ _ _ _ h => h) (by rfl) ?_ ?_
        rotate_left
        · intro wl hL
          skip
          go_simp
          try with_reducible rfl
        try simp only [Act.put, List.setIfInBounds_toArray, List.set_cons_zero, List.set_cons_succ]
        refine any_take later_goes 10 ?_ ?_ (by simp only [List.getElem?_toArray, List.getElem?_cons_succ, List.getElem?_cons_zero]; exact rfl) (by kernel_rfl) (by kernel_rfl) (by kernel_rfl) (fun _ _ _ _ _ h => h) (by rfl) ?_ ?_
        rotate_left
        · intro wl hL
          skip
          go_simp
          try with_reducible rfl
        try simp only [Act.put, List.setIfInBounds_toArray, List.set_cons_zero, List.set_cons_succ]
        refine any_done (by kernel_rfl) ?_ _
        go_wp2_with fail
        go_ret
        exact ⟨by rw [← HF.out]; rfl, hB0⟩
      · go_simp
        refine hK2.out _ _ (ablow _ _) ?_
        clear hK2 K2
        try simp only [Act.put, List.setIfInBounds_toArray, List.set_cons_zero, List.set_cons_succ]
        have hb : (W0.alloc (.cells #[.int .u8 (48 + (d : Int))] 5)).cell? ⟨W0.heap.size, 0, none⟩ = some (.int .u8 (48 + (d : Int))) := by rw [cell_of_block (b_new W0 _)]; rfl
        replace hB0 := bthen hB0 (ablow W0 (.cells #[.int .u8 (48 + (d : Int))] 5))
        refine any_take later_goes 8 ?_ ?_ (by simp only [List.getElem?_toArray, List.getElem?_cons_succ, List.getElem?_cons_zero]; exact rfl) (by kernel_rfl) (by kernel_rfl) (by kernel_rfl) (fun _ _ _ _ _ h => h) (by rfl) ?_ ?_
        rotate_left
        · intro wl hL
          have hcv := conv_one d hd10 bt HBT.out (a_keep hL hb)
          go_simp
          try with_reducible rfl
        try simp only [Act.put, List.setIfInBounds_toArray, List.set_cons_zero, List.set_cons_succ]
        refine any_one 2 _ (by kernel_rfl) (by simp only [List.getElem?_toArray, List.getElem?_cons_succ, List.getElem?_cons_zero]; exact rfl) (fun K2 hK2 => ?_)
        go_simp
        refine (IH.out _ hml (by omega)).mono ?_
        rintro e w1 ⟨rfl, hBr⟩
        rw [HS.out]
        refine hK2.out _ _ hBr ?_
        clear hK2 K2
        try simp only [Act.put, List.setIfInBounds_toArray, List.set_cons_zero, List.set_cons_succ]
        replace hB0 := bthen hB0 hBr
        refine any_take later_goes 9 ?_ ?_ (by simp only [List.getElem?_toArray, List.getElem?_cons_succ, List.getElem?_cons_zero]; exact rfl) (by kernel_rfl) (by kernel_rfl) (by kernel_rfl) (fun _ _ _ _ _ h => h) (by rfl) ?_ ?_
        rotate_left
        · intro wl hL
          skip
          go_simp
          try with_reducible rfl
        try simp only [Act.put, List.setIfInBounds_toArray, List.set_cons_zero, List.set_cons_succ]
        refine any_take later_goes 10 ?_ ?_ (by simp only [List.getElem?_toArray, List.getElem?_cons_succ, List.getElem?_cons_zero]; exact rfl) (by kernel_rfl) (by kernel_rfl) (by kernel_rfl) (fun _ _ _ _ _ h => h) (by rfl) ?_ ?_
        rotate_left
        · intro wl hL
          skip
          go_simp
          try with_reducible rfl
        try simp only [Act.put, List.setIfInBounds_toArray, List.set_cons_zero, List.set_cons_succ]
        refine any_done (by kernel_rfl) ?_ _
        go_wp2_with fail
        go_ret
        exact ⟨by rw [← HF.out]; rfl, hB0⟩
/-- A number in decimal digits. -/
theorem a_Dec (n : Int) (w : World) (h0 : -2147483648 < n) (h1 : n < 2147483648) : Calls Tryz.prog 41 #[.int .i64 n] w (Gives (.string ⟨(Lib.itoa n).toArray⟩) w) := by
  by_cases hn : n < 0
  · have e : Lib.itoa n = 45 :: Lib.decDigits n.natAbs := by rw [Lib.itoa, if_pos hn]
    obtain ⟨m, hm⟩ : ∃ m, n.natAbs = m := ⟨_, rfl⟩
    rw [hm] at e
    have hneg : -n = (m : Int) := by omega
    have hl := a_dec_len m (by omega)
    obtain ⟨SM, hSM⟩ : ∃ S : ByteArray, (⟨(Lib.decDigits m).toArray⟩ : ByteArray) = S := ⟨_, rfl⟩
    have zM : SM.size ≤ 19 := by rw [← hSM, size_mk]; exact hl
    have zc : ¬ (9223372036854775807 < 1 + SM.size) := by omega
    have hfin : (⟨#[45]⟩ : ByteArray) ++ SM = ⟨(Lib.itoa n).toArray⟩ := by
      rw [e, ← hSM]
      apply ByteArray.ext
      simp [ByteArray.data_append]
    have hm2 : m < 2147483648 := by omega
    have HF := Lib.hid hfin
    have HS := Lib.hid hSM
    have HN := Lib.hid hneg
    clear hfin hSM hneg hm e
    go_enter Tryz.func41, Tryz.ntmps41
    go_wp2_with fail
    rw [HN.out]
    refine (a_DecN (m + 1) m _ (by omega) hm2).mono ?_
    rintro e w1 ⟨rfl, hB⟩
    rw [HS.out]
    go_wp2_with fail
    go_ret
    exact ⟨by rw [← HF.out]; rfl, hB⟩
  · obtain ⟨m, rfl⟩ : ∃ m : Nat, (m : Int) = n := ⟨n.toNat, by omega⟩
    have e : Lib.itoa (m : Int) = Lib.decDigits m := by rw [Lib.itoa, if_neg hn, Int.toNat_natCast]
    rw [e]
    exact a_DecN (m + 1) m w (by omega) (by omega)
end Go.Proofs.YtjjgjadfnongfaaGreatDoor
