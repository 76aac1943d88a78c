import Derived.Test.YtjjgjadfnongfaaGreatDoorALns0
import Derived.BigQuiet
set_option linter.unusedVariables false
set_option linter.unusedSimpArgs false
namespace Go.Proofs.YtjjgjadfnongfaaGreatDoor
open Go.RowKit
/-! spinetkeep.Words. -/
set_option maxHeartbeats 4000000 in
set_option maxRecDepth 100000 in
theorem k_Words (v1 v2 : Value) (l m : List Int) (w : World) (h1 : ReadsWs w v1 l) (h2 : ReadsWs w v2 m) (hl : l.length ≤ 100000) (hm : m.length ≤ 100000) :
    Calls Tryz.prog 13 #[v1, v2] w (Gives (.bool (decide (l = m))) w) := by
  obtain ⟨A1, C1, rfl, hc1⟩ := h1
  obtain ⟨A2, C2, rfl, hc2⟩ := h2
  have HC1 := Aside.mk hc1
  have HC2 := Aside.mk hc2
  clear hc1 hc2
  obtain ⟨n, hn⟩ : ∃ n, l.length = n := ⟨_, rfl⟩
  obtain ⟨k2, hk2⟩ : ∃ n, m.length = n := ⟨_, rfl⟩
  rw [hn, hk2]
  rw [hn] at hl
  rw [hk2] at hm
  have HN := Lib.hid hn
  have HK2 := Lib.hid hk2
  clear hn hk2
  go_enter Tryz.func13, Tryz.ntmps13
  by_cases he : n = k2
  · subst he
    go_wp2_with fail
    go_loopw [5] (fun iv wr => ∃ (k : Nat), k ≤ n ∧ iv = .int .i64 k ∧ Aside (l.take k = m.take k) ∧ Aside (Below w.heap.size w wr)) (fun iv _ => n - (intOf iv).toNat)
    case atStart => exact ⟨0, by omega, rfl, ⟨by simp⟩, ⟨Below.refl _ _⟩⟩
    case round =>
      obtain ⟨k, hk, rfl, hto, hB⟩ := hrel
      by_cases hlt : k < n
      · obtain ⟨b1, o1, rfl, hd1⟩ := HC1.out (by rw [HN.out]; omega)
        obtain ⟨b2, o2, rfl, hd2⟩ := HC2.out (by rw [HK2.out]; omega)
        have hk1 : k < l.length := by rw [HN.out]; exact hlt
        have hk2 : k < m.length := by rw [HK2.out]; exact hlt
        have q1 := hd1 k hk1
        have q2 := hd2 k hk2
        obtain ⟨x, hx⟩ : ∃ x, l[k]'hk1 = x := ⟨_, rfl⟩
        obtain ⟨y, hy⟩ : ∃ y, m[k]'hk2 = y := ⟨_, rfl⟩
        rw [hx] at q1
        rw [hy] at q2
        have p1 : wr.cell? ⟨b1, o1 + k, none⟩ = some (.int .u32 x) := (hB.out.cell (World.block_lt_of_cell? w _ q1)).trans q1
        have p2 : wr.cell? ⟨b2, o2 + k, none⟩ = some (.int .u32 y) := (hB.out.cell (World.block_lt_of_cell? w _ q2)).trans q2
        have t1 : l.take (k + 1) = l.take k ++ [x] := by rw [List.take_succ_eq_append_getElem hk1, hx]
        have t2 : m.take (k + 1) = m.take k ++ [y] := by rw [List.take_succ_eq_append_getElem hk2, hy]
        have hne : x ≠ y → l ≠ m := by
          intro hxy e
          subst e
          exact hxy (hx.symm.trans hy)
        have T1 := Lib.hid t1
        have T2 := Lib.hid t2
        have HNE := Aside.mk hne
        clear q1 q2 hx hy t1 t2 hd1 hd2 hne
        by_cases hxy : x = y
        · subst hxy
          go_wp2_with fail
          go_quiet (fail)
          go_wp2_with fail
          refine ⟨⟨k + 1, by omega, by go_num, ⟨by rw [T1.out, T2.out, hto.out]⟩, ⟨bthen hB.out (bdrew _ _ _)⟩⟩, by simp [intOf]; omega⟩
        · have HXY := Lib.hid (HNE.out hxy)
          go_wp2_with fail
          go_quiet (fail)
          go_wp2_with fail
          go_ret
          exact ⟨ret_bool (decide_eq_false HXY.out).symm, bthen hB.out (bdrew _ _ _)⟩
      · have hkn : k = n := by omega
        have hlm : l = m := by
          have := hto.out
          rwa [List.take_of_length_le (by rw [HN.out]; omega), List.take_of_length_le (by rw [HK2.out]; omega)] at this
        have HLM := Aside.mk hlm
        clear hlm
        go_wp2_with fail
        go_ret
        exact ⟨ret_bool (decide_eq_true HLM.out).symm, hB.out⟩
  · have hne : l ≠ m := by intro e; subst e; exact he (HN.out.symm.trans HK2.out)
    have HNE := Lib.hid hne
    have hei : ¬ ((n : Int) = k2) := by omega
    clear hne he
    go_wp2_with fail
    go_ret
    exact ⟨ret_bool (decide_eq_false HNE.out).symm, Below.refl _ _⟩
end Go.Proofs.YtjjgjadfnongfaaGreatDoor
