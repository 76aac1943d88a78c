import Derived.Test.YtkieeaajhomdoaaDoorReads
import Derived.Laws.IdiomStrings
set_option linter.unusedVariables false
set_option linter.unusedSimpArgs false
namespace Go.Proofs.YtkieeaajhomdoaaDoor
open Go.RowKit Go.Maps Go.MapKept
def plusL (n : Nat) : List UInt8 := List.replicate n 43
def plusV (n : Nat) : List Value := List.replicate n (.int .u8 43)
theorem plusL_len (n : Nat) : (plusL n).length = n := List.length_replicate
theorem plusV_snoc (n : Nat) : plusV (n + 1) = plusV n ++ [.int .u8 43] := List.replicate_succ'
theorem own_cell {w : World} {base g n C : Nat} {e : TypeId} {xs : List Value} (h : w.ownsRow base e 1 (.slice (some ⟨g, 0, none⟩) n C) n xs) (j : Nat) (hj : j < n) : w.cell? ⟨g, j, none⟩ = xs[j]? := by
  obtain ⟨h1, ⟨h2, _⟩ | ⟨g', cap, cur, h2, hg, hh, hn, hc, hs, ht⟩⟩ := h
  · cases h2
  · simp only [Value.slice.injEq, Option.some.injEq, Addr.mk.injEq] at h2
    obtain ⟨⟨rfl, _⟩, _, rfl⟩ := h2
    rw [cell_of_block hh, ← ht, List.getElem?_take_of_lt (by omega)]
    simp
theorem info_u8 : (Tryd.prog.info? 5).map (fun i => (i.zero, i.size, i.bytes)) = some (some (.int .u8 0), 1, 1) := by kernel_rfl
set_option maxRecDepth 100000 in
set_option maxHeartbeats 4000000 in
theorem TokenMost_any (n : Int) (s : ByteArray) (w : World) (hv : Vars w) (hn0 : (Lit.int .i64 n).wf = true) (hs : s.size ≤ 140737488351232) : Calls Tryd.prog 4 #[.int .i64 n, .string s] w (Gives (.bool true) w) := by
  have HV := Lib.hid hv
  clear hv hn0
  by_cases hout : n < 0 ∨ 6010 < n ∨ 3000 < s.size
  · by_cases h1 : n < 0
    · go_enter Tryd.func4, Tryd.ntmps4
      go_wp2_with fail
      refine (wakes9_any _ HV.out).mono ?_
      rintro e w1 ⟨rfl, hB⟩
      go_wp2_with fail
      go_ret
      exact ⟨rfl, hB⟩
    · by_cases h2 : 6010 < n
      · go_enter Tryd.func4, Tryd.ntmps4
        go_wp2_with fail
        refine (wakes9_any _ HV.out).mono ?_
        rintro e w1 ⟨rfl, hB⟩
        go_wp2_with fail
        go_ret
        exact ⟨rfl, hB⟩
      · have h3 : (3000 : Int) < s.size := by omega
        go_enter Tryd.func4, Tryd.ntmps4
        go_wp2_with fail
        refine (wakes9_any _ HV.out).mono ?_
        rintro e w1 ⟨rfl, hB⟩
        go_wp2_with fail
        go_ret
        exact ⟨rfl, hB⟩
  · obtain ⟨m, rfl⟩ : ∃ m : Nat, n = (m : Int) := ⟨n.toNat, by omega⟩
    have h2 : (m : Int) ≤ 6010 := by omega
    have h3 : (s.size : Int) ≤ 3000 := by omega
    have h0 : (0 : Int) ≤ m := by omega
    clear hout
    obtain ⟨i0, hi, hz0, hz1, hz2⟩ := info_parts info_u8
    have HI := Lib.hid hi
    have HZ0 := Lib.hid hz0
    have HZ1 := Lib.hid hz1
    have HZ2 := Lib.hid hz2
    clear hi hz0 hz1 hz2
    go_enter Tryd.func4, Tryd.ntmps4
    go_wp2_with (at_make; refine wpList_make_own _ rfl _ _ 31 rfl w.heap.size 5 i0 (.int .u8 0) 1 Tryd.underlying31 HI.out HZ0.out HZ1.out .i64 .i64 _ m rfl rfl rfl (by rw [HZ2.out]; omega) (by unfold maxLen; omega) (Nat.le_refl _) ?_; intro w0 hown0 hgrow0)
    have hB0 : Below w.heap.size w w0 := (Below.refl _ _).grown hgrow0 (Nat.le_refl _) (by intro k hk; cases hk)
    have hown1 := Aside.mk hown0
    clear hown0 hgrow0
    go_loopw [5, 6] (fun v i wr => ∃ (k g C : Nat), v = .slice (some ⟨g, 0, none⟩) k C ∧ k ≤ m ∧ i = .int .i64 k ∧ Aside (wr.ownsRow w.heap.size 5 1 (.slice (some ⟨g, 0, none⟩) k C) k (plusV k)) ∧ Below w.heap.size w wr) (fun _ i _ => m - (intOf i).toNat)
    case atStart => exact ⟨0, _, _, rfl, by omega, rfl, ⟨hown1.out⟩, hB0⟩
    case round =>
      obtain ⟨k, g, C, rfl, hk, rfl, hown, hB⟩ := hrel
      by_cases hlt : k < m
      · have hki : (k : Int) < m := by omega
        go_wp2_with (at_builtin; refine wpList_append_own _ rfl _ _ 31 rfl w.heap.size 5 i0 _ 1 1 Tryd.underlying31 HI.out HZ0.out HZ1.out HZ2.out rfl (by decide) _ k _ rfl (hown.out.alloc _) ⟨wr.heap.size, 0, none⟩ 1 1 [.int .u8 43] rfl rfl ?c1 ?c2 ?c3 ?c4 ?c5 ?_)
        case c1 => exact fun j u hu => new_cells rfl (by simpa using hu)
        case c2 => intro u hu; simp at hu; subst hu; rfl
        case c3 => unfold maxLen; omega
        case c4 => omega
        case c5 => have := hB.size; simp; omega
        intro v3 w3 hown3 hgrow hiff
        have hbel3 : Below w.heap.size w w3 := by
          refine Below.grown ?_ hgrow ?_ (fun b hb => own_base hown.out b hb)
          · exact hB.alloc hB.size _
          · have := hB.size; simp; omega
        obtain ⟨g3, C3, rfl⟩ : ∃ g C3, v3 = .slice (some ⟨g, 0, none⟩) (k + 1) C3 := by
          rcases hown3.2 with ⟨_, h⟩ | ⟨g, cap, cur, h, _⟩
          · omega
          · exact ⟨_, _, h⟩
        have hown4 := Aside.mk hown3
        clear hown3 hgrow hown hiff
        go_wp2_with fail
        go_roundw
        case rel => exact ⟨k + 1, g3, C3, rfl, by omega, by go_num, ⟨by rw [plusV_snoc]; exact hown4.out⟩, hbel3⟩
        case measure => simp [intOf]; omega
      · have hkm : k = m := by omega
        subst hkm
        have hcv := run_convert_bytes_back (P := Tryd.prog) wr 31 9 5 ⟨g, 0, none⟩ C (plusL k) Tryd.underlying31 Tryd.underlying5 Tryd.underlying9 (fun j hj => by
          rw [plusL_len] at hj
          rw [add_plain, own_cell hown.out j hj]
          simp [plusV, plusL, hj])
        rw [plusL_len] at hcv
        have hnl : ¬ (9223372036854775807 < (plusL k).length + s.size) := by rw [plusL_len]; omega
        go_wp2_with fail
        obtain ⟨S, hS⟩ : ∃ S : ByteArray, (⟨(plusL k).toArray⟩ : ByteArray) ++ s = S := ⟨_, rfl⟩
        rw [hS]
        have hSs : S.size ≤ 140737488351232 := by
          have e : (⟨(plusL k).toArray⟩ : ByteArray).size = k := by show (plusL k).toArray.size = k; simp [plusL_len]
          rw [← hS, ByteArray.size_append, e]
          omega
        clear hS hcv hnl
        obtain ⟨r, hr⟩ : ∃ r, lex S.data.toList = r := ⟨_, rfl⟩
        have HR := Lib.hid hr
        clear hr
        obtain ⟨toks, a1, c1, ho⟩ : ∃ toks a1 c1, lexOut r = (toks, a1, c1) := ⟨_, _, _, rfl⟩
        refine (Lex_any S _ (HV.out.stays hB) hSs r HR.out).mono ?_
        intro e w1 h1
        obtain ⟨A, C, rfl, hr1, hB1⟩ := h1.out HR.out
        rw [ho] at hr1
        rw [ho]
        have HR1 := Lib.hid hr1
        have HO := Lib.hid ho
        clear h1 hr1 ho
        go_wp2_with fail
        refine (r_Lex S _ hSs r HR.out).mono ?_
        intro e w2 h2
        obtain ⟨A2, C2, rfl, hr2, hB2⟩ := h2.out HR.out
        rw [HO.out] at hr2
        rw [HO.out]
        have HR2 := Lib.hid hr2
        clear h2 hr2
        go_wp2_with fail
        refine (r_Same _ _ toks toks true _ (HR1.out.stays hB2) HR2.out).mono ?_
        rw [sameL_refl]
        rintro e w3 ⟨rfl, hB3⟩
        go_wp2_with fail
        refine (wakes9_any _ (HV.out.stays (bthen (bthen (bthen hB hB1) hB2) hB3))).mono ?_
        rintro e w4 ⟨rfl, hB4⟩
        go_wp2_with fail
        go_ret
        exact ⟨rfl, bthen (bthen (bthen (bthen hB hB1) hB2) hB3) hB4⟩
end Go.Proofs.YtkieeaajhomdoaaDoor
