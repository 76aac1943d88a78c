import Derived.Test.YtjjgjadfnongfaaGreatDoorALns0
set_option linter.unusedVariables false
set_option linter.unusedSimpArgs false
namespace Go.Proofs.YtjjgjadfnongfaaGreatDoor
open Go.RowKit
/-! The reference's Hex. -/
def hexN : Nat → Nat → List UInt8
  | 0, _ => []
  | k + 1, w => hexN k (w / 16) ++ [digL (w % 16)]
theorem hexN_len (k w : Nat) : (hexN k w).length = k := by
  induction k generalizing w with
  | zero => rfl
  | succ k ih => simp [hexN, ih]
theorem hexN_pad (k w : Nat) (h : w < 16 ^ (k + 1)) : List.replicate (k + 1 - (hexLow w).length) 48 ++ hexLow w = hexN (k + 1) w := by
  induction k generalizing w with
  | zero =>
    rw [hexLow_small (by simpa using h)]
    simp only [hexN, List.length_cons, List.length_nil, List.nil_append]
    rw [Nat.mod_eq_of_lt (by simpa using h)]; rfl
  | succ k ih =>
    rw [hexN]
    by_cases hs : w < 16
    · rw [hexLow_small hs]
      have h0 : w / 16 = 0 := by omega
      have := ih 0 (Nat.pow_pos (by omega))
      rw [h0, ← this, hexLow_small (n := 0) (by omega), Nat.mod_eq_of_lt hs]
      simp only [List.length_cons, List.length_nil]
      rw [show k + 1 + 1 - (0 + 1) = k + 1 from rfl, show k + 1 - (0 + 1) = k from rfl, List.replicate_succ']
      rfl
    · have hq := ih (w / 16) (by rw [Nat.pow_succ] at h; omega)
      rw [← hq, hexLow_step (n := w) (by omega), List.length_append, List.length_singleton, ← List.append_assoc]
      congr 3
      omega
theorem rawL_hex (n : Nat) (h : n < 4294967296) : rawL n = 35 :: hexN 8 n := by
  rw [rawL, hexN_pad 7 n h]
theorem digL_low (d : Nat) (h : d < 16) : (#[48, 49, 50, 51, 52, 53, 54, 55, 56, 57, 97, 98, 99, 100, 101, 102] : Array UInt8)[d]? = some (digL d) := by
  have : ∀ d : Fin 16, (#[48, 49, 50, 51, 52, 53, 54, 55, 56, 57, 97, 98, 99, 100, 101, 102] : Array UInt8)[d.1]? = some (digL d.1) := by decide
  exact this ⟨d, h⟩
theorem digBl (r : Nat) (h : r < 16) (h16 : r < 16) : (⟨#[48, 49, 50, 51, 52, 53, 54, 55, 56, 57, 97, 98, 99, 100, 101, 102]⟩ : ByteArray)[r]'h = digL r := by
  have := digL_low r h16
  rw [Array.getElem?_eq_getElem (by exact h)] at this
  exact Option.some.inj this
theorem own_bytes_string {P : Program} {w : World} {base n : Nat} {e' src dst e : TypeId} {v : Value} {l : List UInt8} (hs : P.underlying src = some (.slice e)) (he : P.underlying e = some (.int .u8)) (hd : P.underlying dst = some .string)
    (h : w.ownsRow base e' 1 v n (Lib.byteCells l)) : (convert src dst v).run P w = .ok (.string ⟨l.toArray⟩) w := by
  rcases h.2 with ⟨rfl, h0⟩ | ⟨g, cap, cur, rfl, hb, hg, hc1, hc2, hc3, hc4⟩
  · have hl : l = [] := by
      have := h.1
      cases l with
      | nil => rfl
      | cons a b => simp [Lib.byteCells] at this; omega
    subst hl
    simp [convert, run_underlying hs, run_underlying he, run_underlying hd, Sem.run, Result.andThen, Conv.bytesToString]
    rfl
  · have hn : n = l.length := by have := h.1; simp [Lib.byteCells] at this; omega
    subst hn
    refine run_convert_bytes_back (P := P) w src dst e ⟨g, 0, none⟩ cap l hs he hd (fun j hj => ?_)
    have h1 : (cur.toList.take (l.length * 1))[j]? = (Lib.byteCells l)[j]? := by rw [hc4]
    rw [List.getElem?_take] at h1
    rw [if_pos (by omega), Array.getElem?_toList] at h1
    rw [add_off, Nat.zero_add, cell_of_block hg, h1]
    simp [Lib.byteCells, List.getElem?_eq_getElem hj]
theorem info_u8 : (Tryz.prog.info? 5).map (fun i => (i.zero, i.size, i.bytes)) = some (some (.int .u8 0), 1, 1) := by kernel_rfl
set_option maxHeartbeats 4000000 in
set_option maxRecDepth 100000 in
theorem r_Hex (n : Nat) (w : World) (hn : (n : Int) ≤ 4294967295) :
    Calls Tryz.prog 32 #[.int .u32 n] w (Gives (.string ⟨(hexN 8 n).toArray⟩) w) := by
  obtain ⟨i0, hi, hz0, hz1, hz2⟩ := info_parts info_u8
  have HI := Lib.hid hi
  have HZ0 := Lib.hid hz0
  have HZ1 := Lib.hid hz1
  have HZ2 := Lib.hid hz2
  clear hi hz0 hz1 hz2
  go_enter Tryz.func32, Tryz.ntmps32
  go_wp2_with fail
  go_loopw [3, 4] (fun v i wr => ∃ (j : Nat) (A : Option Addr) (C : Nat), j ≤ 8 ∧ v = .slice A j C ∧ i = .int .i64 (7 - (j : Int)) ∧ Aside (wr.ownsRow w.heap.size 5 1 (.slice A j C) j (Lib.byteCells (hexN j (n / 16 ^ (8 - j))))) ∧ Below w.heap.size w wr) (fun _ i _ => (intOf i + 1).toNat)
  case atStart => exact ⟨0, none, 0, by omega, rfl, rfl, ⟨World.ownsRow_nil _ _ _ _⟩, Below.refl _ _⟩
  case round =>
    obtain ⟨j, A, C, hj, rfl, rfl, hown, hB⟩ := hrel
    by_cases hlt : j < 8
    · obtain ⟨c, hc⟩ : ∃ c : Nat, c = 7 - j := ⟨_, rfl⟩
      have hci : 7 - (j : Int) = c := by omega
      rw [hci]
      have hc0 : (0 : Int) ≤ c := by omega
      have hc7 : (c : Int) ≤ 7 := by omega
      have hjc : j + c ≤ 7 := by omega
      have hjc' : 7 ≤ j + c := by omega
      obtain ⟨D, hD⟩ : ∃ D, n / 2 ^ (4 * c) = D := ⟨_, rfl⟩
      have hq : (n : Int) / 2 ^ (4 * c) = (D : Int) := by rw [← hD]; simp
      have hDn : (D : Int) ≤ 4294967295 := by have := Nat.div_le_self n (2 ^ (4 * c)); omega
      obtain ⟨r, hr⟩ : ∃ r, D % 16 = r := ⟨_, rfl⟩
      have hand : bits .and .u32 (D : Int) 15 = (r : Int) := by rw [u32_and15 _ (by omega) hDn]; omega
      have hr16 : (r : Int) < 16 := by omega
      have hstep : hexN (j + 1) (n / 16 ^ c) = hexN j (n / 16 ^ (8 - j)) ++ [digL r] := by
        have e1 : n / 16 ^ c = D := by rw [← hD, Nat.pow_mul]
        have e2 : n / 16 ^ (8 - j) = D / 16 := by
          rw [show 8 - j = c + 1 by omega, Nat.pow_succ, ← Nat.div_div_eq_div_mul, e1]
        rw [hexN, e1, e2, hr]
      have HST := Lib.hid hstep
      have hc8 : 8 - (j + 1) = c := by omega
      have HC8 := Lib.hid hc8
      clear hci hc hD hr hstep hc8
      go_wp2_with (at_builtin; refine wpList_append_own _ rfl _ _ 57 rfl w.heap.size 5 i0 _ 1 1 Tryz.underlying57 HI.out HZ0.out HZ1.out HZ2.out rfl (by decide) _ j _ rfl (hown.out.alloc _) ⟨wr.heap.size, 0, none⟩ 1 1 [.int .u8 (digL r).toNat] rfl rfl ?c1 ?c2 ?c3 ?c4 ?c5 ?_)
      case c1 => rw [← digBl r (by omega) (by omega)]; exact new_cells rfl
      case c2 => intro u hu; simp at hu; subst hu; rfl
      case c3 => unfold maxLen; omega
      case c4 => omega
      case c5 => have := hB.size; simp; omega
      intro v3 w5 hown5 hgrow hiff
      have hB5 : Below w.heap.size w w5 := by
        refine Below.grown ?_ hgrow ?_ (fun b hb => own_base hown.out b hb)
        · exact hB.alloc hB.size _
        · have := hB.size; simp; omega
      obtain ⟨A5, C5, rfl⟩ := own_slice hown5
      have HOWN := Aside.mk hown5
      have HB5 := Aside.mk hB5
      clear hown5 hgrow hiff hown hB hB5
      go_wp2_with fail
      go_roundw
      case rel =>
        refine ⟨j + 1, A5, C5, by omega, rfl, by go_num, ⟨?_⟩, HB5.out⟩
        rw [HC8.out, HST.out, Lib.byteCells_append]
        exact HOWN.out
      case measure => simp [intOf] 
    · have hj8 : j = 8 := by omega
      subst hj8
      have hcv := own_bytes_string (P := Tryz.prog) (src := 57) (dst := 9) Tryz.underlying57 Tryz.underlying5 Tryz.underlying9 hown.out
      have hn1 : n / 16 ^ (8 - 8) = n := by simp
      rw [hn1] at hcv
      have HB := Aside.mk hB
      clear hown hB hn1
      go_wp2_with fail
      go_ret
      exact ⟨rfl, HB.out⟩
end Go.Proofs.YtjjgjadfnongfaaGreatDoor
