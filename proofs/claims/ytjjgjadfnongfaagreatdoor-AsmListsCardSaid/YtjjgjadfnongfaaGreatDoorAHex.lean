import Derived.Test.YtjjgjadfnongfaaGreatDoorABase
import Derived.Laws.IdiomStrings
set_option linter.unusedVariables false
set_option linter.unusedSimpArgs false
namespace Go.Proofs.YtjjgjadfnongfaaGreatDoor
open Go.RowKit Go.Maps Go.MapKept
/-! Numbers in sixteen digits. -/
def digL (d : Nat) : UInt8 := UInt8.ofNat (if d < 10 then 48 + d else 87 + d)
def hexLow (n : Nat) : List UInt8 := if n < 16 then [digL n] else hexLow (n / 16) ++ [digL (n % 16)]
decreasing_by omega
theorem hexLow_small {n : Nat} (h : n < 16) : hexLow n = [digL n] := by rw [hexLow, if_pos h]
theorem hexLow_step {n : Nat} (h : 16 ≤ n) : hexLow n = hexLow (n / 16) ++ [digL (n % 16)] := by rw [hexLow, if_neg (by omega)]
theorem hexLow_pos (n : Nat) : 1 ≤ (hexLow n).length := by
  rw [hexLow]
  split
  · simp
  · rw [List.length_append]; simp
theorem hexLow_len (n : Nat) (h : n < 4294967296) : (hexLow n).length ≤ 8 := by
  have key : ∀ (k n : Nat), n < 16 ^ (k + 1) → (hexLow n).length ≤ k + 1 := by
    intro k
    induction k with
    | zero => intro n h; rw [hexLow_small (by simpa using h)]; simp
    | succ k ih =>
      intro n h
      by_cases hs : n < 16
      · rw [hexLow_small hs]; simp
      · rw [hexLow_step (by omega), List.length_append]
        have := ih (n / 16) (by rw [Nat.pow_succ] at h; omega)
        simp only [List.length_cons, List.length_nil]
        omega
  exact key 7 n h
set_option maxRecDepth 100000 in
theorem pow2_any (w : World) : Calls Tryz.prog 124 #[.int .i64 16] w (fun e w' => e = .returned (.bool true) ∧ w' = w) := by
  have h1 : (bits BinOp.and IntKind.i64 16 15 == 0) = true := by decide
  go_enter Tryz.func124, Tryz.ntmps124
  go_wp2_with fail
  go_ret
  exact ⟨rfl, rfl⟩
set_option maxRecDepth 100000 in
theorem tz64_any (w : World) (h : w.cell? ⟨9, 15, none⟩ = some (.int .u8 4)) : Calls Tryz.prog 129 #[.int .u64 16] w (fun e w' => e = .returned (.int .i64 4) ∧ w' = w) := by
  have h1 : (IntKind.u64.wrap (bits BinOp.and IntKind.u64 16 (IntKind.u64.wrap (-16)) * 285870213051353865) / 288230376151711744).toNat = 15 := by decide
  have h2 : IntKind.u64.wrap (bits BinOp.and IntKind.u64 16 (IntKind.u64.wrap (-16)) * 285870213051353865) / 288230376151711744 = 15 := by decide
  go_enter Tryz.func129, Tryz.ntmps129
  go_wp2_with fail
  go_ret
  exact ⟨rfl, rfl⟩
set_option maxRecDepth 100000 in
theorem tz_any (w : World) (h : w.cell? ⟨9, 15, none⟩ = some (.int .u8 4)) : Calls Tryz.prog 125 #[.int .u64 16] w (fun e w' => e = .returned (.int .i64 4) ∧ w' = w) := by
  have H := Lib.hid h
  clear h
  go_enter Tryz.func125, Tryz.ntmps125
  go_wp2_with fail
  refine (tz64_any _ H.out).mono ?_
  rintro e w1 ⟨rfl, rfl⟩
  go_wp2_with fail
  go_ret
  exact ⟨rfl, rfl⟩
theorem digL_get (d : Nat) (h : d < 16) : (#[48, 49, 50, 51, 52, 53, 54, 55, 56, 57, 97, 98, 99, 100, 101, 102, 103, 104, 105, 106, 107, 108, 109, 110, 111, 112, 113, 114, 115, 116, 117, 118, 119, 120, 121, 122] : Array UInt8)[d]? = some (digL d) := by
  have : ∀ d : Fin 16, (#[48, 49, 50, 51, 52, 53, 54, 55, 56, 57, 97, 98, 99, 100, 101, 102, 103, 104, 105, 106, 107, 108, 109, 110, 111, 112, 113, 114, 115, 116, 117, 118, 119, 120, 121, 122] : Array UInt8)[d.1]? = some (digL d.1) := by decide
  exact this ⟨d, h⟩
theorem digB (r : Nat) (h : r < 36) (h16 : r < 16) : (⟨#[48, 49, 50, 51, 52, 53, 54, 55, 56, 57, 97, 98, 99, 100, 101, 102, 103, 104, 105, 106, 107, 108, 109, 110, 111, 112, 113, 114, 115, 116, 117, 118, 119, 120, 121, 122]⟩ : ByteArray)[r]'h = digL r := by
  have := digL_get r h16
  rw [Array.getElem?_eq_getElem (by exact h)] at this
  exact Option.some.inj this
theorem drop_set (arr : Array Value) (i : Nat) (v : Value) (h1 : 1 ≤ i) (h2 : i ≤ arr.size) : (arr.setIfInBounds (i - 1) v).toList.drop (i - 1) = v :: arr.toList.drop i := by
  rw [Array.toList_setIfInBounds, List.drop_set, if_neg (by omega), Nat.sub_self, List.drop_eq_getElem_cons (by simp; omega), List.set_cons_zero, show i - 1 + 1 = i by omega]
theorem add_off (g o j : Nat) : (⟨g, o, none⟩ : Addr).add j = ⟨g, o + j, none⟩ := by unfold Addr.add; split <;> simp_all
set_option maxRecDepth 100000 in
set_option maxHeartbeats 1600000 in
theorem bits_any (n : Nat) (w : World) (hn : (n : Int) ≤ 4294967295) (h : w.cell? ⟨9, 15, none⟩ = some (.int .u8 4)) : Calls Tryz.prog 109 #[.slice none 0 0, .int .u64 n, .int .i64 16, .bool false, .bool false] w (fun e w' => e = .returned (.tuple #[.slice none 0 0, .string ⟨(hexLow n).toArray⟩]) ∧ Below w.heap.size w w') := by
  have H := Lib.hid h
  clear h
  go_enter Tryz.func109, Tryz.ntmps109
  go_wp2_with fail
  refine (pow2_any _).mono ?_
  rintro e w1 ⟨rfl, rfl⟩
  go_wp2_with fail
  refine (tz_any _ (((Below.refl w.heap.size w).alloc (Nat.le_refl _) _).cell (World.block_lt_of_cell? w _ H.out) |>.trans H.out)).mono ?_
  rintro e w1 ⟨rfl, rfl⟩
  go_wp2_with fail
  go_loopw [1, 13] (fun u i wr => ∃ (m ii : Nat) (suf : List UInt8) (arr : Array Value), u = .int .u64 m ∧ i = .int .i64 ii ∧ (m : Int) ≤ 4294967295 ∧ ii + suf.length = 65 ∧ Hid (hexLow n = hexLow m ++ suf) ∧ Hid (wr.heap[w.heap.size]? = some (.cells arr 168 (0, 0))) ∧ arr.size = 65 ∧ Hid (arr.toList.drop ii = suf.map fun c => .int .u8 c.toNat) ∧ Below w.heap.size w wr) (fun u _ _ => (intOf u).toNat)
  case atStart => exact ⟨n, 65, [], _, rfl, rfl, hn, rfl, by simp [Hid], alloc_block _ _, rfl, rfl, (Below.refl _ _).alloc (Nat.le_refl _) _⟩
  case round =>
    obtain ⟨m, ii, suf, arr, rfl, rfl, hm, hii, HX, HB, hsz, HA, hB⟩ := hrel
    have hlen := hexLow_len n (by omega)
    rw [HX.out, List.length_append] at hlen
    have hp := hexLow_pos m
    have hi1 : 57 ≤ ii := by omega
    have hi65 : ii ≤ 65 := by omega
    have hfz : wr.frozen? ⟨w.heap.size, ii - 1, none⟩ = false := frozen_of_block HB.out _
    have hcl : wr.cell? ⟨w.heap.size, ii - 1, none⟩ = some arr[ii - 1] := by rw [cell_of_block HB.out, Array.getElem?_eq_getElem (by omega)]
    clear hlen hp
    by_cases hge : 16 ≤ m
    · have hgei : (16 : Int) ≤ m := by omega
      have hst := hexLow_step hge
      have hand := bits_and_u64_nat m 15 (by omega) (by omega)
      rw [show m &&& 15 = m % 16 from Nat.and_two_pow_sub_one_eq_mod m 4] at hand
      obtain ⟨r, hr⟩ : ∃ r, m % 16 = r := ⟨_, rfl⟩
      obtain ⟨q, hq⟩ : ∃ q, m / 16 = q := ⟨_, rfl⟩
      rw [hr, hq] at hst
      rw [hr] at hand
      have hr16 : (r : Int) < 16 := by omega
      have hand : bits .and .u64 (m : Int) 15 = (r : Int) := hand
      have hqm : (q : Int) < m := by omega
      have hqe : (m : Int) / 16 = q := by omega
      have HST := Lib.hid hst
      clear hst hr hq
      go_wp2_with fail
      go_roundw
      case rel =>
        refine ⟨q, ii - 1, digL r :: suf, _, rfl, by go_num, by omega, by simp only [List.length_cons]; omega, ?_, setCell_block HB.out _ _, by rw [Array.size_setIfInBounds]; exact hsz, ?_, hB.setCell (Nat.le_refl _) _⟩
        · rw [Hid, HX.out, HST.out, List.append_assoc]; rfl
        · rw [Hid, drop_set _ _ _ (by omega) (by omega), HA.out, digB r (by omega) (by omega)]
          rfl
      case measure => simp [intOf]; omega
    · have hgei : (m : Int) < 16 := by omega
      have hx := HX.out
      rw [hexLow_small (n := m) (by omega)] at hx
      have hK : (hexLow n).length = 65 - (ii - 1) := by rw [hx, List.length_append]; simp only [List.length_cons, List.length_nil]; omega
      have hsl : ∀ W : World, (Instr.sliceAt 168 (.pointer (some ⟨w.heap.size, 0, none⟩)) (some (.int .i64 ((ii : Int) - 1))) none none).run Tryz.prog W = .ok (.slice (some ⟨w.heap.size, ii - 1, none⟩) (hexLow n).length (hexLow n).length) W := by
        intro W
        rw [hK]
        have h65 : Tryz.prog.arrayLen 168 = 65 := by kernel_rfl
        rw [run_sliceAt_array_l W _ _ (by kernel_rfl) .i64 _ (by omega) (by rw [h65]; omega), h65]
        have e : ((ii : Int) - 1).toNat = ii - 1 := by omega
        rw [e]
        simp [go_sem]
        omega
      have hcv := run_convert_bytes_back (P := Tryz.prog) (wr.setCell ⟨w.heap.size, ii - 1, none⟩ (.int .u8 (((⟨#[48, 49, 50, 51, 52, 53, 54, 55, 56, 57, 97, 98, 99, 100, 101, 102, 103, 104, 105, 106, 107, 108, 109, 110, 111, 112, 113, 114, 115, 116, 117, 118, 119, 120, 121, 122]⟩ : ByteArray)[m]'(by show m < 36; omega)).toNat : Nat))) 57 9 5 ⟨w.heap.size, ii - 1, none⟩ (hexLow n).length (hexLow n) Tryz.underlying57 Tryz.underlying5 Tryz.underlying9 (fun j hj => by
        have hb := setCell_block HB.out (ii - 1) (.int .u8 (((⟨#[48, 49, 50, 51, 52, 53, 54, 55, 56, 57, 97, 98, 99, 100, 101, 102, 103, 104, 105, 106, 107, 108, 109, 110, 111, 112, 113, 114, 115, 116, 117, 118, 119, 120, 121, 122]⟩ : ByteArray)[m]'(by show m < 36; omega)).toNat : Nat))
        have hd := drop_set arr ii (.int .u8 (((⟨#[48, 49, 50, 51, 52, 53, 54, 55, 56, 57, 97, 98, 99, 100, 101, 102, 103, 104, 105, 106, 107, 108, 109, 110, 111, 112, 113, 114, 115, 116, 117, 118, 119, 120, 121, 122]⟩ : ByteArray)[m]'(by show m < 36; omega)).toNat : Nat)) (by omega) (by omega)
        rw [HA.out, digB m (by omega) (by omega)] at hd
        have e : (arr.setIfInBounds (ii - 1) (.int .u8 ((digL m).toNat : Nat))).toList.drop (ii - 1) = (hexLow n).map fun c => .int .u8 c.toNat := by
          rw [hd, hx]; rfl
        rw [add_off, cell_of_block hb, digB m (by omega) (by omega), ← Array.getElem?_toList, ← List.getElem?_drop, e, List.getElem?_map, List.getElem?_eq_getElem hj]
        rfl)
      have HX2 := Lib.hid hx
      clear hx hK
      go_wp2_with fail
      go_ret2
      exact ⟨rfl, hB.setCell (Nat.le_refl _) _⟩
set_option maxRecDepth 100000 in
set_option maxHeartbeats 1600000 in
theorem fmt_any (n : Nat) (w : World) (hn : (n : Int) ≤ 4294967295) (h : w.cell? ⟨9, 15, none⟩ = some (.int .u8 4)) : Calls Tryz.prog 82 #[.int .u64 n, .int .i64 16] w (fun e w' => e = .returned (.string ⟨(hexLow n).toArray⟩) ∧ Below w.heap.size w w') := by
  have H := Lib.hid h
  clear h
  go_enter Tryz.func82, Tryz.ntmps82
  go_wp2_with fail
  refine (bits_any n _ hn H.out).mono ?_
  rintro e w1 ⟨rfl, hB⟩
  go_wp2_with fail
  go_ret
  exact ⟨rfl, hB⟩
set_option maxRecDepth 100000 in
set_option maxHeartbeats 1600000 in
theorem FormatUint_any (n : Nat) (w : World) (hn : (n : Int) ≤ 4294967295) (h : w.cell? ⟨9, 15, none⟩ = some (.int .u8 4)) : Calls Tryz.prog 58 #[.int .u64 n, .int .i64 16] w (fun e w' => e = .returned (.string ⟨(hexLow n).toArray⟩) ∧ Below w.heap.size w w') := by
  have H := Lib.hid h
  clear h
  go_enter Tryz.func58, Tryz.ntmps58
  go_wp2_with fail
  refine (fmt_any n _ hn H.out).mono ?_
  rintro e w1 ⟨rfl, hB⟩
  go_wp2_with fail
  go_ret
  exact ⟨rfl, hB⟩
end Go.Proofs.YtjjgjadfnongfaaGreatDoor
