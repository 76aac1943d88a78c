import Derived.Test.YtkieeaajhomdoaaDoorLex
set_option linter.unusedVariables false
set_option linter.unusedSimpArgs false
namespace Go.Proofs.YtkieeaajhomdoaaDoor
open Go.RowKit Go.Maps Go.MapKept
/-- What a function that only looks comes to. -/
def Is (v : Value) (w : World) (e : Ending) (w' : World) : Prop := e = .returned v ∧ w' = w
theorem ret_bool {a b : Bool} (h : a = b) : Ending.returned (.bool a) = .returned (.bool b) := by rw [h]
theorem ret_int {a b : Int} (h : a = b) : Ending.returned (.int .i64 a) = .returned (.int .i64 b) := by rw [h]
set_option maxRecDepth 100000 in
theorem r_letter (c : UInt8) (w : World) : Calls Tryd.prog 47 #[.int .u8 (c.toNat : Nat)] w (Is (.bool (isLetter c)) w) := by
  obtain ⟨b, hb⟩ : ∃ b, isLetter c = b := ⟨_, rfl⟩
  rw [hb]
  have HB := Lib.hid hb
  clear hb
  have hc : ((c.toNat : Nat) : Int) < 256 := by have := UInt8.toNat_lt c; omega
  go_enter Tryd.func47, Tryd.ntmps47
  go_wp2
  all_goals go_ret
  all_goals refine ⟨?_, rfl⟩
  all_goals rw [← HB.out]
  all_goals refine ret_bool ?_
  all_goals rw [Bool.eq_iff_iff]
  all_goals simp only [isLetter, Bool.or_eq_true, Bool.and_eq_true, decide_eq_true_eq, Bool.false_eq_true, true_iff, false_iff]
  all_goals omega
set_option maxRecDepth 100000 in
theorem r_digit (c : UInt8) (w : World) : Calls Tryd.prog 48 #[.int .u8 (c.toNat : Nat)] w (Is (.bool (isDigit c)) w) := by
  obtain ⟨b, hb⟩ : ∃ b, isDigit c = b := ⟨_, rfl⟩
  rw [hb]
  have HB := Lib.hid hb
  clear hb
  have hc : ((c.toNat : Nat) : Int) < 256 := by have := UInt8.toNat_lt c; omega
  go_enter Tryd.func48, Tryd.ntmps48
  go_wp2
  all_goals go_ret
  all_goals refine ⟨?_, rfl⟩
  all_goals rw [← HB.out]
  all_goals refine ret_bool ?_
  all_goals rw [Bool.eq_iff_iff]
  all_goals simp only [isDigit, Bool.or_eq_true, Bool.and_eq_true, decide_eq_true_eq, Bool.false_eq_true, true_iff, false_iff]
  all_goals omega
set_option maxRecDepth 100000 in
theorem r_hexa (c : UInt8) (w : World) : Calls Tryd.prog 74 #[.int .u8 (c.toNat : Nat)] w (Is (.bool (isHex c)) w) := by
  obtain ⟨b, hb⟩ : ∃ b, isHex c = b := ⟨_, rfl⟩
  rw [hb]
  have HB := Lib.hid hb
  clear hb
  have hc : ((c.toNat : Nat) : Int) < 256 := by have := UInt8.toNat_lt c; omega
  cases hd : isDigit c
  all_goals
    have HD := Lib.hid hd
    go_enter Tryd.func74, Tryd.ntmps74
    go_wp2_with fail
    refine (r_digit c _).mono ?_
    rintro e w1 ⟨rfl, rfl⟩
    rw [HD.out]
    clear hd
    go_wp2_with fail
  all_goals go_ret
  all_goals refine ⟨?_, rfl⟩
  all_goals rw [← HB.out]
  all_goals refine ret_bool ?_
  all_goals rw [Bool.eq_iff_iff]
  all_goals simp only [isHex, HD.out, Bool.or_eq_true, Bool.and_eq_true, decide_eq_true_eq, Bool.false_eq_true, true_iff, false_iff, false_or, true_or, iff_true]
  all_goals omega
/-- A row of texts that is read. -/
def ReadsTexts (w : World) (a : Option Addr) (l : List (List UInt8)) : Prop := l.length ≤ 1000000 ∧ (0 < l.length → ∃ b o, a = some ⟨b, o, none⟩ ∧ ∀ i, (h : i < l.length) → w.cell? ⟨b, o + i, none⟩ = some (.string ⟨l[i].toArray⟩))
set_option maxRecDepth 100000 in
theorem r_among (s : ByteArray) (b o c : Nat) (l : List (List UInt8)) (w : World) (hl : l.length ≤ 1000000) (hc : ∀ i, (h : i < l.length) → w.cell? ⟨b, o + i, none⟩ = some (.string ⟨l[i].toArray⟩)) (n : Nat) (hn : l.length = n) :
    Calls Tryd.prog 73 #[.string s, .slice (some ⟨b, o, none⟩) n c] w (Is (.bool (decide (s.data.toList ∈ l))) w) := by
  obtain ⟨r, hr⟩ : ∃ r, decide (s.data.toList ∈ l) = r := ⟨_, rfl⟩
  rw [hr]
  subst hn
  have HR := Lib.hid hr
  have HC := Lib.hid hc
  clear hr hc
  go_enter Tryd.func73, Tryd.ntmps73
  go_wp2
  go_loop [5] (fun i => ∃ k : Nat, k ≤ l.length ∧ i = .int .i64 k ∧ Hid (∀ j, (hj : j < l.length) → j < k → s.data.toList ≠ l[j])) (fun i => l.length - (intOf i).toNat)
  case atStart => exact ⟨0, by omega, rfl, fun j hj h => by omega⟩
  case round =>
    obtain ⟨k, hk, rfl, HN⟩ := hrel
    by_cases hlt : k < l.length
    · obtain ⟨x, hx⟩ : ∃ x, l[k] = x := ⟨_, rfl⟩
      have hcell := HC.out k hlt
      rw [hx] at hcell
      have HX := Lib.hid hx
      clear hx
      by_cases he : x = s.data.toList
      · have hb1 : (x == s.toList) = true := by rw [ByteArray.toList_eq, beq_iff_eq]; exact he
        have HE := Lib.hid he
        clear he
        go_wp2_with fail
        go_ret
        refine ⟨ret_bool ?_, rfl⟩
        rw [← HR.out]
        exact (decide_eq_true (by rw [← HE.out, ← HX.out]; exact List.getElem_mem _)).symm
      · have hb1 : (x == s.toList) = false := by rw [ByteArray.toList_eq, beq_eq_false_iff_ne]; exact he
        have HE := Lib.hid he
        clear he
        go_wp2_with fail
        go_round
        case rel =>
          refine ⟨k + 1, by omega, by go_num, fun j hj h => ?_⟩
          by_cases e : j = k
          · subst e; rw [HX.out]; exact fun h => HE.out h.symm
          · exact HN.out j hj (by omega)
        case measure => simp [intOf]; omega
    · go_wp2_with fail
      go_ret
      refine ⟨ret_bool ?_, rfl⟩
      rw [← HR.out]
      refine (decide_eq_false fun h => ?_).symm
      obtain ⟨j, hj, e⟩ := List.getElem_of_mem h
      exact HN.out j hj (by omega) e.symm
theorem row_Key (w : World) : ∀ i, (h : i < keyList.length) → (w.alloc (.cells (textsRow keyList) 9)).cell? ⟨w.heap.size, 0 + i, none⟩ = some (.string ⟨keyList[i].toArray⟩) := fun i h => by
  rw [cell_of_block (alloc_block _ _), Nat.zero_add, textsRow_get _ _ h]
set_option maxRecDepth 100000 in
theorem r_Key (s : ByteArray) (w : World) : Calls Tryd.prog 49 #[.string s] w (Gives (.bool (decide (s.data.toList ∈ keyList))) w) := by
  obtain ⟨r, hr⟩ : ∃ r, decide (s.data.toList ∈ keyList) = r := ⟨_, rfl⟩
  rw [hr]
  have HR := Lib.hid hr
  clear hr
  go_enter Tryd.func49, Tryd.ntmps49
  go_wp2_with fail
  refine (r_among s w.heap.size 0 33 keyList (w.alloc (.cells (textsRow keyList) 9)) (by decide) (row_Key w) 33 rfl).mono ?_
  rintro e w1 ⟨rfl, rfl⟩
  rw [HR.out]
  go_wp2_with fail
  go_ret
  exact ⟨rfl, (Below.refl _ _).alloc (Nat.le_refl _) _⟩
theorem row_Sign (w : World) : ∀ i, (h : i < signList.length) → (w.alloc (.cells (textsRow signList) 9)).cell? ⟨w.heap.size, 0 + i, none⟩ = some (.string ⟨signList[i].toArray⟩) := fun i h => by
  rw [cell_of_block (alloc_block _ _), Nat.zero_add, textsRow_get _ _ h]
set_option maxRecDepth 100000 in
theorem r_Sign (s : ByteArray) (w : World) : Calls Tryd.prog 51 #[.string s] w (Gives (.bool (decide (s.data.toList ∈ signList))) w) := by
  obtain ⟨r, hr⟩ : ∃ r, decide (s.data.toList ∈ signList) = r := ⟨_, rfl⟩
  rw [hr]
  have HR := Lib.hid hr
  clear hr
  go_enter Tryd.func51, Tryd.ntmps51
  go_wp2_with fail
  refine (r_among s w.heap.size 0 26 signList (w.alloc (.cells (textsRow signList) 9)) (by decide) (row_Sign w) 26 rfl).mono ?_
  rintro e w1 ⟨rfl, rfl⟩
  rw [HR.out]
  go_wp2_with fail
  go_ret
  exact ⟨rfl, (Below.refl _ _).alloc (Nat.le_refl _) _⟩
end Go.Proofs.YtkieeaajhomdoaaDoor
