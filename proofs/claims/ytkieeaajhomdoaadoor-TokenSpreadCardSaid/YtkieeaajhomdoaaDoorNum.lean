import Derived.Test.YtkieeaajhomdoaaDoorTok3
import Derived.Lib.ConvBytes
import Derived.Lib.Hide
import Derived.Laws.Strings3
import Derived.Laws.Closers25
import Derived.Laws.Closers25b
set_option linter.unusedVariables false
set_option linter.unusedSimpArgs false
namespace Go.Proofs.YtkieeaajhomdoaaDoor
open Go.RowKit
theorem numVal_snoc (b : Nat) (l : List UInt8) (c : UInt8) : numVal b (l ++ [c]) = numVal b l * b + hexDig c := by simp [numVal]
theorem numVal_grows (b : Nat) (hb : 1 ≤ b) (l m : List UInt8) : numVal b l ≤ numVal b (l ++ m) := by
  suffices h : ∀ m : List UInt8, numVal b l ≤ numVal b (l ++ m.reverse) from by have := h m.reverse; rwa [List.reverse_reverse] at this
  intro m
  induction m with
  | nil => simp
  | cons c m ih =>
    rw [List.reverse_cons, ← List.append_assoc, numVal_snoc]
    refine Nat.le_trans ih ?_
    have := Nat.le_mul_of_pos_right (numVal b (l ++ m.reverse)) hb
    omega
theorem numVal_take (b : Nat) (hb : 1 ≤ b) (l : List UInt8) (k : Nat) : numVal b (l.take k) ≤ numVal b l := by
  have := numVal_grows b hb (l.take k) (l.drop k)
  rwa [List.take_append_drop] at this
theorem low_hex (c : Nat) (h0 : 65 ≤ c) (h1 : c ≤ 70) : bits .or .u8 (c : Int) 32 = (c : Int) + 32 := by
  have : c = 65 ∨ c = 66 ∨ c = 67 ∨ c = 68 ∨ c = 69 ∨ c = 70 := by omega
  rcases this with rfl | rfl | rfl | rfl | rfl | rfl <;> decide
theorem bytesWorld_below (w : World) (e : TypeId) (s : ByteArray) : Below w.heap.size w (Lib.bytesWorld w e s) :=
  ⟨rfl, rfl, rfl, by rw [Lib.bytesWorld_size]; omega, fun k hk => Lib.bytesWorld_at_old w e s k hk⟩
/-- A number, or 'out of range'. -/
def AtNum (ok : Prop) (v m : Nat) (w : World) (e : Ending) (w' : World) : Prop := Below w.heap.size w w' ∧
  ((ok ∧ e = .returned (.tuple #[.int .u64 v, .nilIface])) ∨ (¬ ok ∧ e = .returned (.tuple #[.int .u64 m, .iface 162 (.int .i64 1)])))
set_option maxHeartbeats 4000000 in
set_option maxRecDepth 100000 in
theorem pu_16_32 (t : ByteArray) (hne : t.size ≠ 0) (hmax : t.size ≤ 140737488351232) (hall : ∀ c ∈ t.data.toList, isHex c = true) (w : World) :
    Calls Tryd.prog 94 #[.string t, .int .i64 16, .int .i64 32] w (AtNum (numVal 16 t.data.toList ≤ 4294967295) (numVal 16 t.data.toList) 4294967295 w) := by
  have hemp : t.toList.isEmpty = false := by
    rw [← decide_eq_emptyBytes]
    exact decide_eq_false (fun h => hne (by rw [h]; rfl))
  have hcv := Lib.run_convert_string_bytes (P := Tryd.prog) w 9 31 5 t (u := .string) Tryd.underlying9 Tryd.underlying31 Tryd.underlying5
  have hB : Hid (∀ j, j < t.size → (Lib.bytesWorld w 5 t).cell? ⟨w.heap.size, j, none⟩ = some (.int .u8 (t.data.toList.getD j 0).toNat)) := fun j hj => Lib.bytesWorld_cell w 5 t j hj
  have HBW := Lib.hid (bytesWorld_below w 5 t)
  obtain ⟨W1, hW1⟩ : ∃ W1, W1 = Lib.bytesWorld w 5 t := ⟨_, rfl⟩
  rw [← hW1] at hcv hB HBW
  clear hW1
  have HA := Lib.hid hall
  clear hall
  obtain ⟨P, hP⟩ : ∃ P : Prop, P = (numVal 16 t.data.toList ≤ 4294967295) := ⟨_, rfl⟩
  obtain ⟨V, hV⟩ : ∃ V : Nat, V = numVal 16 t.data.toList := ⟨_, rfl⟩
  rw [← hP, ← hV]
  have HP := Lib.hid hP
  have HV := Lib.hid hV
  clear hP hV
  have hmv : IntKind.u64.wrap (IntKind.u64.wrap 4294967296 - 1) = 4294967295 := by
    rw [IntKind.wrap_u64, IntKind.wrap_u64]
    decide
  go_enter Tryd.func94, Tryd.ntmps94
  go_wp2
  go_loop [12, 13, 101] (fun vu vn vi => ∃ (k : Nat) (a : Int), vu = .bool false ∧ vn = .int .u64 a ∧ vi = .int .i64 k ∧ k ≤ t.size ∧ 0 ≤ a ∧ a ≤ 4294967295 ∧ Hid (a = (numVal 16 (t.data.toList.take k) : Nat)))
    (fun _ _ vi => t.size - (intOf vi).toNat)
  case atStart => exact ⟨0, 0, rfl, rfl, rfl, by omega, by omega, by omega, rfl⟩
  case round =>
    obtain ⟨k, a, rfl, rfl, rfl, hk, a0, a1, HH⟩ := hrel
    by_cases hkn : k < t.size
    · have hc := hB.out k hkn
      have hget : t.data.toList.getD k 0 = t[k] := by
        rw [List.getD_eq_getElem?_getD, List.getElem?_eq_getElem (by rw [len_list]; exact hkn), get_list t k hkn]; rfl
      have hin := HA.out t[k] (by rw [← get_list t k hkn]; exact List.getElem_mem _)
      have hstep : numVal 16 (t.data.toList.take (k + 1)) = numVal 16 (t.data.toList.take k) * 16 + hexDig t[k] := by
        rw [take_snoc t k hkn, numVal_snoc]
      rw [hget] at hc
      have hle := numVal_take 16 (by omega) t.data.toList (k + 1)
      rw [hstep] at hle
      have ha := HH.out
      clear HH
      generalize t[k] = c at hc hin hstep hle
      have hc256 : c.toNat < 256 := c.toNat_lt
      clear hget
      by_cases hdg : 48 ≤ c.toNat ∧ c.toNat ≤ 57
      · obtain ⟨hd0, hd1⟩ := hdg
        have hd : hexDig c = c.toNat - 48 := by unfold hexDig; rw [if_pos hd1]
        rw [hd] at hstep hle
        by_cases hov : 4294967295 < a * 16 + ((c.toNat : Int) - 48)
        · have HP1 : Hid (¬ P) := by show ¬ P; rw [HP.out]; omega
          clear hstep hle ha hd hin
          go_wp2
          go_ret2
          exact ⟨HBW.out, .inr ⟨HP1.out, rfl⟩⟩
        · have HN : Hid (a * 16 + ((c.toNat : Int) - 48) = ((numVal 16 (t.data.toList.take (k + 1)) : Nat) : Int)) := by show _ = _; rw [hstep]; omega
          have hn0 : 0 ≤ a * 16 + ((c.toNat : Int) - 48) := by omega
          have hn1 : a * 16 + ((c.toNat : Int) - 48) ≤ 4294967295 := by omega
          clear hstep hle ha hd hin hov
          go_wp2
          refine ⟨⟨k + 1, a * 16 + ((c.toNat : Int) - 48), rfl, (by first | rfl | (congr 1; omega)), (by first | rfl | (congr 1; omega)), by omega, hn0, hn1, HN⟩, by simp [intOf]; omega⟩
      · have hlt : 65 ≤ c.toNat ∧ c.toNat ≤ 70 := by
          simp only [isHex, isDigit, Bool.or_eq_true, Bool.and_eq_true, decide_eq_true_eq] at hin
          omega
        obtain ⟨hd0, hd1⟩ := hlt
        have hlow := low_hex c.toNat hd0 hd1
        clear hdg
        have hd : hexDig c = c.toNat - 55 := by unfold hexDig; rw [if_neg (by omega)]
        rw [hd] at hstep hle
        by_cases hov : 4294967295 < a * 16 + ((c.toNat : Int) + 32 - 97 + 10)
        · have HP1 : Hid (¬ P) := by show ¬ P; rw [HP.out]; omega
          clear hstep hle ha hd hin
          go_wp2_with (go_at_call 115; refine (Tryd.internal_strconv_lower _ _).mono ?_; rintro e w' ⟨rfl, rfl⟩)
          go_ret2
          exact ⟨HBW.out, .inr ⟨HP1.out, rfl⟩⟩
        · have HN : Hid (a * 16 + ((c.toNat : Int) + 32 - 97 + 10) = ((numVal 16 (t.data.toList.take (k + 1)) : Nat) : Int)) := by show _ = _; rw [hstep]; omega
          have hn0 : 0 ≤ a * 16 + ((c.toNat : Int) + 32 - 97 + 10) := by omega
          have hn1 : a * 16 + ((c.toNat : Int) + 32 - 97 + 10) ≤ 4294967295 := by omega
          clear hstep hle ha hd hin hov
          go_wp2_with (go_at_call 115; refine (Tryd.internal_strconv_lower _ _).mono ?_; rintro e w' ⟨rfl, rfl⟩)
          refine ⟨⟨k + 1, a * 16 + ((c.toNat : Int) + 32 - 97 + 10), rfl, (by first | rfl | (congr 1; omega)), (by first | rfl | (congr 1; omega)), by omega, hn0, hn1, HN⟩, by simp [intOf]; omega⟩
    · have hkk : k = t.size := by omega
      subst hkk
      have ha := HH.out
      rw [List.take_of_length_le (by rw [len_list]; omega), ← HV.out] at ha
      have HP1 : Hid P := by show P; rw [HP.out, ← HV.out]; omega
      clear HH a0 a1
      subst ha
      go_wp2
      go_ret2
      exact ⟨HBW.out, .inl ⟨HP1.out, rfl⟩⟩
set_option maxHeartbeats 4000000 in
set_option maxRecDepth 100000 in
theorem pu_16_8 (t : ByteArray) (hne : t.size ≠ 0) (hmax : t.size ≤ 140737488351232) (hall : ∀ c ∈ t.data.toList, isHex c = true) (w : World) :
    Calls Tryd.prog 94 #[.string t, .int .i64 16, .int .i64 8] w (AtNum (numVal 16 t.data.toList ≤ 255) (numVal 16 t.data.toList) 255 w) := by
  have hemp : t.toList.isEmpty = false := by
    rw [← decide_eq_emptyBytes]
    exact decide_eq_false (fun h => hne (by rw [h]; rfl))
  have hcv := Lib.run_convert_string_bytes (P := Tryd.prog) w 9 31 5 t (u := .string) Tryd.underlying9 Tryd.underlying31 Tryd.underlying5
  have hB : Hid (∀ j, j < t.size → (Lib.bytesWorld w 5 t).cell? ⟨w.heap.size, j, none⟩ = some (.int .u8 (t.data.toList.getD j 0).toNat)) := fun j hj => Lib.bytesWorld_cell w 5 t j hj
  have HBW := Lib.hid (bytesWorld_below w 5 t)
  obtain ⟨W1, hW1⟩ : ∃ W1, W1 = Lib.bytesWorld w 5 t := ⟨_, rfl⟩
  rw [← hW1] at hcv hB HBW
  clear hW1
  have HA := Lib.hid hall
  clear hall
  obtain ⟨P, hP⟩ : ∃ P : Prop, P = (numVal 16 t.data.toList ≤ 255) := ⟨_, rfl⟩
  obtain ⟨V, hV⟩ : ∃ V : Nat, V = numVal 16 t.data.toList := ⟨_, rfl⟩
  rw [← hP, ← hV]
  have HP := Lib.hid hP
  have HV := Lib.hid hV
  clear hP hV
  have hmv : IntKind.u64.wrap (IntKind.u64.wrap 256 - 1) = 255 := by
    rw [IntKind.wrap_u64, IntKind.wrap_u64]
    decide
  go_enter Tryd.func94, Tryd.ntmps94
  go_wp2
  go_loop [12, 13, 101] (fun vu vn vi => ∃ (k : Nat) (a : Int), vu = .bool false ∧ vn = .int .u64 a ∧ vi = .int .i64 k ∧ k ≤ t.size ∧ 0 ≤ a ∧ a ≤ 255 ∧ Hid (a = (numVal 16 (t.data.toList.take k) : Nat)))
    (fun _ _ vi => t.size - (intOf vi).toNat)
  case atStart => exact ⟨0, 0, rfl, rfl, rfl, by omega, by omega, by omega, rfl⟩
  case round =>
    obtain ⟨k, a, rfl, rfl, rfl, hk, a0, a1, HH⟩ := hrel
    by_cases hkn : k < t.size
    · have hc := hB.out k hkn
      have hget : t.data.toList.getD k 0 = t[k] := by
        rw [List.getD_eq_getElem?_getD, List.getElem?_eq_getElem (by rw [len_list]; exact hkn), get_list t k hkn]; rfl
      have hin := HA.out t[k] (by rw [← get_list t k hkn]; exact List.getElem_mem _)
      have hstep : numVal 16 (t.data.toList.take (k + 1)) = numVal 16 (t.data.toList.take k) * 16 + hexDig t[k] := by
        rw [take_snoc t k hkn, numVal_snoc]
      rw [hget] at hc
      have hle := numVal_take 16 (by omega) t.data.toList (k + 1)
      rw [hstep] at hle
      have ha := HH.out
      clear HH
      generalize t[k] = c at hc hin hstep hle
      have hc256 : c.toNat < 256 := c.toNat_lt
      clear hget
      by_cases hdg : 48 ≤ c.toNat ∧ c.toNat ≤ 57
      · obtain ⟨hd0, hd1⟩ := hdg
        have hd : hexDig c = c.toNat - 48 := by unfold hexDig; rw [if_pos hd1]
        rw [hd] at hstep hle
        by_cases hov : 255 < a * 16 + ((c.toNat : Int) - 48)
        · have HP1 : Hid (¬ P) := by show ¬ P; rw [HP.out]; omega
          clear hstep hle ha hd hin
          go_wp2
          go_ret2
          exact ⟨HBW.out, .inr ⟨HP1.out, rfl⟩⟩
        · have HN : Hid (a * 16 + ((c.toNat : Int) - 48) = ((numVal 16 (t.data.toList.take (k + 1)) : Nat) : Int)) := by show _ = _; rw [hstep]; omega
          have hn0 : 0 ≤ a * 16 + ((c.toNat : Int) - 48) := by omega
          have hn1 : a * 16 + ((c.toNat : Int) - 48) ≤ 255 := by omega
          clear hstep hle ha hd hin hov
          go_wp2
          refine ⟨⟨k + 1, a * 16 + ((c.toNat : Int) - 48), rfl, (by first | rfl | (congr 1; omega)), (by first | rfl | (congr 1; omega)), by omega, hn0, hn1, HN⟩, by simp [intOf]; omega⟩
      · have hlt : 65 ≤ c.toNat ∧ c.toNat ≤ 70 := by
          simp only [isHex, isDigit, Bool.or_eq_true, Bool.and_eq_true, decide_eq_true_eq] at hin
          omega
        obtain ⟨hd0, hd1⟩ := hlt
        have hlow := low_hex c.toNat hd0 hd1
        clear hdg
        have hd : hexDig c = c.toNat - 55 := by unfold hexDig; rw [if_neg (by omega)]
        rw [hd] at hstep hle
        by_cases hov : 255 < a * 16 + ((c.toNat : Int) + 32 - 97 + 10)
        · have HP1 : Hid (¬ P) := by show ¬ P; rw [HP.out]; omega
          clear hstep hle ha hd hin
          go_wp2_with (go_at_call 115; refine (Tryd.internal_strconv_lower _ _).mono ?_; rintro e w' ⟨rfl, rfl⟩)
          go_ret2
          exact ⟨HBW.out, .inr ⟨HP1.out, rfl⟩⟩
        · have HN : Hid (a * 16 + ((c.toNat : Int) + 32 - 97 + 10) = ((numVal 16 (t.data.toList.take (k + 1)) : Nat) : Int)) := by show _ = _; rw [hstep]; omega
          have hn0 : 0 ≤ a * 16 + ((c.toNat : Int) + 32 - 97 + 10) := by omega
          have hn1 : a * 16 + ((c.toNat : Int) + 32 - 97 + 10) ≤ 255 := by omega
          clear hstep hle ha hd hin hov
          go_wp2_with (go_at_call 115; refine (Tryd.internal_strconv_lower _ _).mono ?_; rintro e w' ⟨rfl, rfl⟩)
          refine ⟨⟨k + 1, a * 16 + ((c.toNat : Int) + 32 - 97 + 10), rfl, (by first | rfl | (congr 1; omega)), (by first | rfl | (congr 1; omega)), by omega, hn0, hn1, HN⟩, by simp [intOf]; omega⟩
    · have hkk : k = t.size := by omega
      subst hkk
      have ha := HH.out
      rw [List.take_of_length_le (by rw [len_list]; omega), ← HV.out] at ha
      have HP1 : Hid P := by show P; rw [HP.out, ← HV.out]; omega
      clear HH a0 a1
      subst ha
      go_wp2
      go_ret2
      exact ⟨HBW.out, .inl ⟨HP1.out, rfl⟩⟩
set_option maxHeartbeats 4000000 in
set_option maxRecDepth 100000 in
theorem pu_10_31 (t : ByteArray) (hne : t.size ≠ 0) (hmax : t.size ≤ 140737488351232) (hall : ∀ c ∈ t.data.toList, isDigit c = true) (w : World) :
    Calls Tryd.prog 94 #[.string t, .int .i64 10, .int .i64 31] w (AtNum (numVal 10 t.data.toList ≤ 2147483647) (numVal 10 t.data.toList) 2147483647 w) := by
  have hemp : t.toList.isEmpty = false := by
    rw [← decide_eq_emptyBytes]
    exact decide_eq_false (fun h => hne (by rw [h]; rfl))
  have hcv := Lib.run_convert_string_bytes (P := Tryd.prog) w 9 31 5 t (u := .string) Tryd.underlying9 Tryd.underlying31 Tryd.underlying5
  have hB : Hid (∀ j, j < t.size → (Lib.bytesWorld w 5 t).cell? ⟨w.heap.size, j, none⟩ = some (.int .u8 (t.data.toList.getD j 0).toNat)) := fun j hj => Lib.bytesWorld_cell w 5 t j hj
  have HBW := Lib.hid (bytesWorld_below w 5 t)
  obtain ⟨W1, hW1⟩ : ∃ W1, W1 = Lib.bytesWorld w 5 t := ⟨_, rfl⟩
  rw [← hW1] at hcv hB HBW
  clear hW1
  have HA := Lib.hid hall
  clear hall
  obtain ⟨P, hP⟩ : ∃ P : Prop, P = (numVal 10 t.data.toList ≤ 2147483647) := ⟨_, rfl⟩
  obtain ⟨V, hV⟩ : ∃ V : Nat, V = numVal 10 t.data.toList := ⟨_, rfl⟩
  rw [← hP, ← hV]
  have HP := Lib.hid hP
  have HV := Lib.hid hV
  clear hP hV
  have hmv : IntKind.u64.wrap (IntKind.u64.wrap 2147483648 - 1) = 2147483647 := by
    rw [IntKind.wrap_u64, IntKind.wrap_u64]
    decide
  go_enter Tryd.func94, Tryd.ntmps94
  go_wp2
  go_loop [12, 13, 101] (fun vu vn vi => ∃ (k : Nat) (a : Int), vu = .bool false ∧ vn = .int .u64 a ∧ vi = .int .i64 k ∧ k ≤ t.size ∧ 0 ≤ a ∧ a ≤ 2147483647 ∧ Hid (a = (numVal 10 (t.data.toList.take k) : Nat)))
    (fun _ _ vi => t.size - (intOf vi).toNat)
  case atStart => exact ⟨0, 0, rfl, rfl, rfl, by omega, by omega, by omega, rfl⟩
  case round =>
    obtain ⟨k, a, rfl, rfl, rfl, hk, a0, a1, HH⟩ := hrel
    by_cases hkn : k < t.size
    · have hc := hB.out k hkn
      have hget : t.data.toList.getD k 0 = t[k] := by
        rw [List.getD_eq_getElem?_getD, List.getElem?_eq_getElem (by rw [len_list]; exact hkn), get_list t k hkn]; rfl
      have hin := HA.out t[k] (by rw [← get_list t k hkn]; exact List.getElem_mem _)
      have hstep : numVal 10 (t.data.toList.take (k + 1)) = numVal 10 (t.data.toList.take k) * 10 + hexDig t[k] := by
        rw [take_snoc t k hkn, numVal_snoc]
      rw [hget] at hc
      have hle := numVal_take 10 (by omega) t.data.toList (k + 1)
      rw [hstep] at hle
      have ha := HH.out
      clear HH
      generalize t[k] = c at hc hin hstep hle
      have hc256 : c.toNat < 256 := c.toNat_lt
      clear hget
      have hdg : 48 ≤ c.toNat ∧ c.toNat ≤ 57 := by simpa [isDigit] using hin
      obtain ⟨hd0, hd1⟩ := hdg
      have hd : hexDig c = c.toNat - 48 := by unfold hexDig; rw [if_pos hd1]
      rw [hd] at hstep hle
      by_cases hov : 2147483647 < a * 10 + ((c.toNat : Int) - 48)
      · have HP1 : Hid (¬ P) := by show ¬ P; rw [HP.out]; omega
        clear hstep hle ha hd hin
        go_wp2
        go_ret2
        exact ⟨HBW.out, .inr ⟨HP1.out, rfl⟩⟩
      · have HN : Hid (a * 10 + ((c.toNat : Int) - 48) = ((numVal 10 (t.data.toList.take (k + 1)) : Nat) : Int)) := by show _ = _; rw [hstep]; omega
        have hn0 : 0 ≤ a * 10 + ((c.toNat : Int) - 48) := by omega
        have hn1 : a * 10 + ((c.toNat : Int) - 48) ≤ 2147483647 := by omega
        clear hstep hle ha hd hin hov
        go_wp2
        refine ⟨⟨k + 1, a * 10 + ((c.toNat : Int) - 48), rfl, (by first | rfl | (congr 1; omega)), (by first | rfl | (congr 1; omega)), by omega, hn0, hn1, HN⟩, by simp [intOf]; omega⟩
    · have hkk : k = t.size := by omega
      subst hkk
      have ha := HH.out
      rw [List.take_of_length_le (by rw [len_list]; omega), ← HV.out] at ha
      have HP1 : Hid P := by show P; rw [HP.out, ← HV.out]; omega
      clear HH a0 a1
      subst ha
      go_wp2
      go_ret2
      exact ⟨HBW.out, .inl ⟨HP1.out, rfl⟩⟩
end Go.Proofs.YtkieeaajhomdoaaDoor
