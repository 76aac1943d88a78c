import Derived.Test.YtjjgjadfnongfaaGreatDoorABase
import Derived.Lib.ConvBytes
import Derived.Laws.Strings3
import Derived.Laws.Closers25
import Derived.Laws.Closers25b
set_option linter.unusedVariables false
set_option linter.unusedSimpArgs false
namespace Go.Proofs.YtjjgjadfnongfaaGreatDoor
open Go.RowKit
/-! internal/strconv.ParseUint at base 16 and 32 bits, at every text. -/
def hexV (c : Nat) : Option Nat := if 48 ≤ c ∧ c ≤ 57 then some (c - 48) else if 97 ≤ c ∧ c ≤ 102 then some (c - 87) else if 65 ≤ c ∧ c ≤ 70 then some (c - 55) else none
def puV : List UInt8 → Nat → Option Nat
  | [], acc => some acc
  | c :: r, acc => match hexV c.toNat with
    | none => none
    | some d => if 4294967295 < acc * 16 + d then none else puV r (acc * 16 + d)
def puS (l : List UInt8) : Option Nat := if l = [] then none else puV l 0
theorem low_all : ∀ c : Fin 256, ∃ l : Fin 256, bits .or .u8 ((c.1 : Nat) : Int) 32 = ((l.1 : Nat) : Int) ∧ (¬ (48 ≤ c.1 ∧ c.1 ≤ 57) → hexV c.1 = if 97 ≤ l.1 ∧ l.1 ≤ 102 then some (l.1 - 87) else none) := by
  intro c
  have key : ∀ c : Fin 256, (bits .or .u8 ((c.1 : Nat) : Int) 32 = (((if c.1 / 32 % 2 = 1 then c.1 else c.1 + 32) : Nat) : Int)) ∧ (if c.1 / 32 % 2 = 1 then c.1 else c.1 + 32) < 256 ∧ (¬ (48 ≤ c.1 ∧ c.1 ≤ 57) → hexV c.1 = if 97 ≤ (if c.1 / 32 % 2 = 1 then c.1 else c.1 + 32) ∧ (if c.1 / 32 % 2 = 1 then c.1 else c.1 + 32) ≤ 102 then some ((if c.1 / 32 % 2 = 1 then c.1 else c.1 + 32) - 87) else none) := by decide +kernel
  exact ⟨⟨_, (key c).2.1⟩, (key c).1, (key c).2.2⟩
theorem bytesWorld_belowA (w : World) (e : TypeId) (s : ByteArray) : Below w.heap.size w (Lib.bytesWorld w e s) :=
  ⟨rfl, rfl, rfl, by rw [Lib.bytesWorld_size]; omega, fun k hk => Lib.bytesWorld_at_old w e s k hk⟩
def AtPu (t : List UInt8) (w : World) (e : Ending) (w' : World) : Prop := Below w.heap.size w w' ∧
  ((∃ v : Nat, puS t = some v ∧ v ≤ 4294967295 ∧ e = .returned (.tuple #[.int .u64 v, .nilIface])) ∨
   (puS t = none ∧ ((∃ m : Nat, e = .returned (.tuple #[.int .u64 m, .iface 132 (.int .i64 1)]) ∧ m ≤ 4294967295) ∨ e = .returned (.tuple #[.int .u64 0, .iface 132 (.int .i64 2)]))))
set_option maxHeartbeats 4000000 in
set_option maxRecDepth 100000 in
theorem pu_any (t : ByteArray) (hne : t.size ≠ 0) (hmax : t.size ≤ 140737488351232) (w : World) :
    Calls Tryz.prog 77 #[.string t, .int .i64 16, .int .i64 32] w (AtPu t.data.toList w) := by
  have hemp : t.toList.isEmpty = false := by
    rw [← decide_eq_emptyBytes]
    exact decide_eq_false (fun h => hne (by rw [h]; rfl))
  have hps : puS t.data.toList = puV t.data.toList 0 := by
    unfold puS
    rw [if_neg (by intro e; have := len_list t; rw [e] at this; exact hne this.symm)]
  have hcv := Lib.run_convert_string_bytes (P := Tryz.prog) w 9 57 5 t (u := .string) Tryz.underlying9 Tryz.underlying57 Tryz.underlying5
  have hB : Hid (∀ j, j < t.size → (Lib.bytesWorld w 5 t).cell? ⟨w.heap.size, j, none⟩ = some (.int .u8 (t.data.toList.getD j 0).toNat)) := fun j hj => Lib.bytesWorld_cell w 5 t j hj
  have HBW := Lib.hid (bytesWorld_belowA w 5 t)
  obtain ⟨W1, hW1⟩ : ∃ W1, W1 = Lib.bytesWorld w 5 t := ⟨_, rfl⟩
  rw [← hW1] at hcv hB HBW
  clear hW1
  have HPS := Lib.hid hps
  clear hps
  have hmv : IntKind.u64.wrap (IntKind.u64.wrap 4294967296 - 1) = 4294967295 := by
    rw [IntKind.wrap_u64, IntKind.wrap_u64]
    decide
  go_enter Tryz.func77, Tryz.ntmps77
  go_wp2
  go_loop [12, 13, 101] (fun vu vn vi => ∃ (k : Nat) (a : Int), vu = .bool false ∧ vn = .int .u64 a ∧ vi = .int .i64 k ∧ k ≤ t.size ∧ 0 ≤ a ∧ a ≤ 4294967295 ∧ Hid (puV t.data.toList 0 = puV (t.data.toList.drop k) a.toNat))
    (fun _ _ vi => t.size - (intOf vi).toNat)
  case atStart => exact ⟨0, 0, rfl, rfl, rfl, by omega, by omega, by omega, rfl⟩
  case round =>
    obtain ⟨k, a, rfl, rfl, rfl, hk, a0, a1, HH⟩ := hrel
    by_cases hkn : k < t.size
    · have hc := hB.out k hkn
      have hget : t.data.toList.getD k 0 = t[k] := by
        rw [List.getD_eq_getElem?_getD, List.getElem?_eq_getElem (by rw [len_list]; exact hkn), get_list t k hkn]; rfl
      rw [hget] at hc
      have hd : t.data.toList.drop k = t[k] :: t.data.toList.drop (k + 1) := drop_cons t k hkn
      have ha := HH.out
      rw [hd] at ha
      clear HH hd hget
      generalize t[k] = c at hc ha
      have hc256 : c.toNat < 256 := c.toNat_lt
      obtain ⟨⟨l, hl256⟩, hlow, hhex⟩ := low_all ⟨c.toNat, hc256⟩
      simp only at hlow hhex
      by_cases hdg : 48 ≤ c.toNat ∧ c.toNat ≤ 57
      · obtain ⟨hd0, hd1⟩ := hdg
        have hv : hexV c.toNat = some (c.toNat - 48) := by unfold hexV; rw [if_pos ⟨hd0, hd1⟩]
        by_cases hov : 4294967295 < a * 16 + ((c.toNat : Int) - 48)
        · have HP1 : Hid (puS t.data.toList = none) := by
            show _ = _
            rw [HPS.out, ha]; simp only [puV, hv]; rw [if_pos (by omega)]
          clear ha hv hlow hhex
          go_wp2
          go_ret2
          exact ⟨HBW.out, .inr ⟨HP1.out, .inl ⟨4294967295, rfl, by omega⟩⟩⟩
        · have HN : Hid (puV t.data.toList 0 = puV (t.data.toList.drop (k + 1)) (a * 16 + ((c.toNat : Int) - 48)).toNat) := by
            show _ = _
            rw [ha]; simp only [puV, hv]; rw [if_neg (by omega)]; congr 1; omega
          have hn0 : 0 ≤ a * 16 + ((c.toNat : Int) - 48) := by omega
          have hn1 : a * 16 + ((c.toNat : Int) - 48) ≤ 4294967295 := by omega
          clear ha hv hov hlow hhex
          go_wp2
          refine ⟨⟨k + 1, a * 16 + ((c.toNat : Int) - 48), rfl, (by first | rfl | (congr 1; omega)), (by first | rfl | (congr 1; omega)), by omega, hn0, hn1, HN⟩, by simp [intOf]; omega⟩
      · have hv := hhex hdg
        have hnd : ¬ (48 ≤ (c.toNat : Int)) ∨ ¬ ((c.toNat : Int) ≤ 57) := by omega
        have hnd1 : ¬ (48 ≤ (c.toNat : Int) ∧ (c.toNat : Int) ≤ 57) := by omega
        by_cases h95 : c.toNat = 95
        · have hl : bits .or .u8 95 32 = 127 := by decide
          have hl127 : l = 127 := by
            rw [h95] at hlow
            have : bits .or .u8 ((95 : Nat) : Int) 32 = 127 := by decide
            omega
          have HP1 : Hid (puS t.data.toList = none) := by
            show _ = _
            rw [HPS.out, ha]; simp only [puV, hv]; rw [hl127]; rfl
          have hc' : W1.cell? ⟨w.heap.size, k, none⟩ = some (.int .u8 95) := by rw [hc, h95]; rfl
          clear ha hv hhex hdg hnd hnd1 hlow hc hc256 h95 hl127
          go_wp2_with (go_at_call 97; refine (Tryz.internal_strconv_lower _ _).mono ?_; rintro e w' ⟨rfl, rfl⟩)
          go_ret2
          exact ⟨HBW.out, .inr ⟨HP1.out, .inr rfl⟩⟩
        · have h95' : ¬ ((c.toNat : Int) = 95) := by omega
          by_cases hlo : 97 ≤ l
          · by_cases hhi : l ≤ 102
            · rw [if_pos ⟨hlo, hhi⟩] at hv
              by_cases hov : 4294967295 < a * 16 + ((l : Int) - 97 + 10)
              · have HP1 : Hid (puS t.data.toList = none) := by
                  show _ = _
                  rw [HPS.out, ha]; simp only [puV, hv]; rw [if_pos (by omega)]
                clear ha hv hhex hdg hnd
                go_wp2_with (go_at_call 97; refine (Tryz.internal_strconv_lower _ _).mono ?_; rintro e w' ⟨rfl, rfl⟩)
                all_goals go_ret2
                all_goals exact ⟨HBW.out, .inr ⟨HP1.out, .inl ⟨4294967295, rfl, by omega⟩⟩⟩
              · have HN : Hid (puV t.data.toList 0 = puV (t.data.toList.drop (k + 1)) (a * 16 + ((l : Int) - 97 + 10)).toNat) := by
                  show _ = _
                  rw [ha]; simp only [puV, hv]; rw [if_neg (by omega)]; congr 1; omega
                have hn0 : 0 ≤ a * 16 + ((l : Int) - 97 + 10) := by omega
                have hn1 : a * 16 + ((l : Int) - 97 + 10) ≤ 4294967295 := by omega
                clear ha hv hhex hdg hnd hov
                go_wp2_with (go_at_call 97; refine (Tryz.internal_strconv_lower _ _).mono ?_; rintro e w' ⟨rfl, rfl⟩)
                all_goals refine ⟨⟨k + 1, a * 16 + ((l : Int) - 97 + 10), rfl, (by first | rfl | (congr 1; omega)), (by first | rfl | (congr 1; omega)), by omega, hn0, hn1, HN⟩, by simp [intOf]; omega⟩
            · rw [if_neg (by omega)] at hv
              by_cases h122 : l ≤ 122
              · have h16 : (16 : Int) ≤ (l : Int) - 97 + 10 := by omega
                have HP1 : Hid (puS t.data.toList = none) := by
                  show _ = _
                  rw [HPS.out, ha]; simp only [puV, hv]
                clear ha hv hhex hdg hnd
                go_wp2_with (go_at_call 97; refine (Tryz.internal_strconv_lower _ _).mono ?_; rintro e w' ⟨rfl, rfl⟩)
                all_goals go_ret2
                all_goals exact ⟨HBW.out, .inr ⟨HP1.out, .inr rfl⟩⟩
              · skip
                have HP1 : Hid (puS t.data.toList = none) := by
                  show _ = _
                  rw [HPS.out, ha]; simp only [puV, hv]
                clear ha hv hhex hdg hnd
                go_wp2_with (go_at_call 97; refine (Tryz.internal_strconv_lower _ _).mono ?_; rintro e w' ⟨rfl, rfl⟩)
                all_goals go_ret2
                all_goals exact ⟨HBW.out, .inr ⟨HP1.out, .inr rfl⟩⟩
          · rw [if_neg (by omega)] at hv
            have HP1 : Hid (puS t.data.toList = none) := by
              show _ = _
              rw [HPS.out, ha]; simp only [puV, hv]
            clear ha hv hhex hdg hnd
            go_wp2_with (go_at_call 97; refine (Tryz.internal_strconv_lower _ _).mono ?_; rintro e w' ⟨rfl, rfl⟩)
            all_goals go_ret2
            all_goals exact ⟨HBW.out, .inr ⟨HP1.out, .inr rfl⟩⟩
    · have hkk : k = t.size := by omega
      subst hkk
      have ha := HH.out
      rw [List.drop_of_length_le (by rw [len_list]; omega)] at ha
      have HP1 : Hid (puS t.data.toList = some a.toNat) := by show _ = _; rw [HPS.out, ha]; rfl
      clear HH ha
      have hat : a = ((a.toNat : Nat) : Int) := by omega
      have HAT := Lib.hid hat
      clear hat
      go_wp2
      go_ret2
      exact ⟨HBW.out, .inl ⟨a.toNat, HP1.out, by omega, by rw [← HAT.out]; rfl⟩⟩
end Go.Proofs.YtjjgjadfnongfaaGreatDoor
