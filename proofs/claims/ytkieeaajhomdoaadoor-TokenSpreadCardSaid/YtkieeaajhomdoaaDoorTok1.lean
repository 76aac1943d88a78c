import Derived.Test.YtkieeaajhomdoaaDoorBegun
set_option linter.unusedVariables false
set_option linter.unusedSimpArgs false
namespace Go.Proofs.YtkieeaajhomdoaaDoor
open Go.RowKit Go.Maps Go.MapKept
/-- What a function that only computes comes to: a value, and nothing that was there has turned. -/
def Gives (v : Value) (w : World) (e : Ending) (w' : World) : Prop := e = .returned v ∧ Below w.heap.size w w'
theorem tab_letter (c : UInt8) : inR letterR c.toNat = isLetter c := by simp [inR, letterR, isLetter]
theorem tab_inside (c : UInt8) : inR insideR c.toNat = isInside c := by simp [inR, insideR, isInside, isLetter, isDigit, Bool.or_assoc]
theorem tab_digit (c : UInt8) : inR digitR c.toNat = isDigit c := by simp [inR, digitR, isDigit]
theorem tab_hex (c : UInt8) : inR hexR c.toNat = isHex c := by simp [inR, hexR, isHex, isDigit]
set_option maxRecDepth 100000 in
set_option maxHeartbeats 800000 in
theorem run_any (s : ByteArray) (b : Nat) (f : Nat → Bool) (p : UInt8 → Bool) (hp : ∀ c : UInt8, f c.toNat = p c) (w : World) (hs : s.size ≤ 140737488351232) (hb : w.heap[b]? = some (.cells (tabA f) 108 (0, 0))) :
    Calls Tryd.prog 41 #[.string s, .pointer (some ⟨b, 0, none⟩)] w (Gives (.int .i64 (run p s.data.toList : Nat)) w) := by
  have HC := Lib.hid hb
  clear hb
  have HP := Lib.hid hp
  clear hp
  go_enter Tryd.func41, Tryd.ntmps41
  go_wp2
  go_loopw [5] (fun i wr => ∃ k : Nat, k ≤ s.size ∧ i = .int .i64 k ∧ Hid (∀ c ∈ s.data.toList.take k, p c = true) ∧ ∃ n, wr = w.drewN n) (fun i _ => s.size - (intOf i).toNat)
  case atStart => exact ⟨0, Nat.zero_le _, rfl, fun c hc => by simp at hc, 0, rfl⟩
  case round =>
    obtain ⟨k, hk, rfl, HT, n, rfl⟩ := hrel
    by_cases hlt : k < s.size
    · have hcell : w.cell? ⟨b, s[k].toNat, none⟩ = some (.bool (f s[k].toNat)) := by
        rw [cell_of_block HC.out, tabA_get _ _ (UInt8.toNat_lt _)]
      have hlt' : (k : Int) < (s.size : Int) := by omega
      have hd : decide ((k : Int) < (s.size : Int)) = true := by simpa using hlt
      have hb : ((s[k].toNat : Nat) : Int) < 256 := by have := UInt8.toNat_lt s[k]; omega
      go_wp2
      go_quiet (fail)
      go_wp2
      · rename_i hf
        go_roundw
        case rel =>
          refine ⟨k + 1, by omega, by go_num, ?_, _, rfl⟩
          intro c hc
          rw [take_snoc s k hlt, List.mem_append] at hc
          rcases hc with hc | hc
          · exact HT.out c hc
          · simp at hc; subst hc; rw [← HP.out]; assumption
        case measure => simp [intOf]; omega
      · have hf : f s[k].toNat = false := by assumption
        have hr : run p s.data.toList = k := run_eq (by rw [len_list]; exact hk) HT.out (fun h => by rw [get_list s k hlt, ← HP.out]; exact hf)
        go_ret
        exact ⟨by rw [hr]; rfl, (bdrew _ _ _).trans (bdrew _ _ _)⟩
    · have hd : decide ((k : Int) < (s.size : Int)) = false := by simpa using hlt
      have hr : run p s.data.toList = k := run_eq (by rw [len_list]; exact hk) HT.out (fun h => by rw [len_list] at h; omega)
      have HR := Lib.hid hr
      clear hr
      go_wp2
      go_quiet (fail)
      go_wp2
      go_ret
      exact ⟨by rw [HR.out]; rfl, (bdrew _ _ _).trans (bdrew _ _ _)⟩

theorem cmt_one {l : List UInt8} {c : UInt8} {r : List UInt8} {d : Int} (h : l = c :: r) (h1 : ∀ x, r.head? = some x → ¬ (c = 40 ∧ x = 42)) (h2 : ∀ x, r.head? = some x → ¬ (c = 42 ∧ x = 41)) : cmt l d = (cmt r d).map (1 + ·) := by
  subst h
  rw [cmt.eq_def]
  split
  · rename_i r' e
    simp only [List.cons.injEq] at e
    obtain ⟨rfl, rfl⟩ := e
    exact absurd ⟨rfl, rfl⟩ (h1 42 rfl)
  · rename_i r' e
    simp only [List.cons.injEq] at e
    obtain ⟨rfl, rfl⟩ := e
    exact absurd ⟨rfl, rfl⟩ (h2 41 rfl)
  · rename_i e
    simp only [List.cons.injEq] at e
    obtain ⟨rfl, rfl⟩ := e
    rfl
  · rename_i e
    simp at e
theorem cmt_short {l : List UInt8} {d : Int} (h : l.length ≤ 1) : cmt l d = none := by
  match l, h with
  | [], _ => rfl
  | [c], _ => rw [cmt_one rfl (by simp) (by simp)]; rfl
theorem cmt_at (s : ByteArray) (k : Nat) (h : k + 1 < s.size) (d : Int) : cmt (s.data.toList.drop k) d =
    if s[k] = 40 ∧ s[k + 1] = 42 then (cmt (s.data.toList.drop (k + 2)) (d + 1)).map (2 + ·)
    else if s[k] = 42 ∧ s[k + 1] = 41 then (if d - 1 = 0 then some 2 else (cmt (s.data.toList.drop (k + 2)) (d - 1)).map (2 + ·))
    else (cmt (s.data.toList.drop (k + 1)) d).map (1 + ·) := by
  rw [drop_cons s k (by omega)]
  by_cases h1 : s[k] = 40 ∧ s[k + 1] = 42
  · rw [if_pos h1, drop_cons s (k + 1) h, h1.1, h1.2]
    rfl
  · rw [if_neg h1]
    by_cases h2 : s[k] = 42 ∧ s[k + 1] = 41
    · rw [if_pos h2, drop_cons s (k + 1) h, h2.1, h2.2]
      rfl
    · rw [if_neg h2]
      refine cmt_one rfl ?_ ?_
      · intro x hx; rw [drop_cons s (k + 1) h] at hx; simp only [List.head?_cons, Option.some.injEq] at hx; subst hx; exact h1
      · intro x hx; rw [drop_cons s (k + 1) h] at hx; simp only [List.head?_cons, Option.some.injEq] at hx; subst hx; exact h2
theorem two_beq (s : ByteArray) (k : Nat) (h : k + 1 < s.size) (a b : UInt8) : ((s.extract k (k + 2)).toList == [a, b]) = decide (s[k] = a ∧ s[k + 1] = b) := by
  rw [two_of s k h, Bool.eq_iff_iff]
  simp
theorem map_add (o : Option Nat) (k j : Nat) : (o.map (j + ·)).map (k + ·) = o.map (k + j + ·) := by
  cases o <;> simp [Nat.add_assoc]
set_option maxRecDepth 100000 in
set_option maxHeartbeats 800000 in
theorem comment_any (s : ByteArray) (w : World) (hs : s.size ≤ 140737488351232) :
    Calls Tryd.prog 22 #[.string s] w (Gives (.int .i64 ((cmt s.data.toList 0).getD 0 : Nat)) w) := by
  go_enter Tryd.func22, Tryd.ntmps22
  go_wp2
  go_loop [3, 4] (fun o i => ∃ k : Nat, ∃ d : Int, k ≤ s.size ∧ i = .int .i64 k ∧ o = .int .i64 d ∧ -(k:Int) ≤ d ∧ d ≤ (k:Int) ∧ Hid (cmt s.data.toList 0 = (cmt (s.data.toList.drop k) d).map (k + ·))) (fun _ i => s.size - (intOf i).toNat)
  case atStart => exact ⟨0, 0, Nat.zero_le _, rfl, rfl, by omega, by omega, by simp [Hid]⟩
  case round =>
    obtain ⟨k, d, hk, rfl, rfl, hd1, hd2, HT⟩ := hrel
    by_cases hlt : k + 1 < s.size
    · have HC := Lib.hid (cmt_at s k hlt d)
      have T1 := Lib.hid (two_beq s k hlt 40 42)
      have T2 := Lib.hid (two_beq s k hlt 42 41)
      go_wp2
      · rename_i h1
        rw [T1.out] at h1
        have h1 := of_decide_eq_true h1
        go_round
        case rel =>
          refine ⟨k + 2, d + 1, by omega, by go_num, rfl, by omega, by omega, ?_⟩
          show _ = _
          rw [HT.out, HC.out, if_pos h1, map_add]
        case measure => simp [intOf]; omega
      · have h1 : ((s.extract k (k + 2)).toList == [40, 42]) = false := by assumption
        have h2 : ((s.extract k (k + 2)).toList == [42, 41]) = true := by assumption
        have h3 : (d - 1 == 0) = true := by assumption
        rw [T1.out] at h1
        rw [T2.out] at h2
        have e : cmt s.data.toList 0 = some (k + 2) := by
          rw [HT.out, HC.out, if_neg (of_decide_eq_false h1), if_pos (of_decide_eq_true h2), if_pos (by simpa using h3)]; rfl
        go_ret
        exact ⟨by rw [e]; rfl, Below.refl _ _⟩
      · have h1 : ((s.extract k (k + 2)).toList == [40, 42]) = false := by assumption
        have h2 : ((s.extract k (k + 2)).toList == [42, 41]) = true := by assumption
        have h3 : (d - 1 == 0) = false := by assumption
        rw [T1.out] at h1
        rw [T2.out] at h2
        go_round
        case rel =>
          refine ⟨k + 2, d - 1, by omega, by go_num, rfl, by omega, by omega, ?_⟩
          show _ = _
          rw [HT.out, HC.out, if_neg (of_decide_eq_false h1), if_pos (of_decide_eq_true h2), if_neg (by simpa using h3), map_add]
        case measure => simp [intOf]; omega
      · have h1 : ((s.extract k (k + 2)).toList == [40, 42]) = false := by assumption
        have h2 : ((s.extract k (k + 2)).toList == [42, 41]) = false := by assumption
        rw [T1.out] at h1
        rw [T2.out] at h2
        go_round
        case rel =>
          refine ⟨k + 1, d, by omega, by go_num, rfl, by omega, by omega, ?_⟩
          show _ = _
          rw [HT.out, HC.out, if_neg (of_decide_eq_false h1), if_neg (of_decide_eq_false h2), map_add]
        case measure => simp [intOf]; omega
    · go_wp2
      have e : cmt s.data.toList 0 = none := by
        rw [HT.out, cmt_short (by rw [List.length_drop, len_list]; omega)]; rfl
      go_ret
      exact ⟨by rw [e]; rfl, Below.refl _ _⟩
end Go.Proofs.YtkieeaajhomdoaaDoor
