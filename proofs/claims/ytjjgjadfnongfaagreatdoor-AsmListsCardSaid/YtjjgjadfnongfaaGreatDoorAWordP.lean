import Derived.Test.YtjjgjadfnongfaaGreatDoorALineP
import Derived.Lib.AtoiAll
import Derived.Lib.Split
set_option linter.unusedVariables false
set_option linter.unusedSimpArgs false
namespace Go.Proofs.YtjjgjadfnongfaaGreatDoor
/-! Lines back to words, over bytes. -/
def idxL (l : List (List UInt8)) (s : List UInt8) : Int := if l.idxOf s < l.length then (l.idxOf s : Int) else -1
def memsL : List (List UInt8) := [[76, 68, 82], [76, 68, 66], [83, 84, 82], [83, 84, 66]]
def strip (c : UInt8) (s : List UInt8) : List UInt8 × Bool := if s.getLast? = some c then (s.dropLast, true) else (s, false)
/-- What a name stands for, by the reference. -/
def partsR (name : List UInt8) : Option Ins :=
  if 0 ≤ idxL memsL name then some ⟨2, decide (1 < idxL memsL name), decide (idxL memsL name % 2 = 1), 0, 0, 0, 0, 0⟩
  else if (Lib.cut name [46]).2.2 = true then
    (if 0 ≤ idxL condsL (Lib.cut name [46]).2.1 ∧ ((Lib.cut name [46]).1 = [66] ∨ (Lib.cut name [46]).1 = [66, 76]) then
      some ⟨3, false, decide ((Lib.cut name [46]).1 = [66, 76]), idxL condsL (Lib.cut name [46]).2.1, 0, 0, 0, 0⟩ else none)
  else if 0 ≤ idxL opsL (strip 39 (strip 34 name).1).1 then
    some ⟨0, (strip 39 (strip 34 name).1).2, (strip 34 name).2, 0, 0, 0, idxL opsL (strip 39 (strip 34 name).1).1, 0⟩
  else none
def isDig (c : UInt8) : Bool := decide (48 ≤ c.toNat) && decide (c.toNat ≤ 57)
def valD (l : List UInt8) : Int := l.foldl (fun a c => 10 * a + ((c.toNat : Int) - 48)) 0
/-- A number, by the reference. -/
def numV (s : List UInt8) : Int × Bool :=
  if s.head? = some 45 then
    (if s.length - 1 < 1 ∨ 9 < s.length - 1 ∨ (s.drop 1).all isDig = false then (0, false) else (-valD (s.drop 1), decide (Lib.itoa (-valD (s.drop 1)) = s)))
  else (if s.length < 1 ∨ 9 < s.length ∨ s.all isDig = false then (0, false) else (valD s, decide (Lib.itoa (valD s) = s)))
def regV (s : List UInt8) : Int × Bool :=
  if s.length < 2 ∨ s.head? ≠ some 82 then (0, false)
  else ((numV (s.drop 1)).1, (numV (s.drop 1)).2 && (decide (0 ≤ (numV (s.drop 1)).1) && decide ((numV (s.drop 1)).1 ≤ 15)))
/-- The operands, by the reference. -/
def restR (x : Ins) (rest : List UInt8) : Option Ins :=
  if x.form = 3 then
    (if (regV rest).2 = false ∧ (numV rest).2 = false then none
     else some { x with c := (regV rest).1, im := if (regV rest).2 = true then 0 else (numV rest).1, u := !(regV rest).2 })
  else
    let q := Lib.cut rest [44, 32]
    let r := Lib.cut q.2.1 [44, 32]
    if (regV q.1).2 = false ∨ (regV r.1).2 = false ∨ ((regV r.2.1).2 = false ∧ (numV r.2.1).2 = false) ∨ ((regV r.2.1).2 = true ∧ x.form = 2) then none
    else if (regV r.2.1).2 = true then some { x with a := (regV q.1).1, b := (regV r.1).1, c := (regV r.2.1).1 }
    else some { x with a := (regV q.1).1, b := (regV r.1).1, im := (numV r.2.1).1, form := if x.form = 0 then 1 else x.form }
def parseR (s : List UInt8) : Option Ins :=
  if 60 < s.length then none
  else match partsR (Lib.cut s [32]).1 with
  | none => none
  | some x => if (Lib.cut s [32]).2.2 = true then restR x (Lib.cut s [32]).2.1 else none
/-- The word of a line out of what it was read as. -/
def wordOf (p : Option Ins) (s : List UInt8) : Int × Int :=
  match p with
  | none => (0, 60)
  | some x => if (encW x).2 = 0 ∧ lineW (encW x).1 = (s, 0) then ((encW x).1, 0) else (0, 60)
/-! The program's. -/
structure Shp where
  form : Int
  op : Int
  u : Bool
  v : Bool
  deriving DecidableEq
def marksL : List (List UInt8 × Bool × Bool) := [([], false, false), ([39], true, false), ([34], false, true), ([39, 34], true, true)]
def rangeI (l : List (List UInt8)) : List (Int × List UInt8) := l.zipIdx.map fun p => ((p.2 : Int), p.1)
def tableP : List (Shp × List UInt8) :=
  ((rangeI opsL).flatMap fun p => marksL.map fun m => ((⟨0, p.1, m.2.1, m.2.2⟩ : Shp), p.2 ++ m.1)) ++
  [((⟨2, 0, false, false⟩ : Shp), [76, 68, 82]), (⟨2, 0, true, false⟩, [83, 84, 82]), (⟨2, 0, false, true⟩, [76, 68, 66]), (⟨2, 0, true, true⟩, [83, 84, 66])] ++
  ((rangeI condsL).flatMap fun p => [((⟨3, p.1, false, false⟩ : Shp), [66, 46] ++ p.2), (⟨3, p.1, false, true⟩, [66, 76, 46] ++ p.2)])
def shapeOf (x : Ins) : Shp := if x.form = 3 then ⟨3, x.a, false, x.v⟩ else if x.form = 2 then ⟨2, 0, x.u, x.v⟩ else ⟨0, x.op, x.u, x.v⟩
def opnd (s : List UInt8) : Int × Bool × Bool :=
  match Lib.atoiAll (Lib.trimPrefix s [82]) with
  | .ok v => (v, Lib.hasPrefix s [82], true)
  | _ => (0, Lib.hasPrefix s [82], false)
def finP (k : Shp) (l : List Int) (last : Bool) : Option Ins :=
  if k.form = 3 ∧ l.length = 1 then some ⟨3, !last, k.v, k.op, 0, if last then l.getD 0 0 else 0, 0, if last then 0 else l.getD 0 0⟩
  else if k.form ≠ 3 ∧ l.length = 3 then
    some ⟨if k.form = 0 ∧ last = false then 1 else k.form, k.u, k.v, l.getD 0 0, l.getD 1 0, if last then l.getD 2 0 else 0, k.op, if last then 0 else l.getD 2 0⟩
  else none
def restP (k : Shp) (parts : List (List UInt8)) : Option Ins :=
  if (parts.all fun p => (opnd p).2.2) = true then finP k (parts.map fun p => (opnd p).1) ((parts.map fun p => (opnd p).2.1).getLastD false) else none
def findP (name : List UInt8) : Option Shp := (tableP.find? fun p => p.2 = name).map (·.1)
def parseP (s : List UInt8) : Option Ins :=
  if 40 < s.length then none
  else match findP (Lib.cut s [32]).1 with
  | none => none
  | some k => restP k (Lib.split (Lib.cut s [32]).2.1 [44, 32])
/-! ### searching -/
theorem index_at (p r t : List UInt8) (c : UInt8) (h : c ∉ p) : Lib.index (p ++ (c :: t ++ r)) (c :: t) = p.length := by
  refine Lib.index_first (by simp) ?_ ?_
  · unfold Lib.occAt
    rw [List.drop_left, List.isPrefixOf_iff_prefix]
    exact ⟨r, rfl⟩
  · intro j hj
    cases e : Lib.occAt (p ++ (c :: t ++ r)) (c :: t) j with
    | false => rfl
    | true =>
      have := Lib.occAt_head rfl e
      rw [List.getElem?_append_left hj] at this
      exact absurd (List.mem_of_getElem? this) h
theorem cut_at (p r t : List UInt8) (c : UInt8) (h : c ∉ p) : Lib.cut (p ++ (c :: t ++ r)) (c :: t) = (p, r, true) := by
  unfold Lib.cut
  rw [index_at p r t c h, if_pos (by omega), Int.toNat_natCast, List.take_left, ← List.drop_drop, List.drop_left, List.drop_left]
theorem index_no (s t : List UInt8) (c : UInt8) (h : c ∉ s) : Lib.index s (c :: t) = -1 := by
  rcases Lib.index_spec s (c :: t) with ⟨h1, -⟩ | ⟨i, h1, h2, h3, -⟩
  · exact h1
  · exact absurd (List.mem_of_getElem? (Lib.occAt_head rfl h3)) h
/-! ### numerals -/
theorem decDigits_dig (n : Nat) : ∀ b ∈ Lib.decDigits n, isDig b = true := by
  induction n using Nat.strongRecOn with
  | _ n ih =>
    intro b hb
    rw [Lib.decDigits] at hb
    have key : ∀ m, m < 10 → isDig (UInt8.ofNat (48 + m)) = true := by
      intro m hm
      have : (UInt8.ofNat (48 + m)).toNat = 48 + m := by rw [UInt8.toNat_ofNat']; omega
      simp [isDig, this]; omega
    split at hb
    · rename_i h
      rw [List.mem_singleton] at hb
      rw [hb]; exact key n h
    · rename_i h
      rcases List.mem_append.1 hb with hb | hb
      · exact ih (n / 10) (by omega) b hb
      · rw [List.mem_singleton] at hb
        rw [hb]; exact key _ (by omega)
theorem valD_snoc (l : List UInt8) (c : UInt8) : valD (l ++ [c]) = 10 * valD l + ((c.toNat : Int) - 48) := by simp [valD]
theorem digit_toNat (m : Nat) (h : m < 10) : ((UInt8.ofNat (48 + m)).toNat : Int) - 48 = m := by
  have : (UInt8.ofNat (48 + m)).toNat = 48 + m := by rw [UInt8.toNat_ofNat']; omega
  rw [this]; omega
theorem valD_dec (n : Nat) : valD (Lib.decDigits n) = n := by
  induction n using Nat.strongRecOn with
  | _ n ih =>
    rw [Lib.decDigits]
    split
    · rename_i h
      have := digit_toNat n h
      simp [valD]
      simpa using this
    · rename_i h
      rw [valD_snoc, ih (n / 10) (by omega), digit_toNat (n % 10) (by omega)]
      omega
theorem dec_len_le : ∀ (k n : Nat), n < 10 ^ (k + 1) → (Lib.decDigits n).length ≤ k + 1 := by
  intro k
  induction k with
  | zero => intro n h; rw [Lib.decDigits, dif_pos (by simpa using h)]; simp
  | succ k ih =>
    intro n h
    rw [Lib.decDigits]
    split
    · simp
    · rw [List.length_append]
      have := ih (n / 10) (by rw [Nat.pow_succ] at h; omega)
      simp only [List.length_cons, List.length_nil]
      omega
theorem dec_pos (n : Nat) : 1 ≤ (Lib.decDigits n).length := by
  rw [Lib.decDigits]; split <;> simp
theorem dec_head (n : Nat) : ∃ c r, Lib.decDigits n = c :: r ∧ isDig c = true := by
  cases h : Lib.decDigits n with
  | nil => have := dec_pos n; rw [h] at this; simp at this
  | cons c r => exact ⟨c, r, rfl, decDigits_dig n c (by rw [h]; simp)⟩
theorem isDig_ne {c : UInt8} (h : isDig c = true) : c ≠ 45 ∧ c ≠ 43 ∧ c ≠ 82 ∧ c ≠ 44 ∧ c ≠ 32 := by
  simp only [isDig, Bool.and_eq_true, decide_eq_true_eq] at h
  refine ⟨?_, ?_, ?_, ?_, ?_⟩ <;> (rintro rfl; simp at h)
theorem numV_itoa (n : Int) (h0 : -1000000000 < n) (h1 : n < 1000000000) : numV (Lib.itoa n) = (n, true) := by
  by_cases hn : n < 0
  · have e : Lib.itoa n = 45 :: Lib.decDigits n.natAbs := by rw [Lib.itoa, if_pos hn]
    have hl := dec_len_le 8 n.natAbs (by show n.natAbs < 1000000000; omega)
    have hp := dec_pos n.natAbs
    have ha : (Lib.decDigits n.natAbs).all isDig = true := List.all_eq_true.2 (decDigits_dig _)
    have hv := valD_dec n.natAbs
    have hneg : -(n.natAbs : Int) = n := by omega
    have e' : Lib.itoa (-valD (Lib.decDigits n.natAbs)) = Lib.itoa n := by rw [hv, hneg]
    unfold numV
    rw [e]
    rw [if_pos (show (45 :: Lib.decDigits n.natAbs).head? = some 45 from rfl)]
    simp only [List.drop_succ_cons, List.drop_zero, List.length_cons]
    rw [if_neg (by rw [ha]; rintro (h | h | h) <;> first | omega | cases h), e', hv, hneg, e]
    simp
  · have e : Lib.itoa n = Lib.decDigits n.toNat := by rw [Lib.itoa, if_neg hn]
    obtain ⟨c, r, hc, hd⟩ := dec_head n.toNat
    have hl := dec_len_le 8 n.toNat (by show n.toNat < 1000000000; omega)
    have hp := dec_pos n.toNat
    have ha : (Lib.decDigits n.toNat).all isDig = true := List.all_eq_true.2 (decDigits_dig _)
    have hv := valD_dec n.toNat
    have hpos : (n.toNat : Int) = n := by omega
    have e' : Lib.itoa (valD (Lib.decDigits n.toNat)) = Lib.itoa n := by rw [hv, hpos]
    unfold numV
    rw [e, if_neg (by rw [hc]; simp; exact (isDig_ne hd).1), if_neg (by rw [ha]; rintro (h | h | h) <;> first | omega | cases h), e', hv, hpos, e]
    simp
theorem regV_regL (n : Int) (h0 : 0 ≤ n) (h1 : n ≤ 15) : regV (regL n) = (n, true) := by
  have := numV_itoa n (by omega) (by omega)
  have hp : 1 ≤ (Lib.itoa n).length := by
    unfold Lib.itoa
    split
    · simp
    · exact dec_pos _
  unfold regV regL
  rw [if_neg (by simp; omega)]
  simp only [List.drop_succ_cons, List.drop_zero]
  rw [this]
  simp [h0, h1]
theorem itoa_mem {n : Int} {b : UInt8} (h : b ∈ Lib.itoa n) : b ≠ 44 ∧ b ≠ 32 ∧ b ≠ 82 := by
  unfold Lib.itoa at h
  split at h
  · rcases List.mem_cons.1 h with rfl | h
    · decide
    · have := isDig_ne (decDigits_dig _ b h); exact ⟨this.2.2.2.1, this.2.2.2.2, this.2.2.1⟩
  · have := isDig_ne (decDigits_dig _ b h); exact ⟨this.2.2.2.1, this.2.2.2.2, this.2.2.1⟩
theorem regL_mem {n : Int} {b : UInt8} (h : b ∈ regL n) : b ≠ 44 ∧ b ≠ 32 := by
  rcases List.mem_cons.1 h with rfl | h
  · decide
  · exact ⟨(itoa_mem h).1, (itoa_mem h).2.1⟩
theorem itoa_head (n : Int) : (Lib.itoa n).head? ≠ some 82 ∧ 1 ≤ (Lib.itoa n).length := by
  unfold Lib.itoa
  split
  · exact ⟨by simp, by simp⟩
  · obtain ⟨c, r, hc, hd⟩ := dec_head n.toNat
    rw [hc]
    exact ⟨by simp; exact (isDig_ne hd).2.2.1, by simp⟩
theorem regV_itoa (n : Int) : (regV (Lib.itoa n)) = (0, false) := by
  unfold regV; rw [if_pos (.inr (itoa_head n).1)]
theorem numV_regL (n : Int) : numV (regL n) = (0, false) := by
  unfold numV regL
  rw [if_neg (by simp)]
  rw [if_pos (.inr (.inr (by simp [isDig])))]
theorem uint_snoc (c : UInt8) : ∀ (l : List UInt8) (acc : Nat), Lib.parseUint10 acc (l ++ [c]) = match Lib.parseUint10 acc l with
    | .ok u => Lib.parseUint10 u [c]
    | .syntax => .syntax
    | .range => .range
  | [], acc => by simp [Lib.parseUint10]
  | d :: l, acc => by
    simp only [List.cons_append, Lib.parseUint10]
    split
    · split
      · rfl
      · split
        · rfl
        · exact uint_snoc c l _
    · rfl
theorem uint_dec (n : Nat) (h : n < 18446744073709551616) : Lib.parseUint10 0 (Lib.decDigits n) = .ok n := by
  induction n using Nat.strongRecOn with
  | _ n ih =>
    have key : ∀ m, m < 10 → (UInt8.ofNat (48 + m)).toNat = 48 + m := by
      intro m hm; rw [UInt8.toNat_ofNat']; omega
    rw [Lib.decDigits]
    split
    · rename_i hlt
      simp only [Lib.parseUint10, key n hlt]
      rw [if_pos (by omega), if_neg (by omega), if_neg (by omega)]
      congr 1; omega
    · rename_i hge
      rw [uint_snoc, ih (n / 10) (by omega) (by omega)]
      simp only [Lib.parseUint10, key (n % 10) (by omega)]
      rw [if_pos (by omega), if_neg (by omega), if_neg (by omega)]
      congr 1; omega
theorem atoi_itoa (n : Int) (h0 : -9223372036854775808 ≤ n) (h1 : n ≤ 9223372036854775807) : Lib.atoiAll (Lib.itoa n) = .ok n := by
  by_cases hn : n < 0
  · have e : Lib.itoa n = 45 :: Lib.decDigits n.natAbs := by rw [Lib.itoa, if_pos hn]
    have hm : Lib.parseMag (Lib.decDigits n.natAbs) = .ok n.natAbs := by
      unfold Lib.parseMag
      rw [if_neg (by intro e; have := dec_pos n.natAbs; rw [e] at this; simp at this), uint_dec _ (by omega)]
    rw [e]
    unfold Lib.atoiAll
    simp only
    rw [if_pos (.inr (by decide)), hm]
    simp only
    rw [if_neg (by simp), if_neg (by simp; omega)]
    simp
    omega
  · have e : Lib.itoa n = Lib.decDigits n.toNat := by rw [Lib.itoa, if_neg hn]
    obtain ⟨c, r, hc, hd⟩ := dec_head n.toNat
    have hne := isDig_ne hd
    have n45 : ¬ c.toNat = 45 := fun h => hne.1 (UInt8.toNat_inj.1 h)
    have n43 : ¬ c.toNat = 43 := fun h => hne.2.1 (UInt8.toNat_inj.1 h)
    have hm : Lib.parseMag (Lib.decDigits n.toNat) = .ok n.toNat := by
      unfold Lib.parseMag
      rw [if_neg (by intro e; have := dec_pos n.toNat; rw [e] at this; simp at this), uint_dec _ (by omega)]
    rw [hc] at hm
    rw [e, hc]
    unfold Lib.atoiAll
    simp only
    rw [if_neg (by omega), hm]
    simp only
    rw [if_neg (by omega), if_neg (by omega), if_neg n45]
    congr 1; omega
theorem opnd_regL (n : Int) (h0 : 0 ≤ n) (h1 : n ≤ 15) : opnd (regL n) = (n, true, true) := by
  have e : Lib.trimPrefix (regL n) [82] = Lib.itoa n := by simp [Lib.trimPrefix, Lib.hasPrefix, regL]
  have e2 : Lib.hasPrefix (regL n) [82] = true := by simp [Lib.hasPrefix, regL]
  unfold opnd
  rw [e, atoi_itoa n (by omega) (by omega), e2]
theorem opnd_itoa (n : Int) (h0 : -9223372036854775808 ≤ n) (h1 : n ≤ 9223372036854775807) : opnd (Lib.itoa n) = (n, false, true) := by
  have e2 : Lib.hasPrefix (Lib.itoa n) [82] = false := by
    have := (itoa_head n).1
    cases h : Lib.itoa n with
    | nil => rfl
    | cons c r =>
      rw [h] at this
      simp only [List.head?_cons, ne_eq, Option.some.injEq] at this
      simp [Lib.hasPrefix, List.isPrefixOf]
      exact fun e => this e.symm
  have e : Lib.trimPrefix (Lib.itoa n) [82] = Lib.itoa n := by simp [Lib.trimPrefix, e2]
  unfold opnd
  rw [e, atoi_itoa n h0 h1, e2]
end Go.Proofs.YtjjgjadfnongfaaGreatDoor
