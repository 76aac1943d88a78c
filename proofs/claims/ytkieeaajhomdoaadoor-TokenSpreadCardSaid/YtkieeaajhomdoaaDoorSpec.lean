import Derived.Lib.Strings
set_option linter.unusedVariables false
set_option linter.unusedSimpArgs false
namespace Go.Proofs.YtkieeaajhomdoaaDoor
/-! The document's tokens, over lists of bytes. -/
def isLetter (c : UInt8) : Bool := (decide (97 ≤ c.toNat) && decide (c.toNat ≤ 122)) || (decide (65 ≤ c.toNat) && decide (c.toNat ≤ 90))
def isDigit (c : UInt8) : Bool := decide (48 ≤ c.toNat) && decide (c.toNat ≤ 57)
def isInside (c : UInt8) : Bool := isLetter c || isDigit c
def isHex (c : UInt8) : Bool := isDigit c || (decide (65 ≤ c.toNat) && decide (c.toNat ≤ 70))
def isBlank (c : UInt8) : Bool := c.toNat == 9 || c.toNat == 10 || c.toNat == 13 || c.toNat == 32
def isPlain (c : UInt8) : Bool := decide (32 ≤ c.toNat) && c.toNat != 34
def hexDig (c : UInt8) : Nat := if c.toNat ≤ 57 then c.toNat - 48 else c.toNat - 55
def numVal (base : Nat) (l : List UInt8) : Nat := l.foldl (fun n c => n * base + hexDig c) 0
def run (p : UInt8 → Bool) (l : List UInt8) : Nat := (l.takeWhile p).length
structure Tok where
  kind : Int
  text : List UInt8
  n : Int
  at_ : Int
  deriving DecidableEq
def keyText : List UInt8 := [65, 82, 82, 65, 89, 32, 66, 69, 71, 73, 78, 32, 66, 89, 32, 67, 65, 83, 69, 32, 67, 79, 78, 83, 84, 32, 68, 73, 86, 32, 68, 79, 32, 69, 76, 83, 69, 32, 69, 76, 83, 73, 70, 32, 69, 78, 68, 32, 70, 65, 76, 83, 69, 32, 70, 79, 82, 32, 73, 70, 32, 73, 77, 80, 79, 82, 84, 32, 73, 78, 32, 73, 83, 32, 77, 79, 68, 32, 77, 79, 68, 85, 76, 69, 32, 78, 73, 76, 32, 79, 70, 32, 79, 82, 32, 80, 79, 73, 78, 84, 69, 82, 32, 80, 82, 79, 67, 69, 68, 85, 82, 69, 32, 82, 69, 67, 79, 82, 68, 32, 82, 69, 80, 69, 65, 84, 32, 82, 69, 84, 85, 82, 78, 32, 84, 72, 69, 78, 32, 84, 79, 32, 84, 82, 85, 69, 32, 84, 89, 80, 69, 32, 85, 78, 84, 73, 76, 32, 86, 65, 82, 32, 87, 72, 73, 76, 69]
def keyList : List (List UInt8) := [[65, 82, 82, 65, 89], [66, 69, 71, 73, 78], [66, 89], [67, 65, 83, 69], [67, 79, 78, 83, 84], [68, 73, 86], [68, 79], [69, 76, 83, 69], [69, 76, 83, 73, 70], [69, 78, 68], [70, 65, 76, 83, 69], [70, 79, 82], [73, 70], [73, 77, 80, 79, 82, 84], [73, 78], [73, 83], [77, 79, 68], [77, 79, 68, 85, 76, 69], [78, 73, 76], [79, 70], [79, 82], [80, 79, 73, 78, 84, 69, 82], [80, 82, 79, 67, 69, 68, 85, 82, 69], [82, 69, 67, 79, 82, 68], [82, 69, 80, 69, 65, 84], [82, 69, 84, 85, 82, 78], [84, 72, 69, 78], [84, 79], [84, 82, 85, 69], [84, 89, 80, 69], [85, 78, 84, 73, 76], [86, 65, 82], [87, 72, 73, 76, 69]]
def signText : List UInt8 := [58, 61, 32, 46, 46, 32, 60, 61, 32, 62, 61, 32, 43, 32, 45, 32, 42, 32, 47, 32, 38, 32, 126, 32, 46, 32, 44, 32, 59, 32, 124, 32, 40, 32, 91, 32, 123, 32, 94, 32, 61, 32, 35, 32, 60, 32, 62, 32, 58, 32, 41, 32, 93, 32, 125]
def signList : List (List UInt8) := [[58, 61], [46, 46], [60, 61], [62, 61], [43], [45], [42], [47], [38], [126], [46], [44], [59], [124], [40], [91], [123], [94], [61], [35], [60], [62], [58], [41], [93], [125]]
/-- How many bytes a comment has, from some depth on. -/
def cmt : List UInt8 → Int → Option Nat
  | 40 :: 42 :: r, d => (cmt r (d + 1)).map (2 + ·)
  | 42 :: 41 :: r, d => if d - 1 = 0 then some 2 else (cmt r (d - 1)).map (2 + ·)
  | _ :: r, d => (cmt r d).map (1 + ·)
  | [], _ => none
/-- A number's token, or an error. -/
def numTok (l : List UInt8) : Except Int (Tok × Nat) :=
  let n := run isHex l
  let d := l.take n
  if l[n]? = some 72 then
    if numVal 16 d < 4294967296 then .ok (⟨3, [], if numVal 16 d < 2147483648 then numVal 16 d else (numVal 16 d : Int) - 4294967296, 0⟩, n + 1) else .error 91
  else if l[n]? = some 88 then
    if numVal 16 d < 256 then .ok (⟨4, [], numVal 16 d, 0⟩, n + 1) else .error 91
  else if run isDigit d < n ∨ (l[n]? = some 46 ∧ l[n + 1]? ≠ some 46) then .error 90
  else if numVal 10 d < 2147483648 then .ok (⟨3, [], numVal 10 d, 0⟩, n) else .error 91
def wordTok (w : List UInt8) : Except Int Tok :=
  if w ∈ keyList then .ok ⟨2, w, 0, 0⟩ else if 24 < w.length then .error 2 else .ok ⟨1, w, 0, 0⟩
/-- A text between signs; l: what is behind the first. -/
def textTok (l : List UInt8) : Except Int (Tok × Nat) :=
  let n := run isPlain l
  if l[n]? = some 34 then (if 64 < n then .error 2 else .ok (⟨5, l.take n, 0, 0⟩, n + 2)) else .error 90
def signTok (l : List UInt8) : Except Int (Tok × Nat) :=
  match signList.find? (fun w => w.isPrefixOf l) with
  | some w => .ok (⟨6, w, 0, 0⟩, w.length)
  | none => .error 90
/-- The token at a text's beginning. -/
def tok (l : List UInt8) : Except Int (Tok × Nat) :=
  match l with
  | [] => .error 90
  | c :: r => if isLetter c then (wordTok (l.take (run isInside l))).map fun t => (t, run isInside l)
    else if isDigit c then numTok l
    else if c = 34 then textTok r
    else signTok l
/-- The tokens of a text; an error with its place. -/
def lexF : Nat → List UInt8 → Nat → List Tok → Except (Int × Int) (List Tok)
  | 0, _, _, _ => .error (0, 0)
  | f + 1, l, at_, acc =>
    match l with
    | [] => .ok acc
    | c :: r =>
      if isBlank c then lexF f r (at_ + 1) acc
      else if [40, 42].isPrefixOf l then
        match cmt l 0 with
        | none => .error (at_, 90)
        | some n => lexF f (l.drop n) (at_ + n) acc
      else match tok l with
        | .error e => .error (at_, e)
        | .ok (t, n) => if acc.length = 6000 then .error (at_, 3) else lexF f (l.drop n) (at_ + n) (acc ++ [{ t with at_ := at_ }])
def lex (l : List UInt8) : Except (Int × Int) (List Tok) := if 16384 < l.length then .error (0, 2) else lexF (l.length + 1) l 0 []

/-! ### small laws -/
theorem run_le (p : UInt8 → Bool) (l : List UInt8) : run p l ≤ l.length := (List.takeWhile_sublist p).length_le
theorem run_cons_pos {p : UInt8 → Bool} {c : UInt8} (h : p c = true) (l : List UInt8) : run p (c :: l) = run p l + 1 := by simp [run, h]
theorem run_cons_neg {p : UInt8 → Bool} {c : UInt8} (h : p c = false) (l : List UInt8) : run p (c :: l) = 0 := by simp [run, h]
/-- Where a run ends. -/
theorem run_eq {p : UInt8 → Bool} : ∀ {l : List UInt8} {k : Nat}, k ≤ l.length → (∀ c ∈ l.take k, p c = true) → (∀ h : k < l.length, p l[k] = false) → run p l = k
  | [], 0, _, _, _ => rfl
  | [], k + 1, h, _, _ => by simp at h
  | c :: l, 0, _, _, h => run_cons_neg (h (by simp)) l
  | c :: l, k + 1, hk, ha, hb => by
    rw [run_cons_pos (ha c (by simp))]
    congr 1
    exact run_eq (by simpa using hk) (fun x hx => ha x (by simp [hx])) (fun h => hb (by simpa using h))
theorem run_lt_stop {p : UInt8 → Bool} : ∀ {l : List UInt8} (h : run p l < l.length), p l[run p l] = false
  | [], h => by simp [run] at h
  | c :: l, h => by
    cases hc : p c with
    | true =>
      have e := run_cons_pos hc l
      have h' : run p l < l.length := by rw [e] at h; simpa using h
      have := run_lt_stop h'
      simp only [e]
      simpa using this
    | false =>
      have e := run_cons_neg hc l
      simp only [e]
      simpa using hc
theorem run_take_all {p : UInt8 → Bool} : ∀ {l : List UInt8}, ∀ c ∈ l.take (run p l), p c = true
  | [], c, h => by simp at h
  | d :: l, c, h => by
    cases hd : p d with
    | true =>
      rw [run_cons_pos hd] at h
      simp only [List.take_succ_cons, List.mem_cons] at h
      rcases h with rfl | h
      · exact hd
      · exact run_take_all c h
    | false => rw [run_cons_neg hd] at h; simp at h
theorem keyList_len : keyList.length = 33 := rfl
theorem keyList_small : ∀ k ∈ keyList, k.length ≤ 9 := by decide
theorem signList_len : signList.length = 26 := rfl
end Go.Proofs.YtkieeaajhomdoaaDoor
