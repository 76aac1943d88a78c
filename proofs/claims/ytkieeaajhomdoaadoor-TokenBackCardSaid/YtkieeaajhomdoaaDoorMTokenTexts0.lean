/- Parts of the proof of TokenTexts: Spec, Lib, Of, Shelf, Begun, Tok1, Tok2, Tok3, Num, Tok4, Tok5, Spec2, Lex, Ref1, Ref2, Ref3. -/
import Derived.Lib.Strings
import Derived.Test.YtkieeaajhomdoaaDoorProg
import Derived.WalkKit
import Derived.Deep.QuietTactic
import Derived.BigQuiet
import Derived.Deep.LoopGhost
import Derived.Lib.Hide
import Derived.WalkSpells
import Derived.WalkLawsBesides
import Derived.KernelRfl
import Derived.WalkSmall
import Derived.Shelf.Strings.Builder1
import Derived.Shelf.Strings.Builder2
import Derived.Shelf.Strings.OnBuilder
import Derived.Shelf.Small.Utf8
import Derived.Shelf.Small.Wraps
import Derived.Shelf.Strconv.Itoa0
import Derived.Shelf.Strconv.Itoa1
import Derived.Shelf.LaysM
import Derived.Shelf.Strconv.Itoa2
import Derived.Shelf.Strconv.Itoa3
import Derived.Shelf.Strconv.Clone
import Derived.Shelf.Strconv.SyntaxError
import Derived.Shelf.LaysC
import Derived.Shelf.Strconv.ToError
import Derived.Shelf.Strconv.Lower
import Derived.Shelf.Strconv.RangeError
import Derived.Shelf.Strconv.ToErrorRange
import Derived.Shelf.Strings.Search1
import Derived.Shelf.Strings.Search2
import Derived.Shelf.Strings.Search3
import Derived.Shelf.Strings.Cut
import Derived.Shelf.Strings.Count
import Derived.Shelf.Strings.Shaped
import Derived.Shelf.Strings.Prefix
import Derived.Shelf.Strings.Split
import Derived.Shelf.Strings.Fields
import Derived.Shelf.Strings.SplitShaped
import Derived.Shelf.Unicode.Latin
import Derived.Shelf.Unicode.DecodeSlow
import Derived.Shelf.Unicode.Is16White
import Derived.Shelf.Unicode.IsSpaceAny
import Derived.Shelf.Unicode.CaseLookup
import Derived.Shelf.Unicode.CaseConvert
import Derived.Shelf.Unicode.CaseTo
import Derived.Shelf.Unicode.CaseLaid
import Derived.Shelf.Unicode.Is16Any
import Derived.Shelf.Unicode.Is32Any
import Derived.Shelf.Unicode.ExclAny
import Derived.Maps.Own
import Derived.Maps.OwnOps
import Derived.Maps.Views
import Derived.Lib.SmallJoins
import Derived.Lib.ConvBytes
import Derived.Laws.Strings3
import Derived.Laws.Closers25
import Derived.Laws.Closers25b
import Derived.Deep.RegionWith
import Derived.BigRegion
set_option linter.unusedVariables false
set_option linter.unusedSimpArgs false
namespace Go.Proofs.YtkieeaajhomdoaaDoor
/-! The document's tokens, over lists of bytes. -/
def isLetter (c : UInt8) : Bool := (decide (97 ≤ c.toNat) && decide (c.toNat ≤ 122)) || (decide (65 ≤ c.toNat) && decide (c.toNat ≤ 90))
def isDigit (c : UInt8) : Bool := decide (48 ≤ c.toNat) && decide (c.toNat ≤ 57)
def isInside (c : UInt8) : Bool := isLetter c || isDigit c
def isHex (c : UInt8) : Bool := isDigit c || (decide (65 ≤ c.toNat) && decide (c.toNat ≤ 70))
def isBlank (c : UInt8) : Bool := c.toNat == 9 || c.toNat == 10 || c.toNat == 13 || c.toNat == 32
def isPlain (c : UInt8) : Bool := decide (32 ≤ c.toNat) && c.toNat != 34
def hexDig (c : UInt8) : Nat := if c.toNat ≤ 57 then c.toNat - 48 else c.toNat - 55
def numVal (base : Nat) (l : List UInt8) : Nat := l.foldl (fun n c => n * base + hexDig c) 0
def run (p : UInt8 → Bool) (l : List UInt8) : Nat := (l.takeWhile p).length
structure Tok where
  kind : Int
  text : List UInt8
  n : Int
  at_ : Int
  deriving DecidableEq
def keyText : List UInt8 := [65, 82, 82, 65, 89, 32, 66, 69, 71, 73, 78, 32, 66, 89, 32, 67, 65, 83, 69, 32, 67, 79, 78, 83, 84, 32, 68, 73, 86, 32, 68, 79, 32, 69, 76, 83, 69, 32, 69, 76, 83, 73, 70, 32, 69, 78, 68, 32, 70, 65, 76, 83, 69, 32, 70, 79, 82, 32, 73, 70, 32, 73, 77, 80, 79, 82, 84, 32, 73, 78, 32, 73, 83, 32, 77, 79, 68, 32, 77, 79, 68, 85, 76, 69, 32, 78, 73, 76, 32, 79, 70, 32, 79, 82, 32, 80, 79, 73, 78, 84, 69, 82, 32, 80, 82, 79, 67, 69, 68, 85, 82, 69, 32, 82, 69, 67, 79, 82, 68, 32, 82, 69, 80, 69, 65, 84, 32, 82, 69, 84, 85, 82, 78, 32, 84, 72, 69, 78, 32, 84, 79, 32, 84, 82, 85, 69, 32, 84, 89, 80, 69, 32, 85, 78, 84, 73, 76, 32, 86, 65, 82, 32, 87, 72, 73, 76, 69]
def keyList : List (List UInt8) := [[65, 82, 82, 65, 89], [66, 69, 71, 73, 78], [66, 89], [67, 65, 83, 69], [67, 79, 78, 83, 84], [68, 73, 86], [68, 79], [69, 76, 83, 69], [69, 76, 83, 73, 70], [69, 78, 68], [70, 65, 76, 83, 69], [70, 79, 82], [73, 70], [73, 77, 80, 79, 82, 84], [73, 78], [73, 83], [77, 79, 68], [77, 79, 68, 85, 76, 69], [78, 73, 76], [79, 70], [79, 82], [80, 79, 73, 78, 84, 69, 82], [80, 82, 79, 67, 69, 68, 85, 82, 69], [82, 69, 67, 79, 82, 68], [82, 69, 80, 69, 65, 84], [82, 69, 84, 85, 82, 78], [84, 72, 69, 78], [84, 79], [84, 82, 85, 69], [84, 89, 80, 69], [85, 78, 84, 73, 76], [86, 65, 82], [87, 72, 73, 76, 69]]
def signText : List UInt8 := [58, 61, 32, 46, 46, 32, 60, 61, 32, 62, 61, 32, 43, 32, 45, 32, 42, 32, 47, 32, 38, 32, 126, 32, 46, 32, 44, 32, 59, 32, 124, 32, 40, 32, 91, 32, 123, 32, 94, 32, 61, 32, 35, 32, 60, 32, 62, 32, 58, 32, 41, 32, 93, 32, 125]
def signList : List (List UInt8) := [[58, 61], [46, 46], [60, 61], [62, 61], [43], [45], [42], [47], [38], [126], [46], [44], [59], [124], [40], [91], [123], [94], [61], [35], [60], [62], [58], [41], [93], [125]]
/-- How many bytes a comment has, from some depth on. -/
def cmt : List UInt8 → Int → Option Nat
  | 40 :: 42 :: r, d => (cmt r (d + 1)).map (2 + ·)
  | 42 :: 41 :: r, d => if d - 1 = 0 then some 2 else (cmt r (d - 1)).map (2 + ·)
  | _ :: r, d => (cmt r d).map (1 + ·)
  | [], _ => none
/-- A number's token, or an error. -/
def numTok (l : List UInt8) : Except Int (Tok × Nat) :=
  let n := run isHex l
  let d := l.take n
  if l[n]? = some 72 then
    if numVal 16 d < 4294967296 then .ok (⟨3, [], if numVal 16 d < 2147483648 then numVal 16 d else (numVal 16 d : Int) - 4294967296, 0⟩, n + 1) else .error 91
  else if l[n]? = some 88 then
    if numVal 16 d < 256 then .ok (⟨4, [], numVal 16 d, 0⟩, n + 1) else .error 91
  else if run isDigit d < n ∨ (l[n]? = some 46 ∧ l[n + 1]? ≠ some 46) then .error 90
  else if numVal 10 d < 2147483648 then .ok (⟨3, [], numVal 10 d, 0⟩, n) else .error 91
def wordTok (w : List UInt8) : Except Int Tok :=
  if w ∈ keyList then .ok ⟨2, w, 0, 0⟩ else if 24 < w.length then .error 2 else .ok ⟨1, w, 0, 0⟩
/-- A text between signs; l: what is behind the first. -/
def textTok (l : List UInt8) : Except Int (Tok × Nat) :=
  let n := run isPlain l
  if l[n]? = some 34 then (if 64 < n then .error 2 else .ok (⟨5, l.take n, 0, 0⟩, n + 2)) else .error 90
def signTok (l : List UInt8) : Except Int (Tok × Nat) :=
  match signList.find? (fun w => w.isPrefixOf l) with
  | some w => .ok (⟨6, w, 0, 0⟩, w.length)
  | none => .error 90
/-- The token at a text's beginning. -/
def tok (l : List UInt8) : Except Int (Tok × Nat) :=
  match l with
  | [] => .error 90
  | c :: r => if isLetter c then (wordTok (l.take (run isInside l))).map fun t => (t, run isInside l)
    else if isDigit c then numTok l
    else if c = 34 then textTok r
    else signTok l
/-- The tokens of a text; an error with its place. -/
def lexF : Nat → List UInt8 → Nat → List Tok → Except (Int × Int) (List Tok)
  | 0, _, _, _ => .error (0, 0)
  | f + 1, l, at_, acc =>
    match l with
    | [] => .ok acc
    | c :: r =>
      if isBlank c then lexF f r (at_ + 1) acc
      else if [40, 42].isPrefixOf l then
        match cmt l 0 with
        | none => .error (at_, 90)
        | some n => lexF f (l.drop n) (at_ + n) acc
      else match tok l with
        | .error e => .error (at_, e)
        | .ok (t, n) => if acc.length = 6000 then .error (at_, 3) else lexF f (l.drop n) (at_ + n) (acc ++ [{ t with at_ := at_ }])
def lex (l : List UInt8) : Except (Int × Int) (List Tok) := if 16384 < l.length then .error (0, 2) else lexF (l.length + 1) l 0 []

/-! ### small laws -/
theorem run_le (p : UInt8 → Bool) (l : List UInt8) : run p l ≤ l.length := (List.takeWhile_sublist p).length_le
theorem run_cons_pos {p : UInt8 → Bool} {c : UInt8} (h : p c = true) (l : List UInt8) : run p (c :: l) = run p l + 1 := by simp [run, h]
theorem run_cons_neg {p : UInt8 → Bool} {c : UInt8} (h : p c = false) (l : List UInt8) : run p (c :: l) = 0 := by simp [run, h]
/-- Where a run ends. -/
theorem run_eq {p : UInt8 → Bool} : ∀ {l : List UInt8} {k : Nat}, k ≤ l.length → (∀ c ∈ l.take k, p c = true) → (∀ h : k < l.length, p l[k] = false) → run p l = k
  | [], 0, _, _, _ => rfl
  | [], k + 1, h, _, _ => by simp at h
  | c :: l, 0, _, _, h => run_cons_neg (h (by simp)) l
  | c :: l, k + 1, hk, ha, hb => by
    rw [run_cons_pos (ha c (by simp))]
    congr 1
    exact run_eq (by simpa using hk) (fun x hx => ha x (by simp [hx])) (fun h => hb (by simpa using h))
theorem run_lt_stop {p : UInt8 → Bool} : ∀ {l : List UInt8} (h : run p l < l.length), p l[run p l] = false
  | [], h => by simp [run] at h
  | c :: l, h => by
    cases hc : p c with
    | true =>
      have e := run_cons_pos hc l
      have h' : run p l < l.length := by rw [e] at h; simpa using h
      have := run_lt_stop h'
      simp only [e]
      simpa using this
    | false =>
      have e := run_cons_neg hc l
      simp only [e]
      simpa using hc
theorem run_take_all {p : UInt8 → Bool} : ∀ {l : List UInt8}, ∀ c ∈ l.take (run p l), p c = true
  | [], c, h => by simp at h
  | d :: l, c, h => by
    cases hd : p d with
    | true =>
      rw [run_cons_pos hd] at h
      simp only [List.take_succ_cons, List.mem_cons] at h
      rcases h with rfl | h
      · exact hd
      · exact run_take_all c h
    | false => rw [run_cons_neg hd] at h; simp at h
theorem keyList_len : keyList.length = 33 := rfl
theorem keyList_small : ∀ k ∈ keyList, k.length ≤ 9 := by decide
theorem signList_len : signList.length = 26 := rfl
end Go.Proofs.YtkieeaajhomdoaaDoor
set_option linter.unusedVariables false
set_option linter.unusedSimpArgs false
namespace Go.Proofs.YtkieeaajhomdoaaDoor
open Go.RowKit

/-! ### bytes -/
theorem extract_mk (s : ByteArray) (a b : Nat) : s.extract a b = ⟨((s.data.toList.drop a).take (b - a)).toArray⟩ := by
  apply ByteArray.ext
  apply Array.ext'
  rw [ByteArray.data_extract]
  simp [List.extract_eq_take_drop]
theorem extract_list (s : ByteArray) (a b : Nat) : (s.extract a b).data.toList = (s.data.toList.drop a).take (b - a) := by
  rw [extract_mk]
theorem extract_toList (s : ByteArray) (a b : Nat) : (s.extract a b).toList = (s.data.toList.drop a).take (b - a) := by
  rw [ByteArray.toList_eq, extract_list]
theorem len_list (s : ByteArray) : s.data.toList.length = s.size := Array.length_toList
theorem get_list (s : ByteArray) (k : Nat) (h : k < s.size) : s.data.toList[k]'(by rw [len_list]; exact h) = s[k] := rfl
theorem drop_cons (s : ByteArray) (k : Nat) (h : k < s.size) : s.data.toList.drop k = s[k] :: s.data.toList.drop (k + 1) := by
  rw [List.drop_eq_getElem_cons (by rw [len_list]; exact h), get_list _ _ h]
theorem drop_nil (s : ByteArray) (k : Nat) (h : s.size ≤ k) : s.data.toList.drop k = [] := List.drop_of_length_le (by rw [len_list]; exact h)
theorem take_snoc (s : ByteArray) (k : Nat) (h : k < s.size) : s.data.toList.take (k + 1) = s.data.toList.take k ++ [s[k]] := by
  rw [List.take_succ_eq_append_getElem (by simpa using h)]; rfl
theorem two_of (s : ByteArray) (k : Nat) (h : k + 1 < s.size) : (s.extract k (k + 2)).toList = [s[k], s[k + 1]] := by
  rw [extract_toList, drop_cons s k (by omega), drop_cons s (k + 1) h]
  have : k + 2 - k = 2 := by omega
  rw [this]; rfl

/-! ### worlds -/
theorem cell_of_block {w : World} {b : Nat} {cs : Array Value} {T : TypeId} {fz : Nat × Nat} (h : w.heap[b]? = some (.cells cs T fz)) (c : Nat) : w.cell? ⟨b, c, none⟩ = cs[c]? := by
  simp [World.cell?, h]
theorem frozen_of_block {w : World} {b : Nat} {cs : Array Value} {T : TypeId} (h : w.heap[b]? = some (.cells cs T (0, 0))) (c : Nat) : w.frozen? ⟨b, c, none⟩ = false := by
  simp [World.frozen?, h]
theorem setCell_block {w : World} {b : Nat} {cs : Array Value} {T : TypeId} {fz : Nat × Nat} (h : w.heap[b]? = some (.cells cs T fz)) (c : Nat) (v : Value) :
    (w.setCell ⟨b, c, none⟩ v).heap[b]? = some (.cells (cs.setIfInBounds c v) T fz) := by
  simp [World.setCell, Array.getElem?_modify, h]
theorem alloc_block (w : World) (o : Obj) : (w.alloc o).heap[w.heap.size]? = some o := by
  show (w.heap.push o)[w.heap.size]? = _
  simp
theorem alloc_old {w : World} {o o' : Obj} {b : Nat} (h : w.heap[b]? = some o) : (w.alloc o').heap[b]? = some o := by
  rw [Below.heap_alloc _ _ _ (Array.getElem?_eq_some_iff.1 h).1]; exact h
theorem below_block {w w' : World} {B b : Nat} {o : Obj} (hb : Below B w w') (hB : b < B) (h : w.heap[b]? = some o) : w'.heap[b]? = some o := (hb.block b hB).trans h
theorem block_lt {w : World} {b : Nat} {o : Obj} (h : w.heap[b]? = some o) : b < w.heap.size := (Array.getElem?_eq_some_iff.1 h).1
theorem bthen {w w1 w2 : World} (h : Below w.heap.size w w1) (k : Below w1.heap.size w1 w2) : Below w.heap.size w w2 := h.trans (k.mono h.size)

theorem bcell {W w1 : World} (hb : Below W.heap.size W w1) : (∀ b o, b < W.heap.size → w1.cell? ⟨b, o, none⟩ = W.cell? ⟨b, o, none⟩) ∧ (∀ b o, b < W.heap.size → w1.frozen? ⟨b, o, none⟩ = W.frozen? ⟨b, o, none⟩) :=
  ⟨fun b o h => hb.cell (p := ⟨b, o, none⟩) h, fun b o h => hb.frozen (p := ⟨b, o, none⟩) h⟩
theorem bdrew (B : Nat) (w : World) (n : Nat) : Below B w (w.drewN n) := ⟨rfl, rfl, rfl, Nat.le_refl _, fun _ _ => rfl⟩

/-! ### the lexer's tables -/
def tabA (f : Nat → Bool) : Array Value := Array.ofFn (n := 256) fun i => .bool (f i)
theorem tabA_get (f : Nat → Bool) (c : Nat) (h : c < 256) : (tabA f)[c]? = some (.bool (f c)) := by simp [tabA, h]
theorem tabA_set (f : Nat → Bool) (c : Nat) (h : c < 256) : (tabA f).setIfInBounds c (.bool true) = tabA (fun i => f i || decide (i = c)) := by
  apply Array.ext
  · simp [tabA]
  · intro i h1 h2
    have hi : i < 256 := by simpa [tabA] using h2
    rw [Array.getElem_setIfInBounds (by simpa [tabA] using hi)]
    simp only [tabA, Array.getElem_ofFn]
    by_cases e : c = i
    · simp [e]
    · have : ¬ i = c := fun h => e h.symm
      simp [e, this]
theorem tabA_congr {f g : Nat → Bool} (h : ∀ c, f c = g c) : tabA f = tabA g := by rw [show f = g from funext h]
end Go.Proofs.YtkieeaajhomdoaaDoor
set_option linter.unusedVariables false
set_option linter.unusedSimpArgs false
namespace Go.Proofs.YtkieeaajhomdoaaDoor
open Go.RowKit
theorem zero108 : Tryd.zeroCells108 = tabA (fun _ => false) := by kernel_rfl
def inR (rs : List (UInt8 × UInt8)) (c : Nat) : Bool := rs.any fun r => decide (r.1.toNat ≤ c) && decide (c ≤ r.2.toNat)
def rstr (r : UInt8 × UInt8) : Value := .string ⟨#[r.1, r.2]⟩
/-- A table in memory. -/
def IsTab (w : World) (v : Value) (f : Nat → Bool) : Prop := ∃ b, v = .pointer (some ⟨b, 0, none⟩) ∧ w.heap[b]? = some (.cells (tabA f) 108 (0, 0))
theorem tab_step (a : Bool) (lo hi m c : Nat) (h0 : lo ≤ m) (h1 : m ≤ hi) : (a || (decide (lo ≤ c) && decide (c ≤ hi) && decide (c < m)) || decide (c = m)) = (a || (decide (lo ≤ c) && decide (c ≤ hi) && decide (c < m + 1))) := by
  cases a
  · by_cases e : c = m
    · subst e; simp [h0, h1]
    · have : c < m ↔ c < m + 1 := by omega
      simp [e, this]
  · simp
def AtOf (w : World) (rs : List (UInt8 × UInt8)) (e : Ending) (w' : World) : Prop :=
  ∃ v, e = .returned v ∧ IsTab w' v (inR rs) ∧ Below w.heap.size w w'
set_option maxRecDepth 100000 in
set_option maxHeartbeats 800000 in
theorem of_any (g : Nat) (rs : List (UInt8 × UInt8)) (w : World) (hn : rs.length ≤ 1000) (hg : ∀ i, (h : i < rs.length) → w.cell? ⟨g, i, none⟩ = some (rstr rs[i])) :
    Calls Tryd.prog 38 #[.slice (some ⟨g, 0, none⟩) rs.length rs.length] w (AtOf w rs) := by
  have HG := Lib.hid hg
  clear hg
  go_enter Tryd.func38, Tryd.ntmps38
  go_wp2
  go_loopw [9] (fun i wr => ∃ k : Nat, k ≤ rs.length ∧ i = .int .i64 k ∧ wr.heap[w.heap.size]? = some (.cells (tabA (inR (rs.take k))) 108 (0, 0)) ∧ Below w.heap.size w wr) (fun i _ => rs.length - (intOf i).toNat)
  case atStart => exact ⟨0, Nat.zero_le _, rfl, by rw [alloc_block, zero108]; exact congrArg _ (congrArg (fun x => Obj.cells x _ _) (tabA_congr (by simp [inR]))), (Below.refl _ _).alloc (Nat.le_refl _) _⟩
  case round =>
    obtain ⟨k, hk, rfl, hb, hB⟩ := hrel
    have HB := Lib.hid hb
    clear hb
    by_cases hlt : k < rs.length
    · obtain ⟨s, hse, z1, z3, e0, e1⟩ : ∃ s : ByteArray, rstr rs[k] = .string s ∧ ∃ (h : 1 < s.size) (h' : 0 < s.size), s[0] = rs[k].1 ∧ s[1] = rs[k].2 := ⟨⟨#[rs[k].1, rs[k].2]⟩, rfl, (by decide : 1 < 2), (by decide : 0 < 2), rfl, rfl⟩
      have hcell : wr.cell? ⟨g, k, none⟩ = some (.string s) := by
        have := HG.out k hlt
        rw [hse] at this
        rw [hB.cell (World.block_lt_of_cell? w _ this)]; exact this
      have E0 := Lib.hid e0
      have E1 := Lib.hid e1
      have HS := Lib.hid hse
      have b0 : ((s[0].toNat : Nat) : Int) < 256 := by have := UInt8.toNat_lt s[0]; omega
      have b1 : ((s[1].toNat : Nat) : Int) < 256 := by have := UInt8.toNat_lt s[1]; omega
      have z2 : (1 : Int) < s.size := by omega
      have z4 : (0 : Int) < s.size := by omega
      clear e0 e1 hse
      go_wp2
      obtain ⟨wo, rfl⟩ : ∃ wo : World, wo = wr := ⟨_, rfl⟩
      go_loopw [6] (fun c wi => ∃ m : Nat, c = .int .i64 m ∧ (m ≤ 256) ∧ s[0].toNat ≤ m ∧ wi.heap[w.heap.size]? = some (.cells (tabA (fun c => inR (rs.take k) c || (decide (s[0].toNat ≤ c) && decide (c ≤ s[1].toNat) && decide (c < m)))) 108 (0, 0)) ∧ Below w.heap.size w wi) (fun c _ => 256 - (intOf c).toNat)
      case atStart =>
        refine ⟨s[0].toNat, rfl, by omega, by omega, ?_, hB⟩
        rw [HB.out]
        refine congrArg _ (congrArg (fun x => Obj.cells x _ _) (tabA_congr fun c => ?_))
        rw [show (decide (s[0].toNat ≤ c) && decide (c ≤ s[1].toNat) && decide (c < s[0].toNat)) = false by simp; omega]
        simp
      case round =>
        obtain ⟨m, rfl, hm, hlo, hb2, hB2⟩ := hrel
        have HB2 := Lib.hid hb2
        clear hb2
        by_cases hle : m ≤ s[1].toNat
        · have hmb : m < 256 := by omega
          have hcl : wr.cell? ⟨w.heap.size, m, none⟩ = some (.bool (inR (rs.take k) m || (decide (s[0].toNat ≤ m) && decide (m ≤ s[1].toNat) && decide (m < m)))) := by
            rw [cell_of_block HB2.out, tabA_get _ _ hmb]
          have hfz : wr.frozen? ⟨w.heap.size, m, none⟩ = false := frozen_of_block HB2.out m
          go_wp2
          go_roundw
          case rel =>
            refine ⟨m + 1, by go_num, by omega, by omega, ?_, hB2.setCell (Nat.le_refl _) _⟩
            rw [setCell_block HB2.out, tabA_set _ _ hmb]
            exact congrArg _ (congrArg (fun x => Obj.cells x _ _) (tabA_congr fun c => tab_step _ _ _ _ _ hlo hle))
          case measure => simp [intOf]; omega
        · go_wp2
          go_roundw
          case rel =>
            refine ⟨k + 1, by omega, by go_num, ?_, hB2⟩
            rw [HB2.out]
            refine congrArg _ (congrArg (fun x => Obj.cells x _ _) (tabA_congr fun c => ?_))
            have q0 := E0.out
            have q1 := E1.out
            rw [List.take_succ_eq_append_getElem hlt]
            simp only [inR, List.any_append, List.any_cons, List.any_nil, Bool.or_false, ← q0, ← q1]
            congr 1
            by_cases h1 : c ≤ s[1].toNat
            · have : c < m := by omega
              simp [this]
            · simp [h1]
          case measure => simp [intOf]; omega
    · go_wp2
      go_ret
      refine ⟨_, rfl, ⟨_, rfl, ?_⟩, hB⟩
      have := HB.out
      rwa [List.take_of_length_le (by omega)] at this
end Go.Proofs.YtkieeaajhomdoaaDoor
/-
  DERIVED: THE SHELF's CONTRACTS AT THIS DUMP, IN PLAIN WORDS (tools/lay-plain.mjs out of 'TrydShelf.lean', which tools/lay-shelf.mjs wrote): THE SAME DECLARATIONS UNDER THE SAME NAMES: 'import', 'namespace', 'open', 'def', 'theorem' AND NOTHING ELSE: no command of the shelf's: FOR A HAND-IN. Each laying: the table of numbers ('.._ren') and one theorem, a field a fact of the dump's own or the kernel's comparison; each contract: ONE APPLICATION.
-/
namespace Go.Proofs
open Go.Shelf
def Tryd.laysC245_ren : Go.Shelf.Ren := ⟨fun | 245 => 95 | 279 => 117 | 280 => 118 | 281 => 119 | 282 => 120 | 316 => 138 | 171 => 56 | 205 => 139 | 243 => 78 | 246 => 100 | 283 => 123 | 284 => 124 | 285 => 125 | 286 => 126 | 129 => 141 | 317 => 140 | 318 => 142 | 319 => 143 | 320 => 144 | 337 => 155 | 338 => 156 | n => n, fun | 9 => 9 | 3 => 3 | 75 => 102 | 167 => 162 | 4 => 4 | 168 => 164 | 210 => 183 | 37 => 31 | 0 => 0 | 127 => 134 | 145 => 200 | 143 => 198 | 2 => 2 | 171 => 167 | 53 => 112 | 5 => 5 | 173 => 170 | 212 => 187 | 51 => 36 | 20 => 20 | 213 => 188 | 46 => 117 | 232 => 210 | 233 => 211 | 80 => 105 | n => n, fun | 15 => 3 | 16 => 4 | 17 => 5 | 18 => 9 | 19 => 10 | n => n⟩
theorem Tryd.laysC245 : Go.Proofs.LaysC.n245 Tryd.prog Tryd.laysC245_ren := {
  mixed := by kernel_rfl
  f129 := Tryd.func141.trans (congrArg some (by kernel_rfl))
  f171 := Tryd.func56.trans (congrArg some (by kernel_rfl))
  f205 := Tryd.func139.trans (congrArg some (by kernel_rfl))
  f243 := Tryd.func78.trans (congrArg some (by kernel_rfl))
  f245 := Tryd.func95.trans (congrArg some (by kernel_rfl))
  f246 := Tryd.func100.trans (congrArg some (by kernel_rfl))
  f279 := Tryd.func117.trans (congrArg some (by kernel_rfl))
  f280 := Tryd.func118.trans (congrArg some (by kernel_rfl))
  f281 := Tryd.func119.trans (congrArg some (by kernel_rfl))
  f282 := Tryd.func120.trans (congrArg some (by kernel_rfl))
  f283 := Tryd.func123.trans (congrArg some (by kernel_rfl))
  f284 := Tryd.func124.trans (congrArg some (by kernel_rfl))
  f285 := Tryd.func125.trans (congrArg some (by kernel_rfl))
  f286 := Tryd.func126.trans (congrArg some (by kernel_rfl))
  f316 := Tryd.func138.trans (congrArg some (by kernel_rfl))
  f317 := Tryd.func140.trans (congrArg some (by kernel_rfl))
  f318 := Tryd.func142.trans (congrArg some (by kernel_rfl))
  f319 := Tryd.func143.trans (congrArg some (by kernel_rfl))
  f320 := Tryd.func144.trans (congrArg some (by kernel_rfl))
  f337 := Tryd.func155.trans (congrArg some (by kernel_rfl))
  f338 := Tryd.func156.trans (congrArg some (by kernel_rfl))
  t0 := Tryd.underlying0
  a0 := Tryd.isAgg0
  z0 := Tryd.sizeOf0
  v0 := Tryd.zeroValue0
  t2 := Tryd.underlying2
  a2 := Tryd.isAgg2
  z2 := Tryd.sizeOf2
  v2 := Tryd.zeroValue2
  t3 := Tryd.underlying3
  a3 := Tryd.isAgg3
  z3 := Tryd.sizeOf3
  v3 := Tryd.zeroValue3
  t4 := Tryd.underlying4
  a4 := Tryd.isAgg4
  z4 := Tryd.sizeOf4
  v4 := Tryd.zeroValue4
  t5 := Tryd.underlying5
  a5 := Tryd.isAgg5
  z5 := Tryd.sizeOf5
  v5 := Tryd.zeroValue5
  t9 := Tryd.underlying9
  a9 := Tryd.isAgg9
  z9 := Tryd.sizeOf9
  v9 := Tryd.zeroValue9
  t20 := Tryd.underlying20
  a20 := Tryd.isAgg20
  z20 := Tryd.sizeOf20
  v20 := Tryd.zeroValue20
  t37 := Tryd.underlying31
  a37 := Tryd.isAgg31
  z37 := Tryd.sizeOf31
  v37 := Tryd.zeroValue31
  t46 := Tryd.underlying117
  a46 := Tryd.isAgg117
  z46 := Tryd.sizeOf117
  v46 := Tryd.zeroValue117
  t51 := Tryd.underlying36
  a51 := Tryd.isAgg36
  z51 := Tryd.sizeOf36
  v51 := Tryd.zeroValue36
  t53 := Tryd.underlying112
  a53 := Tryd.isAgg112
  z53 := Tryd.sizeOf112
  v53 := Tryd.zeroValue112
  t75 := Tryd.underlying102
  a75 := Tryd.isAgg102
  z75 := Tryd.sizeOf102
  v75 := Tryd.zeroValue102
  t127 := Tryd.underlying134
  a127 := Tryd.isAgg134
  z127 := Tryd.sizeOf134
  v127 := Tryd.zeroValue134
  t143 := Tryd.underlying198
  a143 := Tryd.isAgg198
  z143 := Tryd.sizeOf198
  v143 := Tryd.zeroValue198
  t145 := Tryd.underlying200
  a145 := Tryd.isAgg200
  z145 := Tryd.sizeOf200
  v145 := Tryd.zeroValue200
  t167 := Tryd.underlying162
  a167 := Tryd.isAgg162
  z167 := Tryd.sizeOf162
  v167 := Tryd.zeroValue162
  t168 := Tryd.underlying164
  a168 := Tryd.isAgg164
  z168 := Tryd.sizeOf164
  v168 := Tryd.zeroValue164
  t171 := Tryd.underlying167
  a171 := Tryd.isAgg167
  z171 := Tryd.sizeOf167
  v171 := Tryd.zeroValue167
  t173 := Tryd.underlying170
  a173 := Tryd.isAgg170
  z173 := Tryd.sizeOf170
  v173 := Tryd.zeroValue170
  t210 := Tryd.underlying183
  a210 := Tryd.isAgg183
  z210 := Tryd.sizeOf183
  v210 := Tryd.zeroValue183
  t212 := Tryd.underlying187
  a212 := Tryd.isAgg187
  z212 := Tryd.sizeOf187
  v212 := Tryd.zeroValue187
  t213 := Tryd.underlying188
  a213 := Tryd.isAgg188
  z213 := Tryd.sizeOf188
  t232 := Tryd.underlying210
  a232 := Tryd.isAgg210
  z232 := Tryd.sizeOf210
  v232 := Tryd.zeroValue210
  t233 := Tryd.underlying211
  a233 := Tryd.isAgg211
  z233 := Tryd.sizeOf211
  v233 := Tryd.zeroValue211
  g15 := by kernel_rfl
  g16 := by kernel_rfl
  g17 := by kernel_rfl
  g18 := by kernel_rfl
  g19 := by kernel_rfl
  t80 := Tryd.underlying105
  a80 := Tryd.isAgg105
  z80 := Tryd.sizeOf105
  v80 := Tryd.zeroValue105
  i0 := by kernel_rfl
  i2 := by kernel_rfl
  i3 := by kernel_rfl
  i4 := by kernel_rfl
  i5 := by kernel_rfl
  i9 := by kernel_rfl
  i20 := by kernel_rfl
  i37 := by kernel_rfl
  i46 := by kernel_rfl
  i51 := by kernel_rfl
  i53 := by kernel_rfl
  i75 := by kernel_rfl
  i80 := by kernel_rfl
  i127 := by kernel_rfl
  i143 := by kernel_rfl
  i145 := by kernel_rfl
  i167 := by kernel_rfl
  i168 := by kernel_rfl
  i171 := by kernel_rfl
  i173 := by kernel_rfl
  i210 := by kernel_rfl
  i212 := by kernel_rfl
  i232 := by kernel_rfl
  i233 := by kernel_rfl
  m15 := by kernel_rfl
  m16 := by kernel_rfl
  m17 := by kernel_rfl
  m18 := by kernel_rfl
  m19 := by kernel_rfl
  c0 := by kernel_rfl
  c2 := by kernel_rfl
  c3 := by kernel_rfl
  c4 := by kernel_rfl
  c5 := by kernel_rfl
  c9 := by kernel_rfl
  c20 := by kernel_rfl
  c37 := by kernel_rfl
  c46 := by kernel_rfl
  c51 := by kernel_rfl
  c53 := by kernel_rfl
  c75 := by kernel_rfl
  c80 := by kernel_rfl
  c127 := by kernel_rfl
  c143 := by kernel_rfl
  c145 := by kernel_rfl
  c167 := by kernel_rfl
  c168 := by kernel_rfl
  c171 := by kernel_rfl
  c173 := by kernel_rfl
  c210 := by kernel_rfl
  c212 := by kernel_rfl
  c213 := by kernel_rfl
  c232 := by kernel_rfl
  c233 := by kernel_rfl }
def Tryd.lays321_ren : Go.Shelf.Ren := ⟨fun | 321 => 115 | n => n, fun | 5 => 5 | n => n, fun | n => n⟩
theorem Tryd.lays321 : Go.Proofs.Lays.n321 Tryd.prog Tryd.lays321_ren := {
  mixed := by kernel_rfl
  f321 := Tryd.func115.trans (congrArg some (by kernel_rfl))
  t5 := Tryd.underlying5
  a5 := Tryd.isAgg5
  z5 := Tryd.sizeOf5
  v5 := Tryd.zeroValue5 }
open Go.RowKit in
theorem Tryd.internal_strconv_lower (c : Int) (w : World) :
    Calls Tryd.prog 115 #[.int .u8 c] w fun e w' => e = .returned (.int .u8 (bits .or .u8 c 32)) ∧ w' = w := Any.internal_strconv_lower Tryd.lays321 c w
open Go.RowKit in
theorem Tryd.strconv_toError_range (fn s : ByteArray) (base bits : Int) (ev : Value) (w : World) (hlim : s.size ≤ 281474976710656) (hv : w.cell? ⟨4, 0, none⟩ = some ev) (hev : ev = .nilIface ∨ ∃ te pe, ev = .iface te pe) :
    Calls Tryd.prog 95 #[.string fn, .string s, .int .i64 base, .int .i64 bits, .iface 162 (.int .i64 1)] w fun e w' => ∃ N, e = .returned (.iface 164 (.pointer (some ⟨N, 0, none⟩))) ∧ w.heap.size ≤ N ∧ w'.heap[N]? = some (.cells #[.string fn, .string s, ev] 183 (0, 0)) ∧ Below w.heap.size w w' := Any.strconv_toError_range Tryd.laysC245 fn s base bits ev w hlim hv hev
def Tryd.lays99_ren : Go.Shelf.Ren := ⟨fun | 99 => 21 | 206 => 40 | n => n, fun | 9 => 9 | 4 => 4 | 3 => 3 | n => n, fun | n => n⟩
theorem Tryd.lays99 : Go.Proofs.Lays.n99 Tryd.prog Tryd.lays99_ren := {
  mixed := by kernel_rfl
  f99 := Tryd.func21.trans (congrArg some (by kernel_rfl))
  f206 := Tryd.func40.trans (congrArg some (by kernel_rfl))
  t3 := Tryd.underlying3
  a3 := Tryd.isAgg3
  z3 := Tryd.sizeOf3
  v3 := Tryd.zeroValue3
  t4 := Tryd.underlying4
  a4 := Tryd.isAgg4
  z4 := Tryd.sizeOf4
  v4 := Tryd.zeroValue4
  t9 := Tryd.underlying9
  a9 := Tryd.isAgg9
  z9 := Tryd.sizeOf9
  v9 := Tryd.zeroValue9 }
open Go.RowKit Go.Lib in
theorem Tryd.strings_HasPrefix (s p : ByteArray) (w : World) :
    Calls Tryd.prog 21 #[.string s, .string p] w fun e w' => e = .returned (.bool (Lib.hasPrefix s.data.toList p.data.toList)) ∧ w' = w := Any.strings_HasPrefix Tryd.lays99 s p w
def Tryd.lays157_ren : Go.Shelf.Ren := ⟨fun | 157 => 39 | 229 => 69 | 199 => 70 | 261 => 93 | 311 => 113 | 312 => 114 | n => n, fun | 9 => 9 | 31 => 60 | 3 => 3 | 5 => 5 | 4 => 4 | 119 => 109 | 0 => 0 | 40 => 111 | 152 => 135 | 21 => 21 | 154 => 137 | 51 => 36 | 141 => 139 | 196 => 155 | 193 => 152 | 198 => 157 | 49 => 118 | 194 => 153 | 201 => 160 | 226 => 180 | 46 => 117 | 227 => 181 | n => n, fun | 0 => 0 | 6 => 1 | n => n⟩
theorem Tryd.lays157 : Go.Proofs.Lays.n157 Tryd.prog Tryd.lays157_ren := {
  mixed := by kernel_rfl
  f157 := Tryd.func39.trans (congrArg some (by kernel_rfl))
  f199 := Tryd.func70.trans (congrArg some (by kernel_rfl))
  f229 := Tryd.func69.trans (congrArg some (by kernel_rfl))
  f261 := Tryd.func93.trans (congrArg some (by kernel_rfl))
  f311 := Tryd.func113.trans (congrArg some (by kernel_rfl))
  f312 := Tryd.func114.trans (congrArg some (by kernel_rfl))
  t0 := Tryd.underlying0
  a0 := Tryd.isAgg0
  z0 := Tryd.sizeOf0
  v0 := Tryd.zeroValue0
  t3 := Tryd.underlying3
  a3 := Tryd.isAgg3
  z3 := Tryd.sizeOf3
  v3 := Tryd.zeroValue3
  t4 := Tryd.underlying4
  a4 := Tryd.isAgg4
  z4 := Tryd.sizeOf4
  v4 := Tryd.zeroValue4
  t5 := Tryd.underlying5
  a5 := Tryd.isAgg5
  z5 := Tryd.sizeOf5
  v5 := Tryd.zeroValue5
  t9 := Tryd.underlying9
  a9 := Tryd.isAgg9
  z9 := Tryd.sizeOf9
  v9 := Tryd.zeroValue9
  t21 := Tryd.underlying21
  a21 := Tryd.isAgg21
  z21 := Tryd.sizeOf21
  v21 := Tryd.zeroValue21
  t31 := Tryd.underlying60
  a31 := Tryd.isAgg60
  z31 := Tryd.sizeOf60
  v31 := Tryd.zeroValue60
  t40 := Tryd.underlying111
  a40 := Tryd.isAgg111
  z40 := Tryd.sizeOf111
  v40 := Tryd.zeroValue111
  t46 := Tryd.underlying117
  a46 := Tryd.isAgg117
  z46 := Tryd.sizeOf117
  v46 := Tryd.zeroValue117
  t49 := Tryd.underlying118
  a49 := Tryd.isAgg118
  z49 := Tryd.sizeOf118
  v49 := Tryd.zeroValue118
  t51 := Tryd.underlying36
  a51 := Tryd.isAgg36
  z51 := Tryd.sizeOf36
  v51 := Tryd.zeroValue36
  t119 := Tryd.underlying109
  a119 := Tryd.isAgg109
  z119 := Tryd.sizeOf109
  t141 := Tryd.underlying139
  a141 := Tryd.isAgg139
  z141 := Tryd.sizeOf139
  v141 := Tryd.zeroValue139
  t152 := Tryd.underlying135
  a152 := Tryd.isAgg135
  z152 := Tryd.sizeOf135
  v152 := Tryd.zeroValue135
  t154 := Tryd.underlying137
  a154 := Tryd.isAgg137
  z154 := Tryd.sizeOf137
  v154 := Tryd.zeroValue137
  t193 := Tryd.underlying152
  a193 := Tryd.isAgg152
  z193 := Tryd.sizeOf152
  v193 := Tryd.zeroValue152
  t194 := Tryd.underlying153
  a194 := Tryd.isAgg153
  z194 := Tryd.sizeOf153
  v194 := Tryd.zeroValue153
  t196 := Tryd.underlying155
  a196 := Tryd.isAgg155
  z196 := Tryd.sizeOf155
  v196 := Tryd.zeroValue155
  t198 := Tryd.underlying157
  a198 := Tryd.isAgg157
  z198 := Tryd.sizeOf157
  v198 := Tryd.zeroValue157
  t201 := Tryd.underlying160
  a201 := Tryd.isAgg160
  z201 := Tryd.sizeOf160
  v201 := Tryd.zeroValue160
  t226 := Tryd.underlying180
  a226 := Tryd.isAgg180
  z226 := Tryd.sizeOf180
  v226 := Tryd.zeroValue180
  t227 := Tryd.underlying181
  a227 := Tryd.isAgg181
  z227 := Tryd.sizeOf181
  v227 := Tryd.zeroValue181
  g0 := by kernel_rfl
  g6 := by kernel_rfl }
open Go.RowKit Go.Lib in
theorem Tryd.strings_Fields (s : ByteArray) (w : World) (hs : s.size < 4294967281) (hascii : ∀ (j : Nat) b, s.data.toList[j]? = some b → b.toNat < 128) (htab : Lib.TabIs Tryd.prog w "strings.asciiSpace" .u8 Lib.asciiSpaceTab) :
    Calls Tryd.prog 39 #[.string s] w fun e w' =>
      e = .returned (.slice (some ⟨w.heap.size, 0, none⟩) (Lib.fields s.data.toList).length (Lib.fields s.data.toList).length) ∧ w' = w.alloc (.cells ((Lib.fields s.data.toList).map fun l => Value.string ⟨l.toArray⟩).toArray 9) := Any.strings_Fields Tryd.lays157 (by kernel_rfl) (by kernel_rfl) s w hs hascii htab
end Go.Proofs
set_option linter.unusedVariables false
set_option linter.unusedSimpArgs false
namespace Go.Proofs.YtkieeaajhomdoaaDoor
open Go.RowKit Go.Maps Go.MapKept
def letterR : List (UInt8 × UInt8) := [(97, 122), (65, 90)]
def insideR : List (UInt8 × UInt8) := [(97, 122), (65, 90), (48, 57)]
def digitR : List (UInt8 × UInt8) := [(48, 57)]
def hexR : List (UInt8 × UInt8) := [(48, 57), (65, 70)]
set_option maxRecDepth 100000 in
theorem fields_keyText : Lib.fields keyText = keyList := by decide +kernel
set_option maxRecDepth 100000 in
theorem fields_signText : Lib.fields signText = signList := by decide +kernel
def keysD (l : List (List UInt8)) : DataW Unit := l.foldl (fun D k => D.put (.string k) (.lit (.int .i64 1))) (.map [])
theorem keysD_snoc (l : List (List UInt8)) (k : List UInt8) : keysD (l ++ [k]) = (keysD l).put (.string k) (.lit (.int .i64 1)) := by simp [keysD]
theorem law_string : Keyed Tryd.prog 9 := string_keyed Tryd.underlying9
/-- A fact that the walk doesn't look into. -/
structure Aside (p : Prop) : Prop where mk :: (out : p)
/-- A row of texts. -/
def textsRow (l : List (List UInt8)) : Array Value := (l.map fun l => Value.string ⟨l.toArray⟩).toArray
theorem textsRow_get (l : List (List UInt8)) (i : Nat) (h : i < l.length) : (textsRow l)[i]? = some (.string ⟨l[i].toArray⟩) := by
  simp [textsRow, h]
def AtFields (l : List (List UInt8)) (n : Nat) (w : World) (e : Ending) (w' : World) : Prop := e = .returned (.slice (some ⟨w.heap.size, 0, none⟩) n n) ∧ w' = w.alloc (.cells (textsRow l) 9)
set_option maxRecDepth 100000 in
theorem keyText_short : keyText.length < 1000 := by decide
set_option maxRecDepth 100000 in
theorem fields_any (s : List UInt8) (l : List (List UInt8)) (hl : Lib.fields s = l) (n : Nat) (hn : l.length = n) (hs : s.length < 1000) (ha : ∀ b ∈ s, b.toNat < 128) (w : World) (htab : Lib.TabIs Tryd.prog w "strings.asciiSpace" .u8 Lib.asciiSpaceTab) :
    Calls Tryd.prog 39 #[.string ⟨s.toArray⟩] w (AtFields l n w) := by
  refine (Tryd.strings_Fields _ w (by show s.toArray.size < _; simp; omega) ?_ htab).mono ?_
  · intro j b hb
    exact ha b (List.mem_of_getElem? (by simpa using hb))
  · rintro e w' ⟨rfl, rfl⟩
    have e1 : Lib.fields (⟨s.toArray⟩ : ByteArray).data.toList = l := hl
    exact ⟨by rw [e1, hn], by rw [e1]; rfl⟩
set_option maxRecDepth 100000 in
theorem keyText_ascii : ∀ b ∈ keyText, b.toNat < 128 := by decide
set_option maxRecDepth 100000 in
theorem signText_ascii : ∀ b ∈ signText, b.toNat < 128 := by decide
/-- The lexer, made. -/
def IsLexer (w : World) (v : Value) : Prop := ∃ a b1 b2 b3 b4 m, v = .pointer (some ⟨a, 0, none⟩) ∧
  w.heap[a]? = some (.cells #[.pointer (some ⟨b1, 0, none⟩), .pointer (some ⟨b2, 0, none⟩), .pointer (some ⟨b3, 0, none⟩), .pointer (some ⟨b4, 0, none⟩), .map (some m)] 74 (0, 0)) ∧
  w.heap[b1]? = some (.cells (tabA (inR letterR)) 108 (0, 0)) ∧ w.heap[b2]? = some (.cells (tabA (inR insideR)) 108 (0, 0)) ∧
  w.heap[b3]? = some (.cells (tabA (inR digitR)) 108 (0, 0)) ∧ w.heap[b4]? = some (.cells (tabA (inR hexR)) 108 (0, 0)) ∧
  w.ownsMap Tryd.prog 9 (plainElem Tryd.prog 3) m 33 (keysD keyList)
def AtBegun (w : World) (e : Ending) (w' : World) : Prop := ∃ v, e = .returned v ∧ IsLexer w' v ∧ Below w.heap.size w w'
theorem grownBy_block {w w' : World} {row : Option Nat} {b : Nat} {o : Obj} (hg : w.grownBy w' row) (h : w.heap[b]? = some o) (hne : some b ≠ row) : w'.heap[b]? = some o :=
  (hg.block b (block_lt h) hne).trans h
set_option maxRecDepth 100000 in
set_option maxHeartbeats 800000 in
theorem begun_any (w : World) (htab : Lib.TabIs Tryd.prog w "strings.asciiSpace" .u8 Lib.asciiSpaceTab) :
    Calls Tryd.prog 20 #[] w (AtBegun w) := by
  have HT := Lib.hid htab
  clear htab
  have hmm := @run_makeMap Tryd.prog
  go_enter Tryd.func20, Tryd.ntmps20
  go_wp2_with fail
  refine (of_any _ letterR _ (by decide) ?_).mono ?_
  · intro i hi
    match i, hi with
    | 0, _ => go_simp; rfl
    | 1, _ => go_simp; rfl
  rintro e w1 ⟨v1, rfl, ⟨b1, rfl, h1⟩, B1⟩
  have H1 := Lib.hid h1
  clear h1
  go_wp2_with fail
  refine (of_any _ insideR _ (by decide) ?_).mono ?_
  · intro i hi
    match i, hi with
    | 0, _ => go_simp; rfl
    | 1, _ => go_simp; rfl
    | 2, _ => go_simp; rfl
  rintro e w2 ⟨v2, rfl, ⟨b2, rfl, h2⟩, B2⟩
  have H2 := Lib.hid h2
  clear h2
  go_wp2_with fail
  refine (of_any _ digitR _ (by decide) ?_).mono ?_
  · intro i hi
    match i, hi with
    | 0, _ => go_simp; rfl
  rintro e w3 ⟨v3, rfl, ⟨b3, rfl, h3⟩, B3⟩
  have H3 := Lib.hid h3
  clear h3
  go_wp2_with fail
  refine (of_any _ hexR _ (by decide) ?_).mono ?_
  · intro i hi
    match i, hi with
    | 0, _ => go_simp; rfl
    | 1, _ => go_simp; rfl
  rintro e w4 ⟨v4, rfl, ⟨b4, rfl, h4⟩, B4⟩
  have H4 := Lib.hid h4
  clear h4
  go_wp2_with fail
  have C1 : Below w.heap.size w w1 := ((Below.refl _ _).alloc (Nat.le_refl _) _).trans (B1.mono (by simp))
  have C2 : Below w1.heap.size w1 w2 := ((Below.refl _ _).alloc (Nat.le_refl _) _).trans (B2.mono (by simp))
  have C3 : Below w2.heap.size w2 w3 := ((Below.refl _ _).alloc (Nat.le_refl _) _).trans (B3.mono (by simp))
  have C4 : Below w3.heap.size w3 w4 := ((Below.refl _ _).alloc (Nat.le_refl _) _).trans (B4.mono (by simp))
  have I1 := Lib.hid (below_block C4 (block_lt (below_block C3 (block_lt (below_block C2 (block_lt H1.out) H1.out)) (below_block C2 (block_lt H1.out) H1.out))) (below_block C3 (block_lt (below_block C2 (block_lt H1.out) H1.out)) (below_block C2 (block_lt H1.out) H1.out)))
  have I2 := Lib.hid (below_block C4 (block_lt (below_block C3 (block_lt H2.out) H2.out)) (below_block C3 (block_lt H2.out) H2.out))
  have I3 := Lib.hid (below_block C4 (block_lt H3.out) H3.out)
  have C : Below w.heap.size w w4 := bthen (bthen (bthen C1 C2) C3) C4
  have T4 := Lib.hid (Joins.tab_stays (g := 0) (by kernel_rfl) HT.out C (Nat.le_refl _))
  clear H1 H2 H3 HT B1 B2 B3 B4 C1 C2 C3 C4
  refine (fields_any keyText keyList fields_keyText 33 rfl keyText_short keyText_ascii _ (Lib.tabIs_alloc (Lib.tabIs_alloc T4.out _) _)).mono ?_
  rintro e w5 ⟨rfl, rfl⟩
  have hne1 : b1 < w4.heap.size := block_lt I1.out
  have hne2 : b2 < w4.heap.size := block_lt I2.out
  have hne3 : b3 < w4.heap.size := block_lt I3.out
  have hne4 : b4 < w4.heap.size := block_lt H4.out
  go_wp2_with fail
  have Z1 := Lib.hid (alloc_old (o' := .cells (textsRow keyList) 9) (alloc_block (w4.alloc (.map #[] 0)) (.cells #[.pointer (some ⟨b1, 0, none⟩), .pointer (some ⟨b2, 0, none⟩), .pointer (some ⟨b3, 0, none⟩), .pointer (some ⟨b4, 0, none⟩), .map (some w4.heap.size)] 74)))
  have Z2 := Lib.hid (alloc_block ((w4.alloc (.map #[] 0)).alloc (.cells #[.pointer (some ⟨b1, 0, none⟩), .pointer (some ⟨b2, 0, none⟩), .pointer (some ⟨b3, 0, none⟩), .pointer (some ⟨b4, 0, none⟩), .map (some w4.heap.size)] 74)) (.cells (textsRow keyList) 9))
  have hs1 : (w4.alloc (.map #[] 0)).heap.size = w4.heap.size + 1 := by simp
  have hs2 : ((w4.alloc (.map #[] 0)).alloc (.cells #[.pointer (some ⟨b1, 0, none⟩), .pointer (some ⟨b2, 0, none⟩), .pointer (some ⟨b3, 0, none⟩), .pointer (some ⟨b4, 0, none⟩), .map (some w4.heap.size)] 74)).heap.size = w4.heap.size + 1 + 1 := by simp
  rw [hs1] at Z1
  rw [hs2] at Z2
  clear hs1 hs2
  go_loopw [17] (fun i wr => ∃ k : Nat, k ≤ 33 ∧ i = .int .i64 k ∧ wr.ownsMap (H := Unit) Tryd.prog 9 (plainElem Tryd.prog 3) w4.heap.size k (keysD (keyList.take k)) ∧
    Hid (wr.heap[w4.heap.size + 1]? = some (.cells #[.pointer (some ⟨b1, 0, none⟩), .pointer (some ⟨b2, 0, none⟩), .pointer (some ⟨b3, 0, none⟩), .pointer (some ⟨b4, 0, none⟩), .map (some w4.heap.size)] 74 (0, 0))) ∧
    Hid (wr.heap[w4.heap.size + 1 + 1]? = some (.cells (textsRow keyList) 9 (0, 0))) ∧ Below w4.heap.size w4 wr) (fun i _ => 33 - (intOf i).toNat)
  case atStart =>
    refine ⟨0, by omega, rfl, ((World.ownsMap_made _ _ _ _).alloc _).alloc _, Z1, Z2, (((Below.refl _ _).alloc (Nat.le_refl _) _).alloc (by simp) _).alloc (by simp; omega) _⟩
  case round =>
    obtain ⟨k, hk, rfl, hown, Y1, Y2, hB⟩ := hrel
    have hown1 : Aside (wr.ownsMap (H := Unit) Tryd.prog 9 (plainElem Tryd.prog 3) w4.heap.size k (keysD (keyList.take k))) := ⟨hown⟩
    clear hown
    by_cases hlt : k < 33
    · obtain ⟨ky, hky⟩ : ∃ ky, keyList[k]'(by rw [keyList_len]; exact hlt) = ky := ⟨_, rfl⟩
      have HKY := Lib.hid hky
      have hcell : wr.cell? ⟨w4.heap.size + 1 + 1, k, none⟩ = some (.string ⟨ky.toArray⟩) := by
        rw [cell_of_block Y2.out, textsRow_get _ _ (by rw [keyList_len]; exact hlt), hky]
      have hmc : wr.cell? ⟨w4.heap.size + 1, 4, none⟩ = some (.map (some w4.heap.size)) := by
        rw [cell_of_block Y1.out]; rfl
      clear hky
      have hkey : Aside (keyOf Tryd.prog 9 (.string ⟨ky.toArray⟩) = some (.string ky)) := ⟨WideMaps.keyOf_string_mk Tryd.underlying9 (by
        show ky.toArray.size ≤ maxLen
        have := keyList_small ky (by rw [← HKY.out]; exact List.getElem_mem _)
        unfold maxLen
        simp; omega)⟩
      go_wp2_with (at_mapUpdate; refine wpList_mapUpdate_own _ rfl _ _ _ 72 rfl 9 3 law_string Tryd.underlying72 _ w4.heap.size k _ rfl hown1.out (by unfold maxLen; omega) _ _ _ rfl rfl hkey.out _ [] (plainElem_int Tryd.underlying3 (by decide)) ?_; intro w1 hown2 hgrow)
      go_roundw
      case rel =>
        refine ⟨k + 1, by omega, by go_num, ?_, grownBy_block hgrow Y1.out (by simp), grownBy_block hgrow Y2.out (by simp; omega), hB.grown hgrow hB.size (by intro k hk; cases hk; omega)⟩
        rw [List.take_succ_eq_append_getElem (by rw [keyList_len]; exact hlt), HKY.out, keysD_snoc]
        exact hown2
      case measure => simp [intOf]; omega
    · go_wp2
      go_ret
      refine ⟨_, rfl, ⟨_, b1, b2, b3, b4, _, rfl, Y1.out, below_block hB (by omega) I1.out, below_block hB (by omega) I2.out, below_block hB (by omega) I3.out, below_block hB (by omega) H4.out, ?_⟩, bthen C hB⟩
      have h33 : k = 33 := by omega
      subst h33
      have := hown1.out
      rwa [List.take_of_length_le (by rw [keyList_len]; omega)] at this
end Go.Proofs.YtkieeaajhomdoaaDoor
set_option linter.unusedVariables false
set_option linter.unusedSimpArgs false
namespace Go.Proofs.YtkieeaajhomdoaaDoor
open Go.RowKit Go.Maps Go.MapKept
/-- What a function that only computes comes to: a value, and nothing that was there has turned. -/
def Gives (v : Value) (w : World) (e : Ending) (w' : World) : Prop := e = .returned v ∧ Below w.heap.size w w'
theorem tab_letter (c : UInt8) : inR letterR c.toNat = isLetter c := by simp [inR, letterR, isLetter]
theorem tab_inside (c : UInt8) : inR insideR c.toNat = isInside c := by simp [inR, insideR, isInside, isLetter, isDigit, Bool.or_assoc]
theorem tab_digit (c : UInt8) : inR digitR c.toNat = isDigit c := by simp [inR, digitR, isDigit]
theorem tab_hex (c : UInt8) : inR hexR c.toNat = isHex c := by simp [inR, hexR, isHex, isDigit]
set_option maxRecDepth 100000 in
set_option maxHeartbeats 800000 in
theorem run_any (s : ByteArray) (b : Nat) (f : Nat → Bool) (p : UInt8 → Bool) (hp : ∀ c : UInt8, f c.toNat = p c) (w : World) (hs : s.size ≤ 140737488351232) (hb : w.heap[b]? = some (.cells (tabA f) 108 (0, 0))) :
    Calls Tryd.prog 41 #[.string s, .pointer (some ⟨b, 0, none⟩)] w (Gives (.int .i64 (run p s.data.toList : Nat)) w) := by
  have HC := Lib.hid hb
  clear hb
  have HP := Lib.hid hp
  clear hp
  go_enter Tryd.func41, Tryd.ntmps41
  go_wp2
  go_loopw [5] (fun i wr => ∃ k : Nat, k ≤ s.size ∧ i = .int .i64 k ∧ Hid (∀ c ∈ s.data.toList.take k, p c = true) ∧ ∃ n, wr = w.drewN n) (fun i _ => s.size - (intOf i).toNat)
  case atStart => exact ⟨0, Nat.zero_le _, rfl, fun c hc => by simp at hc, 0, rfl⟩
  case round =>
    obtain ⟨k, hk, rfl, HT, n, rfl⟩ := hrel
    by_cases hlt : k < s.size
    · have hcell : w.cell? ⟨b, s[k].toNat, none⟩ = some (.bool (f s[k].toNat)) := by
        rw [cell_of_block HC.out, tabA_get _ _ (UInt8.toNat_lt _)]
      have hlt' : (k : Int) < (s.size : Int) := by omega
      have hd : decide ((k : Int) < (s.size : Int)) = true := by simpa using hlt
      have hb : ((s[k].toNat : Nat) : Int) < 256 := by have := UInt8.toNat_lt s[k]; omega
      go_wp2
      go_quiet (fail)
      go_wp2
      · rename_i hf
        go_roundw
        case rel =>
          refine ⟨k + 1, by omega, by go_num, ?_, _, rfl⟩
          intro c hc
          rw [take_snoc s k hlt, List.mem_append] at hc
          rcases hc with hc | hc
          · exact HT.out c hc
          · simp at hc; subst hc; rw [← HP.out]; assumption
        case measure => simp [intOf]; omega
      · have hf : f s[k].toNat = false := by assumption
        have hr : run p s.data.toList = k := run_eq (by rw [len_list]; exact hk) HT.out (fun h => by rw [get_list s k hlt, ← HP.out]; exact hf)
        go_ret
        exact ⟨by rw [hr]; rfl, (bdrew _ _ _).trans (bdrew _ _ _)⟩
    · have hd : decide ((k : Int) < (s.size : Int)) = false := by simpa using hlt
      have hr : run p s.data.toList = k := run_eq (by rw [len_list]; exact hk) HT.out (fun h => by rw [len_list] at h; omega)
      have HR := Lib.hid hr
      clear hr
      go_wp2
      go_quiet (fail)
      go_wp2
      go_ret
      exact ⟨by rw [HR.out]; rfl, (bdrew _ _ _).trans (bdrew _ _ _)⟩

theorem cmt_one {l : List UInt8} {c : UInt8} {r : List UInt8} {d : Int} (h : l = c :: r) (h1 : ∀ x, r.head? = some x → ¬ (c = 40 ∧ x = 42)) (h2 : ∀ x, r.head? = some x → ¬ (c = 42 ∧ x = 41)) : cmt l d = (cmt r d).map (1 + ·) := by
  subst h
  rw [cmt.eq_def]
  split
  · rename_i r' e
    simp only [List.cons.injEq] at e
    obtain ⟨rfl, rfl⟩ := e
    exact absurd ⟨rfl, rfl⟩ (h1 42 rfl)
  · rename_i r' e
    simp only [List.cons.injEq] at e
    obtain ⟨rfl, rfl⟩ := e
    exact absurd ⟨rfl, rfl⟩ (h2 41 rfl)
  · rename_i e
    simp only [List.cons.injEq] at e
    obtain ⟨rfl, rfl⟩ := e
    rfl
  · rename_i e
    simp at e
theorem cmt_short {l : List UInt8} {d : Int} (h : l.length ≤ 1) : cmt l d = none := by
  match l, h with
  | [], _ => rfl
  | [c], _ => rw [cmt_one rfl (by simp) (by simp)]; rfl
theorem cmt_at (s : ByteArray) (k : Nat) (h : k + 1 < s.size) (d : Int) : cmt (s.data.toList.drop k) d =
    if s[k] = 40 ∧ s[k + 1] = 42 then (cmt (s.data.toList.drop (k + 2)) (d + 1)).map (2 + ·)
    else if s[k] = 42 ∧ s[k + 1] = 41 then (if d - 1 = 0 then some 2 else (cmt (s.data.toList.drop (k + 2)) (d - 1)).map (2 + ·))
    else (cmt (s.data.toList.drop (k + 1)) d).map (1 + ·) := by
  rw [drop_cons s k (by omega)]
  by_cases h1 : s[k] = 40 ∧ s[k + 1] = 42
  · rw [if_pos h1, drop_cons s (k + 1) h, h1.1, h1.2]
    rfl
  · rw [if_neg h1]
    by_cases h2 : s[k] = 42 ∧ s[k + 1] = 41
    · rw [if_pos h2, drop_cons s (k + 1) h, h2.1, h2.2]
      rfl
    · rw [if_neg h2]
      refine cmt_one rfl ?_ ?_
      · intro x hx; rw [drop_cons s (k + 1) h] at hx; simp only [List.head?_cons, Option.some.injEq] at hx; subst hx; exact h1
      · intro x hx; rw [drop_cons s (k + 1) h] at hx; simp only [List.head?_cons, Option.some.injEq] at hx; subst hx; exact h2
theorem two_beq (s : ByteArray) (k : Nat) (h : k + 1 < s.size) (a b : UInt8) : ((s.extract k (k + 2)).toList == [a, b]) = decide (s[k] = a ∧ s[k + 1] = b) := by
  rw [two_of s k h, Bool.eq_iff_iff]
  simp
theorem map_add (o : Option Nat) (k j : Nat) : (o.map (j + ·)).map (k + ·) = o.map (k + j + ·) := by
  cases o <;> simp [Nat.add_assoc]
set_option maxRecDepth 100000 in
set_option maxHeartbeats 800000 in
theorem comment_any (s : ByteArray) (w : World) (hs : s.size ≤ 140737488351232) :
    Calls Tryd.prog 22 #[.string s] w (Gives (.int .i64 ((cmt s.data.toList 0).getD 0 : Nat)) w) := by
  go_enter Tryd.func22, Tryd.ntmps22
  go_wp2
  go_loop [3, 4] (fun o i => ∃ k : Nat, ∃ d : Int, k ≤ s.size ∧ i = .int .i64 k ∧ o = .int .i64 d ∧ -(k:Int) ≤ d ∧ d ≤ (k:Int) ∧ Hid (cmt s.data.toList 0 = (cmt (s.data.toList.drop k) d).map (k + ·))) (fun _ i => s.size - (intOf i).toNat)
  case atStart => exact ⟨0, 0, Nat.zero_le _, rfl, rfl, by omega, by omega, by simp [Hid]⟩
  case round =>
    obtain ⟨k, d, hk, rfl, rfl, hd1, hd2, HT⟩ := hrel
    by_cases hlt : k + 1 < s.size
    · have HC := Lib.hid (cmt_at s k hlt d)
      have T1 := Lib.hid (two_beq s k hlt 40 42)
      have T2 := Lib.hid (two_beq s k hlt 42 41)
      go_wp2
      · rename_i h1
        rw [T1.out] at h1
        have h1 := of_decide_eq_true h1
        go_round
        case rel =>
          refine ⟨k + 2, d + 1, by omega, by go_num, rfl, by omega, by omega, ?_⟩
          show _ = _
          rw [HT.out, HC.out, if_pos h1, map_add]
        case measure => simp [intOf]; omega
      · have h1 : ((s.extract k (k + 2)).toList == [40, 42]) = false := by assumption
        have h2 : ((s.extract k (k + 2)).toList == [42, 41]) = true := by assumption
        have h3 : (d - 1 == 0) = true := by assumption
        rw [T1.out] at h1
        rw [T2.out] at h2
        have e : cmt s.data.toList 0 = some (k + 2) := by
          rw [HT.out, HC.out, if_neg (of_decide_eq_false h1), if_pos (of_decide_eq_true h2), if_pos (by simpa using h3)]; rfl
        go_ret
        exact ⟨by rw [e]; rfl, Below.refl _ _⟩
      · have h1 : ((s.extract k (k + 2)).toList == [40, 42]) = false := by assumption
        have h2 : ((s.extract k (k + 2)).toList == [42, 41]) = true := by assumption
        have h3 : (d - 1 == 0) = false := by assumption
        rw [T1.out] at h1
        rw [T2.out] at h2
        go_round
        case rel =>
          refine ⟨k + 2, d - 1, by omega, by go_num, rfl, by omega, by omega, ?_⟩
          show _ = _
          rw [HT.out, HC.out, if_neg (of_decide_eq_false h1), if_pos (of_decide_eq_true h2), if_neg (by simpa using h3), map_add]
        case measure => simp [intOf]; omega
      · have h1 : ((s.extract k (k + 2)).toList == [40, 42]) = false := by assumption
        have h2 : ((s.extract k (k + 2)).toList == [42, 41]) = false := by assumption
        rw [T1.out] at h1
        rw [T2.out] at h2
        go_round
        case rel =>
          refine ⟨k + 1, d, by omega, by go_num, rfl, by omega, by omega, ?_⟩
          show _ = _
          rw [HT.out, HC.out, if_neg (of_decide_eq_false h1), if_neg (of_decide_eq_false h2), map_add]
        case measure => simp [intOf]; omega
    · go_wp2
      have e : cmt s.data.toList 0 = none := by
        rw [HT.out, cmt_short (by rw [List.length_drop, len_list]; omega)]; rfl
      go_ret
      exact ⟨by rw [e]; rfl, Below.refl _ _⟩
end Go.Proofs.YtkieeaajhomdoaaDoor
set_option linter.unusedVariables false
set_option linter.unusedSimpArgs false
namespace Go.Proofs.YtkieeaajhomdoaaDoor
open Go.RowKit Go.Maps Go.MapKept
/-- What a function that makes a token comes to. -/
def AtTok (r : Except Int (Tok × Nat)) (w : World) (e : Ending) (w' : World) : Prop := Below w.heap.size w w' ∧
  match r with
  | .ok (t, n) => e = .returned (.tuple #[.agg #[.int .i64 t.kind, .string ⟨t.text.toArray⟩, .int .i64 t.n, .int .i64 t.at_], .int .i64 n, .int .i64 0])
  | .error c => ∃ k x m a n, e = .returned (.tuple #[.agg #[.int .i64 k, .string x, .int .i64 m, .int .i64 a], .int .i64 n, .int .i64 c])
set_option maxRecDepth 100000 in
set_option maxHeartbeats 800000 in
theorem text_any (s : ByteArray) (w : World) (hs : s.size ≤ 140737488351232) (h1 : 1 ≤ s.size) (r : Except Int (Tok × Nat)) (hres : textTok (s.data.toList.drop 1) = r) :
    Calls Tryd.prog 44 #[.string s] w (AtTok r w) := by
  have HRES := Lib.hid hres
  clear hres
  go_enter Tryd.func44, Tryd.ntmps44
  go_wp2
  go_loop [5] (fun i => ∃ k : Nat, k + 1 ≤ s.size ∧ i = .int .i64 (k + 1 : Nat) ∧ Hid (∀ c ∈ (s.data.toList.drop 1).take k, isPlain c = true)) (fun i => s.size - (intOf i).toNat)
  case atStart => exact ⟨0, by omega, rfl, by simp [Hid]⟩
  case round =>
    obtain ⟨k, hk, rfl, HT⟩ := hrel
    have hll : (s.data.toList.drop 1).length = s.size - 1 := by rw [List.length_drop, len_list]
    by_cases hlt : k + 1 < s.size
    · have hlt' : (k : Int) + 1 < (s.size : Int) := by omega
      have hb : ((s[k + 1].toNat : Nat) : Int) < 256 := by have := UInt8.toNat_lt s[k + 1]; omega
      have hkl : k < (s.data.toList.drop 1).length := by rw [hll]; omega
      have hg : (s.data.toList.drop 1)[k] = s[k + 1] := by
        rw [List.getElem_drop, ← get_list s (k + 1) hlt]
        congr 1
        omega
      have HG := Lib.hid hg
      by_cases hq : ((s[k + 1].toNat : Nat) : Int) = 34
      · have hq' : s[k + 1].toNat = 34 := by omega
        have hr : run isPlain (s.data.toList.drop 1) = k := run_eq (by omega) HT.out (fun h => by rw [hg]; simp [isPlain, hq'])
        have hat : (s.data.toList.drop 1)[k]? = some 34 := by
          rw [List.getElem?_eq_getElem hkl, hg]; exact congrArg some (UInt8.toNat_inj.1 hq')
        have hx : s.extract 1 (k + 1) = ⟨((s.data.toList.drop 1).take k).toArray⟩ := by rw [extract_mk]; rfl
        by_cases h64 : (64 : Int) < k
        · have fin : textTok (s.data.toList.drop 1) = .error 2 := by
            unfold textTok; simp only [hr, hat, if_true]; rw [if_pos (by omega)]
          have FIN := Lib.hid fin
          clear fin hx hat hr HG hg hkl hll
          go_wp2
          refine bodyPost_ret (v := .tuple #[.agg #[.int .i64 0, .string ⟨#[]⟩, .int .i64 0, .int .i64 0], .int .i64 0, .int .i64 2]) (by simp [results, Tryd.results44, go_sem]) rfl ⟨(Below.refl _ _).alloc (Nat.le_refl _) _, ?_⟩
          rw [← HRES.out, FIN.out]
          exact ⟨_, _, _, _, _, rfl⟩
        · have fin : textTok (s.data.toList.drop 1) = .ok (⟨5, (s.data.toList.drop 1).take k, 0, 0⟩, k + 2) := by
            unfold textTok; simp only [hr, hat, if_true]; rw [if_neg (by omega)]
          have FIN := Lib.hid fin
          have HX := Lib.hid hx
          clear fin hx hat hr HG hg hkl hll
          go_wp2
          refine bodyPost_ret (v := .tuple #[.agg #[.int .i64 5, .string (s.extract 1 (k + 1)), .int .i64 0, .int .i64 0], .int .i64 (k + 1 + 1), .int .i64 0]) (by simp [results, Tryd.results44, go_sem]) rfl ⟨(Below.refl _ _).alloc (Nat.le_refl _) _, ?_⟩
          rw [← HRES.out, FIN.out, HX.out]
          rfl
      · have hq1 : (((s[k + 1].toNat : Nat) : Int) != 34) = true := by rw [bne_iff_ne]; exact hq
        by_cases hge : (32 : Int) ≤ ((s[k + 1].toNat : Nat) : Int)
        · have HKL := Lib.hid hkl
          clear hll HG hg hkl
          go_wp2
          go_round
          case rel =>
            refine ⟨k + 1, by omega, by go_num, ?_⟩
            intro c hc
            rw [List.take_succ_eq_append_getElem (by rw [List.length_drop, len_list]; omega), List.mem_append] at hc
            rcases hc with hc | hc
            · exact HT.out c hc
            · simp only [List.mem_singleton] at hc
              have hg : (s.data.toList.drop 1)[k]'HKL.out = s[k + 1] := by
                rw [List.getElem_drop, ← get_list s (k + 1) hlt]
                congr 1
                omega
              rw [hc, hg]
              simp only [isPlain, Bool.and_eq_true, decide_eq_true_eq, bne_iff_ne]
              exact ⟨by omega, fun e => hq (by omega)⟩
          case measure => simp [intOf]; omega
        · have hr : run isPlain (s.data.toList.drop 1) = k := run_eq (by omega) HT.out (fun h => by rw [hg]; simp [isPlain]; intro h; omega)
          have fin : textTok (s.data.toList.drop 1) = .error 90 := by
            unfold textTok; simp only [hr]; rw [if_neg]
            rw [List.getElem?_eq_getElem hkl, hg]
            intro e
            simp only [Option.some.injEq] at e
            exact hq (by rw [e]; rfl)
          have FIN := Lib.hid fin
          clear fin hr HG hg hkl hll
          go_wp2
          refine bodyPost_ret (v := .tuple #[.agg #[.int .i64 0, .string ⟨#[]⟩, .int .i64 0, .int .i64 0], .int .i64 0, .int .i64 90]) (by simp [results, Tryd.results44, go_sem]) rfl ⟨(Below.refl _ _).alloc (Nat.le_refl _) _, ?_⟩
          rw [← HRES.out, FIN.out]
          exact ⟨_, _, _, _, _, rfl⟩
    · have hr : run isPlain (s.data.toList.drop 1) = k := run_eq (by omega) HT.out (fun h => by omega)
      have fin : textTok (s.data.toList.drop 1) = .error 90 := by
        unfold textTok; simp only [hr]; rw [if_neg]
        rw [List.getElem?_eq_none (by omega)]
        simp
      have FIN := Lib.hid fin
      have he : (((k : Int) + 1) == (s.size : Int)) = true := by rw [beq_iff_eq]; omega
      clear fin hr hll
      go_wp2
      refine bodyPost_ret (v := .tuple #[.agg #[.int .i64 0, .string ⟨#[]⟩, .int .i64 0, .int .i64 0], .int .i64 0, .int .i64 90]) (by simp [results, Tryd.results44, go_sem]) rfl ⟨(Below.refl _ _).alloc (Nat.le_refl _) _, ?_⟩
      rw [← HRES.out, FIN.out]
      exact ⟨_, _, _, _, _, rfl⟩
end Go.Proofs.YtkieeaajhomdoaaDoor
set_option linter.unusedVariables false
set_option linter.unusedSimpArgs false
namespace Go.Proofs.YtkieeaajhomdoaaDoor
open Go.RowKit Go.Maps Go.MapKept
theorem keysD_map (l : List (List UInt8)) : IsMap (keysD l) := by
  suffices h : ∀ (l : List (List UInt8)) (D : DataW Unit), IsMap D → IsMap (l.foldl (fun D k => D.put (.string k) (.lit (.int .i64 1))) D) from h l _ ⟨[], rfl⟩
  intro l
  induction l with
  | nil => intro D h; exact h
  | cons k l ih =>
    intro D h
    obtain ⟨es, rfl⟩ := h
    exact ih _ ⟨_, rfl⟩
theorem keysD_at (k : List UInt8) : ∀ l : List (List UInt8), (keysD l).atKey (.string k) (.lit (.int .i64 0)) = .lit (.int .i64 (if k ∈ l then 1 else 0)) := by
  suffices h : ∀ l : List (List UInt8), (keysD l.reverse).atKey (.string k) (.lit (.int .i64 0)) = .lit (.int .i64 (if k ∈ l.reverse then 1 else 0)) from
    fun l => by have := h l.reverse; rwa [List.reverse_reverse] at this
  intro l
  induction l with
  | nil => rfl
  | cons x l ih =>
    rw [List.reverse_cons, keysD_snoc]
    by_cases e : k = x
    · subst e
      rw [atKey_put_same (keysD_map _) (by trivial)]
      simp
    · rw [atKey_put_other (by intro h; exact e (by injection h))]
      rw [ih]
      simp [e]
def AtWord (r : Except Int Tok) (w : World) (e : Ending) (w' : World) : Prop := Below w.heap.size w w' ∧
  match r with
  | .ok t => e = .returned (.tuple #[.agg #[.int .i64 t.kind, .string ⟨t.text.toArray⟩, .int .i64 t.n, .int .i64 t.at_], .int .i64 0])
  | .error c => e = .returned (.tuple #[.agg #[.int .i64 0, .string ⟨#[]⟩, .int .i64 0, .int .i64 0], .int .i64 c])
theorem mk_list (s : ByteArray) : (⟨s.data.toList.toArray⟩ : ByteArray) = s := rfl
set_option maxRecDepth 100000 in
set_option maxHeartbeats 800000 in
theorem word_any (x : Value) (s : ByteArray) (w : World) (hx : IsLexer w x) (hs : s.size ≤ 140737488351232) (r : Except Int Tok) (hres : wordTok s.data.toList = r) :
    Calls Tryd.prog 42 #[x, .string s] w (AtWord r w) := by
  obtain ⟨a, b1, b2, b3, b4, m, rfl, ha, h1, h2, h3, h4, hown⟩ := hx
  have hm : w.cell? ⟨a, 4, none⟩ = some (.map (some m)) := by rw [cell_of_block ha]; rfl
  have hal : a < w.heap.size := block_lt ha
  have hown1 : Aside ((w.alloc (.cells #[.int .i64 0, .string ⟨#[]⟩, .int .i64 0, .int .i64 0] 34)).ownsMap (H := Unit) Tryd.prog 9 (plainElem Tryd.prog 3) m 33 (keysD keyList)) := ⟨hown.alloc _⟩
  have hkey : Aside (keyOf Tryd.prog 9 (.string s) = some (.string s.data.toList)) := ⟨WideMaps.keyOf_string_mk Tryd.underlying9 (by unfold maxLen; omega)⟩
  have HRES := Lib.hid hres
  have hz : ∀ w, (zeroValue 3).run Tryd.prog w = .ok (.int .i64 0) w := fun w => by kernel_rfl
  have HZ := Lib.hid hz
  clear ha h1 h2 h3 h4 hown hres hz
  by_cases hin : s.data.toList ∈ keyList
  · have hat := Lib.hid (keysD_at s.data.toList keyList)
    have HIN := Lib.hid hin
    clear hin
    go_enter Tryd.func42, Tryd.ntmps42
    go_wp2_with (at_lookup; refine wpList_lookup_own_int _ rfl _ _ 72 rfl 9 3 .i64 law_string Tryd.underlying72 Tryd.underlying3 (HZ.out _) m 33 _ rfl hown1.out _ _ rfl hkey.out ?_; intro c hc hcw; (obtain rfl : c = 1 := by (rw [hat.out, if_pos HIN.out] at hc; injection hc with hc; injection hc with hc hc2; exact hc2.symm)); clear hc hcw)
    refine bodyPost_ret (v := .tuple #[.agg #[.int .i64 2, .string s, .int .i64 0, .int .i64 0], .int .i64 0]) (by simp [results, Tryd.results42, go_sem]) rfl ⟨(Below.refl _ _).alloc (Nat.le_refl _) _, ?_⟩
    rw [← HRES.out, wordTok, if_pos HIN.out]
  · have hat := Lib.hid (keysD_at s.data.toList keyList)
    have HIN := Lib.hid hin
    clear hin
    by_cases h24 : (24 : Int) < s.size
    · go_enter Tryd.func42, Tryd.ntmps42
      go_wp2_with (at_lookup; refine wpList_lookup_own_int _ rfl _ _ 72 rfl 9 3 .i64 law_string Tryd.underlying72 Tryd.underlying3 (HZ.out _) m 33 _ rfl hown1.out _ _ rfl hkey.out ?_; intro c hc hcw; (obtain rfl : c = 0 := by (rw [hat.out, if_neg HIN.out] at hc; injection hc with hc; injection hc with hc hc2; exact hc2.symm)); clear hc hcw)
      refine bodyPost_ret (v := .tuple #[.agg #[.int .i64 0, .string ⟨#[]⟩, .int .i64 0, .int .i64 0], .int .i64 2]) (by simp [results, Tryd.results42, go_sem]) rfl ⟨(Below.refl _ _).alloc (Nat.le_refl _) _, ?_⟩
      rw [← HRES.out, wordTok, if_neg HIN.out, if_pos (by rw [len_list]; omega)]
    · go_enter Tryd.func42, Tryd.ntmps42
      go_wp2_with (at_lookup; refine wpList_lookup_own_int _ rfl _ _ 72 rfl 9 3 .i64 law_string Tryd.underlying72 Tryd.underlying3 (HZ.out _) m 33 _ rfl hown1.out _ _ rfl hkey.out ?_; intro c hc hcw; (obtain rfl : c = 0 := by (rw [hat.out, if_neg HIN.out] at hc; injection hc with hc; injection hc with hc hc2; exact hc2.symm)); clear hc hcw)
      refine bodyPost_ret (v := .tuple #[.agg #[.int .i64 1, .string s, .int .i64 0, .int .i64 0], .int .i64 0]) (by simp [results, Tryd.results42, go_sem]) rfl ⟨(Below.refl _ _).alloc (Nat.le_refl _) _, ?_⟩
      rw [← HRES.out, wordTok, if_neg HIN.out, if_neg (by rw [len_list]; omega)]
theorem ranged_any (b : Bool) (w : World) : Calls Tryd.prog 72 #[.bool b] w fun e w' => e = .returned (.int .i64 (if b then 0 else 91)) ∧ w' = w := by
  cases b
  · go_enter Tryd.func72, Tryd.ntmps72
    go_wp2
    go_ret
    exact ⟨rfl, rfl⟩
  · go_enter Tryd.func72, Tryd.ntmps72
    go_wp2
    go_ret
    exact ⟨rfl, rfl⟩
theorem signs_any (w : World) (htab : Lib.TabIs Tryd.prog w "strings.asciiSpace" .u8 Lib.asciiSpaceTab) : Calls Tryd.prog 45 #[] w (AtFields signList 26 w) := by
  have HT := Lib.hid htab
  clear htab
  go_enter Tryd.func45, Tryd.ntmps45
  go_wp2_with fail
  refine (fields_any signText signList fields_signText 26 rfl (by decide) signText_ascii _ HT.out).mono ?_
  rintro e w' ⟨rfl, rfl⟩
  go_wp2_with fail
  go_ret
  exact ⟨rfl, rfl⟩
end Go.Proofs.YtkieeaajhomdoaaDoor
set_option linter.unusedVariables false
set_option linter.unusedSimpArgs false
namespace Go.Proofs.YtkieeaajhomdoaaDoor
open Go.RowKit
theorem numVal_snoc (b : Nat) (l : List UInt8) (c : UInt8) : numVal b (l ++ [c]) = numVal b l * b + hexDig c := by simp [numVal]
theorem numVal_grows (b : Nat) (hb : 1 ≤ b) (l m : List UInt8) : numVal b l ≤ numVal b (l ++ m) := by
  suffices h : ∀ m : List UInt8, numVal b l ≤ numVal b (l ++ m.reverse) from by have := h m.reverse; rwa [List.reverse_reverse] at this
  intro m
  induction m with
  | nil => simp
  | cons c m ih =>
    rw [List.reverse_cons, ← List.append_assoc, numVal_snoc]
    refine Nat.le_trans ih ?_
    have := Nat.le_mul_of_pos_right (numVal b (l ++ m.reverse)) hb
    omega
theorem numVal_take (b : Nat) (hb : 1 ≤ b) (l : List UInt8) (k : Nat) : numVal b (l.take k) ≤ numVal b l := by
  have := numVal_grows b hb (l.take k) (l.drop k)
  rwa [List.take_append_drop] at this
theorem low_hex (c : Nat) (h0 : 65 ≤ c) (h1 : c ≤ 70) : bits .or .u8 (c : Int) 32 = (c : Int) + 32 := by
  have : c = 65 ∨ c = 66 ∨ c = 67 ∨ c = 68 ∨ c = 69 ∨ c = 70 := by omega
  rcases this with rfl | rfl | rfl | rfl | rfl | rfl <;> decide
theorem bytesWorld_below (w : World) (e : TypeId) (s : ByteArray) : Below w.heap.size w (Lib.bytesWorld w e s) :=
  ⟨rfl, rfl, rfl, by rw [Lib.bytesWorld_size]; omega, fun k hk => Lib.bytesWorld_at_old w e s k hk⟩
/-- A number, or 'out of range'. -/
def AtNum (ok : Prop) (v m : Nat) (w : World) (e : Ending) (w' : World) : Prop := Below w.heap.size w w' ∧
  ((ok ∧ e = .returned (.tuple #[.int .u64 v, .nilIface])) ∨ (¬ ok ∧ e = .returned (.tuple #[.int .u64 m, .iface 162 (.int .i64 1)])))
set_option maxHeartbeats 4000000 in
set_option maxRecDepth 100000 in
theorem pu_16_32 (t : ByteArray) (hne : t.size ≠ 0) (hmax : t.size ≤ 140737488351232) (hall : ∀ c ∈ t.data.toList, isHex c = true) (w : World) :
    Calls Tryd.prog 94 #[.string t, .int .i64 16, .int .i64 32] w (AtNum (numVal 16 t.data.toList ≤ 4294967295) (numVal 16 t.data.toList) 4294967295 w) := by
  have hemp : t.toList.isEmpty = false := by
    rw [← decide_eq_emptyBytes]
    exact decide_eq_false (fun h => hne (by rw [h]; rfl))
  have hcv := Lib.run_convert_string_bytes (P := Tryd.prog) w 9 31 5 t (u := .string) Tryd.underlying9 Tryd.underlying31 Tryd.underlying5
  have hB : Hid (∀ j, j < t.size → (Lib.bytesWorld w 5 t).cell? ⟨w.heap.size, j, none⟩ = some (.int .u8 (t.data.toList.getD j 0).toNat)) := fun j hj => Lib.bytesWorld_cell w 5 t j hj
  have HBW := Lib.hid (bytesWorld_below w 5 t)
  obtain ⟨W1, hW1⟩ : ∃ W1, W1 = Lib.bytesWorld w 5 t := ⟨_, rfl⟩
  rw [← hW1] at hcv hB HBW
  clear hW1
  have HA := Lib.hid hall
  clear hall
  obtain ⟨P, hP⟩ : ∃ P : Prop, P = (numVal 16 t.data.toList ≤ 4294967295) := ⟨_, rfl⟩
  obtain ⟨V, hV⟩ : ∃ V : Nat, V = numVal 16 t.data.toList := ⟨_, rfl⟩
  rw [← hP, ← hV]
  have HP := Lib.hid hP
  have HV := Lib.hid hV
  clear hP hV
  have hmv : IntKind.u64.wrap (IntKind.u64.wrap 4294967296 - 1) = 4294967295 := by
    rw [IntKind.wrap_u64, IntKind.wrap_u64]
    decide
  go_enter Tryd.func94, Tryd.ntmps94
  go_wp2
  go_loop [12, 13, 101] (fun vu vn vi => ∃ (k : Nat) (a : Int), vu = .bool false ∧ vn = .int .u64 a ∧ vi = .int .i64 k ∧ k ≤ t.size ∧ 0 ≤ a ∧ a ≤ 4294967295 ∧ Hid (a = (numVal 16 (t.data.toList.take k) : Nat)))
    (fun _ _ vi => t.size - (intOf vi).toNat)
  case atStart => exact ⟨0, 0, rfl, rfl, rfl, by omega, by omega, by omega, rfl⟩
  case round =>
    obtain ⟨k, a, rfl, rfl, rfl, hk, a0, a1, HH⟩ := hrel
    by_cases hkn : k < t.size
    · have hc := hB.out k hkn
      have hget : t.data.toList.getD k 0 = t[k] := by
        rw [List.getD_eq_getElem?_getD, List.getElem?_eq_getElem (by rw [len_list]; exact hkn), get_list t k hkn]; rfl
      have hin := HA.out t[k] (by rw [← get_list t k hkn]; exact List.getElem_mem _)
      have hstep : numVal 16 (t.data.toList.take (k + 1)) = numVal 16 (t.data.toList.take k) * 16 + hexDig t[k] := by
        rw [take_snoc t k hkn, numVal_snoc]
      rw [hget] at hc
      have hle := numVal_take 16 (by omega) t.data.toList (k + 1)
      rw [hstep] at hle
      have ha := HH.out
      clear HH
      generalize t[k] = c at hc hin hstep hle
      have hc256 : c.toNat < 256 := c.toNat_lt
      clear hget
      by_cases hdg : 48 ≤ c.toNat ∧ c.toNat ≤ 57
      · obtain ⟨hd0, hd1⟩ := hdg
        have hd : hexDig c = c.toNat - 48 := by unfold hexDig; rw [if_pos hd1]
        rw [hd] at hstep hle
        by_cases hov : 4294967295 < a * 16 + ((c.toNat : Int) - 48)
        · have HP1 : Hid (¬ P) := by show ¬ P; rw [HP.out]; omega
          clear hstep hle ha hd hin
          go_wp2
          go_ret2
          exact ⟨HBW.out, .inr ⟨HP1.out, rfl⟩⟩
        · have HN : Hid (a * 16 + ((c.toNat : Int) - 48) = ((numVal 16 (t.data.toList.take (k + 1)) : Nat) : Int)) := by show _ = _; rw [hstep]; omega
          have hn0 : 0 ≤ a * 16 + ((c.toNat : Int) - 48) := by omega
          have hn1 : a * 16 + ((c.toNat : Int) - 48) ≤ 4294967295 := by omega
          clear hstep hle ha hd hin hov
          go_wp2
          refine ⟨⟨k + 1, a * 16 + ((c.toNat : Int) - 48), rfl, (by first | rfl | (congr 1; omega)), (by first | rfl | (congr 1; omega)), by omega, hn0, hn1, HN⟩, by simp [intOf]; omega⟩
      · have hlt : 65 ≤ c.toNat ∧ c.toNat ≤ 70 := by
          simp only [isHex, isDigit, Bool.or_eq_true, Bool.and_eq_true, decide_eq_true_eq] at hin
          omega
        obtain ⟨hd0, hd1⟩ := hlt
        have hlow := low_hex c.toNat hd0 hd1
        clear hdg
        have hd : hexDig c = c.toNat - 55 := by unfold hexDig; rw [if_neg (by omega)]
        rw [hd] at hstep hle
        by_cases hov : 4294967295 < a * 16 + ((c.toNat : Int) + 32 - 97 + 10)
        · have HP1 : Hid (¬ P) := by show ¬ P; rw [HP.out]; omega
          clear hstep hle ha hd hin
          go_wp2_with (go_at_call 115; refine (Tryd.internal_strconv_lower _ _).mono ?_; rintro e w' ⟨rfl, rfl⟩)
          go_ret2
          exact ⟨HBW.out, .inr ⟨HP1.out, rfl⟩⟩
        · have HN : Hid (a * 16 + ((c.toNat : Int) + 32 - 97 + 10) = ((numVal 16 (t.data.toList.take (k + 1)) : Nat) : Int)) := by show _ = _; rw [hstep]; omega
          have hn0 : 0 ≤ a * 16 + ((c.toNat : Int) + 32 - 97 + 10) := by omega
          have hn1 : a * 16 + ((c.toNat : Int) + 32 - 97 + 10) ≤ 4294967295 := by omega
          clear hstep hle ha hd hin hov
          go_wp2_with (go_at_call 115; refine (Tryd.internal_strconv_lower _ _).mono ?_; rintro e w' ⟨rfl, rfl⟩)
          refine ⟨⟨k + 1, a * 16 + ((c.toNat : Int) + 32 - 97 + 10), rfl, (by first | rfl | (congr 1; omega)), (by first | rfl | (congr 1; omega)), by omega, hn0, hn1, HN⟩, by simp [intOf]; omega⟩
    · have hkk : k = t.size := by omega
      subst hkk
      have ha := HH.out
      rw [List.take_of_length_le (by rw [len_list]; omega), ← HV.out] at ha
      have HP1 : Hid P := by show P; rw [HP.out, ← HV.out]; omega
      clear HH a0 a1
      subst ha
      go_wp2
      go_ret2
      exact ⟨HBW.out, .inl ⟨HP1.out, rfl⟩⟩
set_option maxHeartbeats 4000000 in
set_option maxRecDepth 100000 in
theorem pu_16_8 (t : ByteArray) (hne : t.size ≠ 0) (hmax : t.size ≤ 140737488351232) (hall : ∀ c ∈ t.data.toList, isHex c = true) (w : World) :
    Calls Tryd.prog 94 #[.string t, .int .i64 16, .int .i64 8] w (AtNum (numVal 16 t.data.toList ≤ 255) (numVal 16 t.data.toList) 255 w) := by
  have hemp : t.toList.isEmpty = false := by
    rw [← decide_eq_emptyBytes]
    exact decide_eq_false (fun h => hne (by rw [h]; rfl))
  have hcv := Lib.run_convert_string_bytes (P := Tryd.prog) w 9 31 5 t (u := .string) Tryd.underlying9 Tryd.underlying31 Tryd.underlying5
  have hB : Hid (∀ j, j < t.size → (Lib.bytesWorld w 5 t).cell? ⟨w.heap.size, j, none⟩ = some (.int .u8 (t.data.toList.getD j 0).toNat)) := fun j hj => Lib.bytesWorld_cell w 5 t j hj
  have HBW := Lib.hid (bytesWorld_below w 5 t)
  obtain ⟨W1, hW1⟩ : ∃ W1, W1 = Lib.bytesWorld w 5 t := ⟨_, rfl⟩
  rw [← hW1] at hcv hB HBW
  clear hW1
  have HA := Lib.hid hall
  clear hall
  obtain ⟨P, hP⟩ : ∃ P : Prop, P = (numVal 16 t.data.toList ≤ 255) := ⟨_, rfl⟩
  obtain ⟨V, hV⟩ : ∃ V : Nat, V = numVal 16 t.data.toList := ⟨_, rfl⟩
  rw [← hP, ← hV]
  have HP := Lib.hid hP
  have HV := Lib.hid hV
  clear hP hV
  have hmv : IntKind.u64.wrap (IntKind.u64.wrap 256 - 1) = 255 := by
    rw [IntKind.wrap_u64, IntKind.wrap_u64]
    decide
  go_enter Tryd.func94, Tryd.ntmps94
  go_wp2
  go_loop [12, 13, 101] (fun vu vn vi => ∃ (k : Nat) (a : Int), vu = .bool false ∧ vn = .int .u64 a ∧ vi = .int .i64 k ∧ k ≤ t.size ∧ 0 ≤ a ∧ a ≤ 255 ∧ Hid (a = (numVal 16 (t.data.toList.take k) : Nat)))
    (fun _ _ vi => t.size - (intOf vi).toNat)
  case atStart => exact ⟨0, 0, rfl, rfl, rfl, by omega, by omega, by omega, rfl⟩
  case round =>
    obtain ⟨k, a, rfl, rfl, rfl, hk, a0, a1, HH⟩ := hrel
    by_cases hkn : k < t.size
    · have hc := hB.out k hkn
      have hget : t.data.toList.getD k 0 = t[k] := by
        rw [List.getD_eq_getElem?_getD, List.getElem?_eq_getElem (by rw [len_list]; exact hkn), get_list t k hkn]; rfl
      have hin := HA.out t[k] (by rw [← get_list t k hkn]; exact List.getElem_mem _)
      have hstep : numVal 16 (t.data.toList.take (k + 1)) = numVal 16 (t.data.toList.take k) * 16 + hexDig t[k] := by
        rw [take_snoc t k hkn, numVal_snoc]
      rw [hget] at hc
      have hle := numVal_take 16 (by omega) t.data.toList (k + 1)
      rw [hstep] at hle
      have ha := HH.out
      clear HH
      generalize t[k] = c at hc hin hstep hle
      have hc256 : c.toNat < 256 := c.toNat_lt
      clear hget
      by_cases hdg : 48 ≤ c.toNat ∧ c.toNat ≤ 57
      · obtain ⟨hd0, hd1⟩ := hdg
        have hd : hexDig c = c.toNat - 48 := by unfold hexDig; rw [if_pos hd1]
        rw [hd] at hstep hle
        by_cases hov : 255 < a * 16 + ((c.toNat : Int) - 48)
        · have HP1 : Hid (¬ P) := by show ¬ P; rw [HP.out]; omega
          clear hstep hle ha hd hin
          go_wp2
          go_ret2
          exact ⟨HBW.out, .inr ⟨HP1.out, rfl⟩⟩
        · have HN : Hid (a * 16 + ((c.toNat : Int) - 48) = ((numVal 16 (t.data.toList.take (k + 1)) : Nat) : Int)) := by show _ = _; rw [hstep]; omega
          have hn0 : 0 ≤ a * 16 + ((c.toNat : Int) - 48) := by omega
          have hn1 : a * 16 + ((c.toNat : Int) - 48) ≤ 255 := by omega
          clear hstep hle ha hd hin hov
          go_wp2
          refine ⟨⟨k + 1, a * 16 + ((c.toNat : Int) - 48), rfl, (by first | rfl | (congr 1; omega)), (by first | rfl | (congr 1; omega)), by omega, hn0, hn1, HN⟩, by simp [intOf]; omega⟩
      · have hlt : 65 ≤ c.toNat ∧ c.toNat ≤ 70 := by
          simp only [isHex, isDigit, Bool.or_eq_true, Bool.and_eq_true, decide_eq_true_eq] at hin
          omega
        obtain ⟨hd0, hd1⟩ := hlt
        have hlow := low_hex c.toNat hd0 hd1
        clear hdg
        have hd : hexDig c = c.toNat - 55 := by unfold hexDig; rw [if_neg (by omega)]
        rw [hd] at hstep hle
        by_cases hov : 255 < a * 16 + ((c.toNat : Int) + 32 - 97 + 10)
        · have HP1 : Hid (¬ P) := by show ¬ P; rw [HP.out]; omega
          clear hstep hle ha hd hin
          go_wp2_with (go_at_call 115; refine (Tryd.internal_strconv_lower _ _).mono ?_; rintro e w' ⟨rfl, rfl⟩)
          go_ret2
          exact ⟨HBW.out, .inr ⟨HP1.out, rfl⟩⟩
        · have HN : Hid (a * 16 + ((c.toNat : Int) + 32 - 97 + 10) = ((numVal 16 (t.data.toList.take (k + 1)) : Nat) : Int)) := by show _ = _; rw [hstep]; omega
          have hn0 : 0 ≤ a * 16 + ((c.toNat : Int) + 32 - 97 + 10) := by omega
          have hn1 : a * 16 + ((c.toNat : Int) + 32 - 97 + 10) ≤ 255 := by omega
          clear hstep hle ha hd hin hov
          go_wp2_with (go_at_call 115; refine (Tryd.internal_strconv_lower _ _).mono ?_; rintro e w' ⟨rfl, rfl⟩)
          refine ⟨⟨k + 1, a * 16 + ((c.toNat : Int) + 32 - 97 + 10), rfl, (by first | rfl | (congr 1; omega)), (by first | rfl | (congr 1; omega)), by omega, hn0, hn1, HN⟩, by simp [intOf]; omega⟩
    · have hkk : k = t.size := by omega
      subst hkk
      have ha := HH.out
      rw [List.take_of_length_le (by rw [len_list]; omega), ← HV.out] at ha
      have HP1 : Hid P := by show P; rw [HP.out, ← HV.out]; omega
      clear HH a0 a1
      subst ha
      go_wp2
      go_ret2
      exact ⟨HBW.out, .inl ⟨HP1.out, rfl⟩⟩
set_option maxHeartbeats 4000000 in
set_option maxRecDepth 100000 in
theorem pu_10_31 (t : ByteArray) (hne : t.size ≠ 0) (hmax : t.size ≤ 140737488351232) (hall : ∀ c ∈ t.data.toList, isDigit c = true) (w : World) :
    Calls Tryd.prog 94 #[.string t, .int .i64 10, .int .i64 31] w (AtNum (numVal 10 t.data.toList ≤ 2147483647) (numVal 10 t.data.toList) 2147483647 w) := by
  have hemp : t.toList.isEmpty = false := by
    rw [← decide_eq_emptyBytes]
    exact decide_eq_false (fun h => hne (by rw [h]; rfl))
  have hcv := Lib.run_convert_string_bytes (P := Tryd.prog) w 9 31 5 t (u := .string) Tryd.underlying9 Tryd.underlying31 Tryd.underlying5
  have hB : Hid (∀ j, j < t.size → (Lib.bytesWorld w 5 t).cell? ⟨w.heap.size, j, none⟩ = some (.int .u8 (t.data.toList.getD j 0).toNat)) := fun j hj => Lib.bytesWorld_cell w 5 t j hj
  have HBW := Lib.hid (bytesWorld_below w 5 t)
  obtain ⟨W1, hW1⟩ : ∃ W1, W1 = Lib.bytesWorld w 5 t := ⟨_, rfl⟩
  rw [← hW1] at hcv hB HBW
  clear hW1
  have HA := Lib.hid hall
  clear hall
  obtain ⟨P, hP⟩ : ∃ P : Prop, P = (numVal 10 t.data.toList ≤ 2147483647) := ⟨_, rfl⟩
  obtain ⟨V, hV⟩ : ∃ V : Nat, V = numVal 10 t.data.toList := ⟨_, rfl⟩
  rw [← hP, ← hV]
  have HP := Lib.hid hP
  have HV := Lib.hid hV
  clear hP hV
  have hmv : IntKind.u64.wrap (IntKind.u64.wrap 2147483648 - 1) = 2147483647 := by
    rw [IntKind.wrap_u64, IntKind.wrap_u64]
    decide
  go_enter Tryd.func94, Tryd.ntmps94
  go_wp2
  go_loop [12, 13, 101] (fun vu vn vi => ∃ (k : Nat) (a : Int), vu = .bool false ∧ vn = .int .u64 a ∧ vi = .int .i64 k ∧ k ≤ t.size ∧ 0 ≤ a ∧ a ≤ 2147483647 ∧ Hid (a = (numVal 10 (t.data.toList.take k) : Nat)))
    (fun _ _ vi => t.size - (intOf vi).toNat)
  case atStart => exact ⟨0, 0, rfl, rfl, rfl, by omega, by omega, by omega, rfl⟩
  case round =>
    obtain ⟨k, a, rfl, rfl, rfl, hk, a0, a1, HH⟩ := hrel
    by_cases hkn : k < t.size
    · have hc := hB.out k hkn
      have hget : t.data.toList.getD k 0 = t[k] := by
        rw [List.getD_eq_getElem?_getD, List.getElem?_eq_getElem (by rw [len_list]; exact hkn), get_list t k hkn]; rfl
      have hin := HA.out t[k] (by rw [← get_list t k hkn]; exact List.getElem_mem _)
      have hstep : numVal 10 (t.data.toList.take (k + 1)) = numVal 10 (t.data.toList.take k) * 10 + hexDig t[k] := by
        rw [take_snoc t k hkn, numVal_snoc]
      rw [hget] at hc
      have hle := numVal_take 10 (by omega) t.data.toList (k + 1)
      rw [hstep] at hle
      have ha := HH.out
      clear HH
      generalize t[k] = c at hc hin hstep hle
      have hc256 : c.toNat < 256 := c.toNat_lt
      clear hget
      have hdg : 48 ≤ c.toNat ∧ c.toNat ≤ 57 := by simpa [isDigit] using hin
      obtain ⟨hd0, hd1⟩ := hdg
      have hd : hexDig c = c.toNat - 48 := by unfold hexDig; rw [if_pos hd1]
      rw [hd] at hstep hle
      by_cases hov : 2147483647 < a * 10 + ((c.toNat : Int) - 48)
      · have HP1 : Hid (¬ P) := by show ¬ P; rw [HP.out]; omega
        clear hstep hle ha hd hin
        go_wp2
        go_ret2
        exact ⟨HBW.out, .inr ⟨HP1.out, rfl⟩⟩
      · have HN : Hid (a * 10 + ((c.toNat : Int) - 48) = ((numVal 10 (t.data.toList.take (k + 1)) : Nat) : Int)) := by show _ = _; rw [hstep]; omega
        have hn0 : 0 ≤ a * 10 + ((c.toNat : Int) - 48) := by omega
        have hn1 : a * 10 + ((c.toNat : Int) - 48) ≤ 2147483647 := by omega
        clear hstep hle ha hd hin hov
        go_wp2
        refine ⟨⟨k + 1, a * 10 + ((c.toNat : Int) - 48), rfl, (by first | rfl | (congr 1; omega)), (by first | rfl | (congr 1; omega)), by omega, hn0, hn1, HN⟩, by simp [intOf]; omega⟩
    · have hkk : k = t.size := by omega
      subst hkk
      have ha := HH.out
      rw [List.take_of_length_le (by rw [len_list]; omega), ← HV.out] at ha
      have HP1 : Hid P := by show P; rw [HP.out, ← HV.out]; omega
      clear HH a0 a1
      subst ha
      go_wp2
      go_ret2
      exact ⟨HBW.out, .inl ⟨HP1.out, rfl⟩⟩
end Go.Proofs.YtkieeaajhomdoaaDoor
set_option linter.unusedVariables false
set_option linter.unusedSimpArgs false
namespace Go.Proofs.YtkieeaajhomdoaaDoor
open Go.RowKit Go.Maps Go.MapKept
/-- What is asked of the library's own variables. -/
structure Vars (w : World) : Prop where
  space : Lib.TabIs Tryd.prog w "strings.asciiSpace" .u8 Lib.asciiSpaceTab
  range : ∃ ev, w.cell? ⟨4, 0, none⟩ = some ev ∧ (ev = .nilIface ∨ ∃ te pe, ev = .iface te pe)
theorem Vars.stays {w w' : World} (h : Vars w) (hb : Below w.heap.size w w') : Vars w' :=
  ⟨Joins.tab_stays (g := 0) (by kernel_rfl) h.space hb (Nat.le_refl _), by
    obtain ⟨ev, h1, h2⟩ := h.range
    exact ⟨ev, (hb.cell (World.block_lt_of_cell? w _ h1)).trans h1, h2⟩⟩
/-- A number, or some error. -/
def AtNumE (ok : Prop) (v : Nat) (w : World) (e : Ending) (w' : World) : Prop := Below w.heap.size w w' ∧
  ((ok ∧ e = .returned (.tuple #[.int .u64 v, .nilIface])) ∨ (¬ ok ∧ ∃ t x, ∃ M : Int, 0 ≤ M ∧ M ≤ 4294967295 ∧ e = .returned (.tuple #[.int .u64 M, .iface t x])))
set_option maxRecDepth 100000 in
set_option maxHeartbeats 800000 in
theorem parse_of (s : ByteArray) (base bits : Int) (hs : s.size ≤ 140737488351232) (w : World) (hv : Vars w) (ok : Prop) (v m : Nat) (hm : m ≤ 4294967295) (h : Calls Tryd.prog 94 #[.string s, .int .i64 base, .int .i64 bits] w (AtNum ok v m w)) :
    Calls Tryd.prog 71 #[.string s, .int .i64 base, .int .i64 bits] w (AtNumE ok v w) := by
  have H := Lib.hid h
  have HV := Lib.hid hv
  clear h hv
  go_enter Tryd.func71, Tryd.ntmps71
  go_wp2_with fail
  refine H.out.mono ?_
  rintro e w1 ⟨B1, ⟨hok, rfl⟩ | ⟨hno, rfl⟩⟩
  · have HOK := Lib.hid hok
    clear hok
    go_wp2_with fail
    go_ret2
    exact ⟨B1, .inl ⟨HOK.out, rfl⟩⟩
  · have HNO := Lib.hid hno
    clear hno
    obtain ⟨ev, hc, hev⟩ := (HV.out.stays B1).range
    have HC := Lib.hid hc
    have HE := Lib.hid hev
    clear hc hev
    go_wp2_with fail
    refine (Tryd.strconv_toError_range _ _ _ _ ev _ (by omega) HC.out HE.out).mono ?_
    rintro e w2 ⟨N, rfl, h1, h2, h3⟩
    clear h1 h2
    go_wp2_with fail
    go_ret2
    exact ⟨bthen B1 h3, .inr ⟨HNO.out, _, _, _, by omega, by omega, rfl⟩⟩
def tok0 : Array Value := #[.int .i64 0, .string ⟨#[]⟩, .int .i64 0, .int .i64 0]
theorem prefix_one (s : ByteArray) (n : Nat) (c : UInt8) (w : World) : Calls Tryd.prog 21 #[.string (s.extract n s.size), .string ⟨#[c]⟩] w fun e w' => e = .returned (.bool (decide (s.data.toList[n]? = some c))) ∧ w' = w := by
  refine (Tryd.strings_HasPrefix _ _ _).mono ?_
  rintro e w' ⟨rfl, rfl⟩
  refine ⟨?_, rfl⟩
  congr 2
  rw [Lib.extract_to_end]
  show Lib.hasPrefix (s.data.toList.drop n) [c] = _
  rw [← List.head?_drop]
  cases hd : s.data.toList.drop n with
  | nil => simp [Lib.hasPrefix]
  | cons d l =>
    show [c].isPrefixOf (d :: l) = _
    by_cases e : d = c
    · subst e; simp [List.isPrefixOf]
    · have : (c == d) = false := by simpa using fun h => e h.symm
      simp [List.isPrefixOf, this, e]
set_option maxRecDepth 100000 in
theorem prefix_two (s : ByteArray) (n : Nat) (c d : UInt8) (w : World) : Calls Tryd.prog 21 #[.string (s.extract n s.size), .string ⟨#[c, d]⟩] w fun e w' => e = .returned (.bool (decide (s.data.toList[n]? = some c ∧ s.data.toList[n + 1]? = some d))) ∧ w' = w := by
  refine (Tryd.strings_HasPrefix _ _ _).mono ?_
  rintro e w' ⟨rfl, rfl⟩
  refine ⟨?_, rfl⟩
  congr 2
  rw [Lib.extract_to_end]
  show Lib.hasPrefix (s.data.toList.drop n) [c, d] = _
  have e0 : s.data.toList[n]? = (s.data.toList.drop n)[0]? := by rw [List.getElem?_drop]; rfl
  have e1 : s.data.toList[n + 1]? = (s.data.toList.drop n)[1]? := by rw [List.getElem?_drop]
  rw [e0, e1]
  generalize s.data.toList.drop n = l
  match l with
  | [] => rfl
  | [x] =>
    show ([c, d] : List UInt8).isPrefixOf [x] = _
    rw [Bool.eq_iff_iff]
    simp [List.isPrefixOf]
  | x :: y :: l =>
    show ((c == x) && ((d == y) && true)) = decide (some x = some c ∧ some y = some d)
    by_cases h1 : x = c
    · by_cases h2 : y = d
      · subst h1; subst h2; simp
      · have e : (d == y) = false := by simpa using fun h => h2 h.symm
        have f : ¬ (some x = some c ∧ some y = some d) := fun h => h2 (by injection h.2)
        rw [e, decide_eq_false f]; simp
    · have e : (c == x) = false := by simpa using fun h => h1 h.symm
      have f : ¬ (some x = some c ∧ some y = some d) := fun h => h1 (by injection h.1)
      rw [e, decide_eq_false f]; rfl
set_option maxRecDepth 100000 in
set_option maxHeartbeats 4000000 in
theorem number_any (x : Value) (s : ByteArray) (w : World) (hx : IsLexer w x) (hv : Vars w) (hs : s.size ≤ 140737488351232) (h1 : 1 ≤ run isHex s.data.toList) (r : Except Int (Tok × Nat)) (hres : numTok s.data.toList = r) :
    Calls Tryd.prog 43 #[x, .string s] w (AtTok r w) := by
  obtain ⟨a, b1, b2, b3, b4, m, rfl, ha, i1, i2, i3, i4, hown⟩ := hx
  obtain ⟨n, hn⟩ : ∃ n, run isHex s.data.toList = n := ⟨_, rfl⟩
  have hns : n ≤ s.size := by rw [← hn, ← len_list]; exact run_le _ _
  rw [hn] at h1
  have hc3 : w.cell? ⟨a, 3, none⟩ = some (.pointer (some ⟨b4, 0, none⟩)) := by rw [cell_of_block ha]; rfl
  have hc2 : w.cell? ⟨a, 2, none⟩ = some (.pointer (some ⟨b3, 0, none⟩)) := by rw [cell_of_block ha]; rfl
  have hal : a < w.heap.size := block_lt ha
  have HRES := Lib.hid hres
  have HV := Lib.hid hv
  have I3 := Lib.hid i3
  have I4 := Lib.hid i4
  have HA := Lib.hid ha
  clear i1 i2 i3 i4 hown hres hv ha
  go_enter Tryd.func43, Tryd.ntmps43
  go_wp2_with fail
  refine (run_any s b4 _ isHex tab_hex _ hs (alloc_old I4.out)).mono ?_
  rintro e w1 ⟨rfl, B1⟩
  rw [hn]
  have HN := Lib.hid hn
  clear hn
  obtain ⟨c1, f1⟩ := bcell B1
  have hz1 : w.heap.size < w1.heap.size := by have := B1.size; simp at this; omega
  go_wp2_with fail
  refine (prefix_one s n 72 _).mono ?_
  rintro e w2 ⟨rfl, rfl⟩
  have hd : (s.extract 0 n).data.toList = s.data.toList.take n := by rw [extract_list]; rfl
  have HD := Lib.hid hd
  clear hd
  have hal1 : a < w1.heap.size := by omega
  have hbel : Below w.heap.size w w1 := ((Below.refl _ _).alloc (Nat.le_refl _) _).trans (B1.mono (by simp))
  by_cases h72 : s.data.toList[n]? = some 72
  · rw [decide_eq_true h72]
    have H72 := Lib.hid h72
    clear h72
    go_wp2_with fail
    refine (parse_of _ 16 32 (by rw [ByteArray.size_extract]; omega) _ (HV.out.stays (hbel.alloc hbel.size _)) _ _ _ (by decide) (pu_16_32 _ (by rw [ByteArray.size_extract]; omega) (by rw [ByteArray.size_extract]; omega) (by rw [HD.out, ← HN.out]; exact run_take_all) _)).mono ?_
    rw [HD.out]
    rintro e w3 ⟨B3, ⟨hok, rfl⟩ | ⟨hno, t, x, M, m0, m1, rfl⟩⟩
    · have hbel3 : Below w.heap.size w w3 := bthen (hbel.alloc hbel.size _) B3
      obtain ⟨V, hV⟩ : ∃ V, V = numVal 16 (s.data.toList.take n) := ⟨_, rfl⟩
      rw [← hV]
      have hvb : (V : Int) ≤ 4294967295 := by omega
      have HVV := Lib.hid hV
      clear hV hok
      obtain ⟨NV, hNV⟩ : ∃ NV : Int, NV = if V < 2147483648 then (V : Int) else (V : Int) - 4294967296 := ⟨_, rfl⟩
      have hw : wrap64 (wrap32 V) = NV := by unfold wrap64 wrap32; rw [hNV]; split <;> omega
      have HNV := Lib.hid hNV
      clear hNV
      have fin : r = .ok (⟨3, [], NV, 0⟩, n + 1) := by
        rw [← HRES.out, numTok]
        simp only [HN.out, H72.out, if_true]
        rw [if_pos (by rw [← HVV.out]; omega), ← HVV.out, ← HNV.out]
      have FIN := Lib.hid fin
      clear fin
      have hnw : IntKind.i64.wrap ((n : Int) + 1) = n + 1 := IntWalk.i64_in _ (by omega)
      have k0 : w3.heap[w.heap.size]? = some (.cells tok0 34 (0, 0)) := below_block B3 (by simp; omega) (alloc_old (below_block B1 (by simp) (alloc_block _ _)))
      have k1 : w3.heap[w1.heap.size]? = some (.cells #[.int .i64 3, .string ⟨#[]⟩, .int .i64 0, .int .i64 0] 34 (0, 0)) := below_block B3 (by simp) (alloc_block _ _)
      have q0 : w3.cell? ⟨w.heap.size, 0, none⟩ = some (.int .i64 0) := by rw [cell_of_block k0]; rfl
      have q1 : w3.cell? ⟨w.heap.size, 1, none⟩ = some (.string ⟨#[]⟩) := by rw [cell_of_block k0]; rfl
      have q2 : w3.cell? ⟨w.heap.size, 2, none⟩ = some (.int .i64 0) := by rw [cell_of_block k0]; rfl
      have q3 : w3.cell? ⟨w.heap.size, 3, none⟩ = some (.int .i64 0) := by rw [cell_of_block k0]; rfl
      have qf : ∀ j, w3.frozen? ⟨w.heap.size, j, none⟩ = false := frozen_of_block k0
      have p0 : w3.cell? ⟨w1.heap.size, 0, none⟩ = some (.int .i64 3) := by rw [cell_of_block k1]; rfl
      have p1 : w3.cell? ⟨w1.heap.size, 1, none⟩ = some (.string ⟨#[]⟩) := by rw [cell_of_block k1]; rfl
      have p2 : w3.cell? ⟨w1.heap.size, 2, none⟩ = some (.int .i64 0) := by rw [cell_of_block k1]; rfl
      have p3 : w3.cell? ⟨w1.heap.size, 3, none⟩ = some (.int .i64 0) := by rw [cell_of_block k1]; rfl
      have pf : ∀ j, w3.frozen? ⟨w1.heap.size, j, none⟩ = false := frozen_of_block k1
      have hne : ¬ w.heap.size = w1.heap.size := by omega
      have hne' : ¬ w1.heap.size = w.heap.size := by omega
      clear c1 f1 k0 k1
      have hz3 : w1.heap.size < w3.heap.size := by have := B3.size; simp at this; omega
      go_wp2_with fail
      go_region_with (go_at_call 72; refine (ranged_any _ _).mono ?_; rintro e w' ⟨rfl, rfl⟩)
      all_goals go_wp2_with fail
      all_goals refine bodyPost_ret (v := .tuple #[.agg #[.int .i64 3, .string ⟨#[]⟩, .int .i64 NV, .int .i64 0], .int .i64 (n + 1), .int .i64 0]) (by simp [results, Tryd.results43, go_sem, q0, q1, q2, q3, hne, hne']) rfl ⟨(((((hbel3.setCell (by exact Nat.le_of_lt hz1) _).setCell (Nat.le_refl _) _).setCell (Nat.le_refl _) _).setCell (Nat.le_refl _) _).setCell (Nat.le_refl _) _).drew, ?_⟩
      all_goals (rw [FIN.out]; rfl)
    · have hbel3 : Below w.heap.size w w3 := bthen (hbel.alloc hbel.size _) B3
      have hv0 : 4294967295 < numVal 16 (s.data.toList.take n) := by omega
      have fin : r = .error 91 := by
        rw [← HRES.out, numTok]
        simp only [HN.out, H72.out, if_true]
        rw [if_neg (by omega)]
      have FIN := Lib.hid fin
      clear fin hv0 hno
      have hnw : IntKind.i64.wrap ((n : Int) + 1) = n + 1 := IntWalk.i64_in _ (by omega)
      have k0 : w3.heap[w.heap.size]? = some (.cells tok0 34 (0, 0)) := below_block B3 (by simp; omega) (alloc_old (below_block B1 (by simp) (alloc_block _ _)))
      have k1 : w3.heap[w1.heap.size]? = some (.cells #[.int .i64 3, .string ⟨#[]⟩, .int .i64 0, .int .i64 0] 34 (0, 0)) := below_block B3 (by simp) (alloc_block _ _)
      have q0 : w3.cell? ⟨w.heap.size, 0, none⟩ = some (.int .i64 0) := by rw [cell_of_block k0]; rfl
      have q1 : w3.cell? ⟨w.heap.size, 1, none⟩ = some (.string ⟨#[]⟩) := by rw [cell_of_block k0]; rfl
      have q2 : w3.cell? ⟨w.heap.size, 2, none⟩ = some (.int .i64 0) := by rw [cell_of_block k0]; rfl
      have q3 : w3.cell? ⟨w.heap.size, 3, none⟩ = some (.int .i64 0) := by rw [cell_of_block k0]; rfl
      have qf : ∀ j, w3.frozen? ⟨w.heap.size, j, none⟩ = false := frozen_of_block k0
      have p0 : w3.cell? ⟨w1.heap.size, 0, none⟩ = some (.int .i64 3) := by rw [cell_of_block k1]; rfl
      have p1 : w3.cell? ⟨w1.heap.size, 1, none⟩ = some (.string ⟨#[]⟩) := by rw [cell_of_block k1]; rfl
      have p2 : w3.cell? ⟨w1.heap.size, 2, none⟩ = some (.int .i64 0) := by rw [cell_of_block k1]; rfl
      have p3 : w3.cell? ⟨w1.heap.size, 3, none⟩ = some (.int .i64 0) := by rw [cell_of_block k1]; rfl
      have pf : ∀ j, w3.frozen? ⟨w1.heap.size, j, none⟩ = false := frozen_of_block k1
      have hne : ¬ w.heap.size = w1.heap.size := by omega
      have hne' : ¬ w1.heap.size = w.heap.size := by omega
      clear c1 f1 k0 k1
      have hz3 : w1.heap.size < w3.heap.size := by have := B3.size; simp at this; omega
      go_wp2_with fail
      go_region_with (go_at_call 72; refine (ranged_any _ _).mono ?_; rintro e w' ⟨rfl, rfl⟩)
      all_goals go_wp2_with fail
      all_goals refine bodyPost_ret (v := .tuple #[.agg #[.int .i64 3, .string ⟨#[]⟩, .int .i64 (wrap64 (wrap32 M)), .int .i64 0], .int .i64 (n + 1), .int .i64 91]) (by simp [results, Tryd.results43, go_sem, q0, q1, q2, q3, hne, hne']) rfl ⟨(((((hbel3.setCell (by exact Nat.le_of_lt hz1) _).setCell (Nat.le_refl _) _).setCell (Nat.le_refl _) _).setCell (Nat.le_refl _) _).setCell (Nat.le_refl _) _).drew, ?_⟩
      all_goals (rw [FIN.out]; exact ⟨_, _, _, _, _, rfl⟩)
  · rw [decide_eq_false h72]
    have H72 := Lib.hid h72
    clear h72
    go_wp2_with fail
    refine (prefix_one s n 88 _).mono ?_
    rintro e w2 ⟨rfl, rfl⟩
    by_cases h88 : s.data.toList[n]? = some 88
    · rw [decide_eq_true h88]
      have H88 := Lib.hid h88
      clear h88
      go_wp2_with fail
      refine (parse_of _ 16 8 (by rw [ByteArray.size_extract]; omega) _ (HV.out.stays (hbel.alloc hbel.size _)) _ _ _ (by decide) (pu_16_8 _ (by rw [ByteArray.size_extract]; omega) (by rw [ByteArray.size_extract]; omega) (by rw [HD.out, ← HN.out]; exact run_take_all) _)).mono ?_
      rw [HD.out]
      rintro e w3 ⟨B3, ⟨hok, rfl⟩ | ⟨hno, t, x, M, m0, m1, rfl⟩⟩
      · have hbel3 : Below w.heap.size w w3 := bthen (hbel.alloc hbel.size _) B3
        obtain ⟨V, hV⟩ : ∃ V, V = numVal 16 (s.data.toList.take n) := ⟨_, rfl⟩
        rw [← hV]
        have hvb : (V : Int) ≤ 255 := by omega
        have HVV := Lib.hid hV
        clear hV hok
        have fin : r = .ok (⟨4, [], V, 0⟩, n + 1) := by
          rw [← HRES.out, numTok]
          simp only [HN.out]
          rw [if_neg H72.out, if_pos H88.out]
          rw [if_pos (by rw [← HVV.out]; omega), ← HVV.out]
        have FIN := Lib.hid fin
        clear fin
        have hnw : IntKind.i64.wrap ((n : Int) + 1) = n + 1 := IntWalk.i64_in _ (by omega)
        have k0 : w3.heap[w.heap.size]? = some (.cells tok0 34 (0, 0)) := below_block B3 (by simp; omega) (alloc_old (below_block B1 (by simp) (alloc_block _ _)))
        have k1 : w3.heap[w1.heap.size]? = some (.cells #[.int .i64 3, .string ⟨#[]⟩, .int .i64 0, .int .i64 0] 34 (0, 0)) := below_block B3 (by simp) (alloc_block _ _)
        have q0 : w3.cell? ⟨w.heap.size, 0, none⟩ = some (.int .i64 0) := by rw [cell_of_block k0]; rfl
        have q1 : w3.cell? ⟨w.heap.size, 1, none⟩ = some (.string ⟨#[]⟩) := by rw [cell_of_block k0]; rfl
        have q2 : w3.cell? ⟨w.heap.size, 2, none⟩ = some (.int .i64 0) := by rw [cell_of_block k0]; rfl
        have q3 : w3.cell? ⟨w.heap.size, 3, none⟩ = some (.int .i64 0) := by rw [cell_of_block k0]; rfl
        have qf : ∀ j, w3.frozen? ⟨w.heap.size, j, none⟩ = false := frozen_of_block k0
        have p0 : w3.cell? ⟨w1.heap.size, 0, none⟩ = some (.int .i64 3) := by rw [cell_of_block k1]; rfl
        have p1 : w3.cell? ⟨w1.heap.size, 1, none⟩ = some (.string ⟨#[]⟩) := by rw [cell_of_block k1]; rfl
        have p2 : w3.cell? ⟨w1.heap.size, 2, none⟩ = some (.int .i64 0) := by rw [cell_of_block k1]; rfl
        have p3 : w3.cell? ⟨w1.heap.size, 3, none⟩ = some (.int .i64 0) := by rw [cell_of_block k1]; rfl
        have pf : ∀ j, w3.frozen? ⟨w1.heap.size, j, none⟩ = false := frozen_of_block k1
        have hne : ¬ w.heap.size = w1.heap.size := by omega
        have hne' : ¬ w1.heap.size = w.heap.size := by omega
        clear c1 f1 k0 k1
        have hz3 : w1.heap.size < w3.heap.size := by have := B3.size; simp at this; omega
        go_wp2_with fail
        go_region_with (go_at_call 72; refine (ranged_any _ _).mono ?_; rintro e w' ⟨rfl, rfl⟩)
        all_goals go_wp2_with fail
        all_goals refine bodyPost_ret (v := .tuple #[.agg #[.int .i64 4, .string ⟨#[]⟩, .int .i64 V, .int .i64 0], .int .i64 (n + 1), .int .i64 0]) (by simp [results, Tryd.results43, go_sem, q0, q1, q2, q3, hne, hne']) rfl ⟨((((((hbel3.setCell (by exact Nat.le_of_lt hz1) _).setCell (by exact Nat.le_of_lt hz1) _).setCell (Nat.le_refl _) _).setCell (Nat.le_refl _) _).setCell (Nat.le_refl _) _).setCell (Nat.le_refl _) _).drew, ?_⟩
        all_goals (rw [FIN.out]; rfl)
      · have hbel3 : Below w.heap.size w w3 := bthen (hbel.alloc hbel.size _) B3
        have hv0 : 255 < numVal 16 (s.data.toList.take n) := by omega
        have fin : r = .error 91 := by
          rw [← HRES.out, numTok]
          simp only [HN.out]
          rw [if_neg H72.out, if_pos H88.out]
          rw [if_neg (by omega)]
        have FIN := Lib.hid fin
        clear fin hv0 hno
        have hnw : IntKind.i64.wrap ((n : Int) + 1) = n + 1 := IntWalk.i64_in _ (by omega)
        have k0 : w3.heap[w.heap.size]? = some (.cells tok0 34 (0, 0)) := below_block B3 (by simp; omega) (alloc_old (below_block B1 (by simp) (alloc_block _ _)))
        have k1 : w3.heap[w1.heap.size]? = some (.cells #[.int .i64 3, .string ⟨#[]⟩, .int .i64 0, .int .i64 0] 34 (0, 0)) := below_block B3 (by simp) (alloc_block _ _)
        have q0 : w3.cell? ⟨w.heap.size, 0, none⟩ = some (.int .i64 0) := by rw [cell_of_block k0]; rfl
        have q1 : w3.cell? ⟨w.heap.size, 1, none⟩ = some (.string ⟨#[]⟩) := by rw [cell_of_block k0]; rfl
        have q2 : w3.cell? ⟨w.heap.size, 2, none⟩ = some (.int .i64 0) := by rw [cell_of_block k0]; rfl
        have q3 : w3.cell? ⟨w.heap.size, 3, none⟩ = some (.int .i64 0) := by rw [cell_of_block k0]; rfl
        have qf : ∀ j, w3.frozen? ⟨w.heap.size, j, none⟩ = false := frozen_of_block k0
        have p0 : w3.cell? ⟨w1.heap.size, 0, none⟩ = some (.int .i64 3) := by rw [cell_of_block k1]; rfl
        have p1 : w3.cell? ⟨w1.heap.size, 1, none⟩ = some (.string ⟨#[]⟩) := by rw [cell_of_block k1]; rfl
        have p2 : w3.cell? ⟨w1.heap.size, 2, none⟩ = some (.int .i64 0) := by rw [cell_of_block k1]; rfl
        have p3 : w3.cell? ⟨w1.heap.size, 3, none⟩ = some (.int .i64 0) := by rw [cell_of_block k1]; rfl
        have pf : ∀ j, w3.frozen? ⟨w1.heap.size, j, none⟩ = false := frozen_of_block k1
        have hne : ¬ w.heap.size = w1.heap.size := by omega
        have hne' : ¬ w1.heap.size = w.heap.size := by omega
        clear c1 f1 k0 k1
        have hz3 : w1.heap.size < w3.heap.size := by have := B3.size; simp at this; omega
        go_wp2_with fail
        go_region_with (go_at_call 72; refine (ranged_any _ _).mono ?_; rintro e w' ⟨rfl, rfl⟩)
        all_goals go_wp2_with fail
        all_goals refine bodyPost_ret (v := .tuple #[.agg #[.int .i64 4, .string ⟨#[]⟩, .int .i64 M, .int .i64 0], .int .i64 (n + 1), .int .i64 91]) (by simp [results, Tryd.results43, go_sem, q0, q1, q2, q3, hne, hne']) rfl ⟨((((((hbel3.setCell (by exact Nat.le_of_lt hz1) _).setCell (by exact Nat.le_of_lt hz1) _).setCell (Nat.le_refl _) _).setCell (Nat.le_refl _) _).setCell (Nat.le_refl _) _).setCell (Nat.le_refl _) _).drew, ?_⟩
        all_goals (rw [FIN.out]; exact ⟨_, _, _, _, _, rfl⟩)
    · rw [decide_eq_false h88]
      have H88 := Lib.hid h88
      clear h88
      have hdl : (s.extract 0 n).size = n := by rw [ByteArray.size_extract]; omega
      go_wp2_with fail
      refine (run_any (s.extract 0 n) b3 _ isDigit tab_digit _ (by omega) (below_block (hbel.alloc hbel.size _) (block_lt I3.out) I3.out)).mono ?_
      rw [HD.out]
      rintro e w3 ⟨rfl, B3⟩
      obtain ⟨g, hg⟩ : ∃ g, run isDigit (s.data.toList.take n) = g := ⟨_, rfl⟩
      have hgn : g ≤ n := by rw [← hg]; exact Nat.le_trans (run_le _ _) (by simp; omega)
      rw [hg]
      have hbel3 : Below w.heap.size w w3 := bthen (hbel.alloc hbel.size _) B3
      have k0 : w3.heap[w.heap.size]? = some (.cells tok0 34 (0, 0)) := below_block B3 (by simp; omega) (alloc_old (below_block B1 (by simp) (alloc_block _ _)))
      have k1 : w3.heap[w1.heap.size]? = some (.cells #[.int .i64 3, .string ⟨#[]⟩, .int .i64 0, .int .i64 0] 34 (0, 0)) := below_block B3 (by simp) (alloc_block _ _)
      have q0 : w3.cell? ⟨w.heap.size, 0, none⟩ = some (.int .i64 0) := by rw [cell_of_block k0]; rfl
      have q1 : w3.cell? ⟨w.heap.size, 1, none⟩ = some (.string ⟨#[]⟩) := by rw [cell_of_block k0]; rfl
      have q2 : w3.cell? ⟨w.heap.size, 2, none⟩ = some (.int .i64 0) := by rw [cell_of_block k0]; rfl
      have q3 : w3.cell? ⟨w.heap.size, 3, none⟩ = some (.int .i64 0) := by rw [cell_of_block k0]; rfl
      have qf : ∀ j, w3.frozen? ⟨w.heap.size, j, none⟩ = false := frozen_of_block k0
      have p0 : w3.cell? ⟨w1.heap.size, 0, none⟩ = some (.int .i64 3) := by rw [cell_of_block k1]; rfl
      have p1 : w3.cell? ⟨w1.heap.size, 1, none⟩ = some (.string ⟨#[]⟩) := by rw [cell_of_block k1]; rfl
      have p2 : w3.cell? ⟨w1.heap.size, 2, none⟩ = some (.int .i64 0) := by rw [cell_of_block k1]; rfl
      have p3 : w3.cell? ⟨w1.heap.size, 3, none⟩ = some (.int .i64 0) := by rw [cell_of_block k1]; rfl
      have pf : ∀ j, w3.frozen? ⟨w1.heap.size, j, none⟩ = false := frozen_of_block k1
      have hne : ¬ w.heap.size = w1.heap.size := by omega
      have hne' : ¬ w1.heap.size = w.heap.size := by omega
      have K0 := Lib.hid k0
      have K1 := Lib.hid k1
      clear c1 f1 k0 k1
      have hz3 : w1.heap.size < w3.heap.size := by have := B3.size; simp at this; omega
      by_cases hlt : (g : Int) < n
      · have fin : r = .error 90 := by
          rw [← HRES.out, numTok]
          simp only [HN.out]
          rw [if_neg H72.out, if_neg H88.out, if_pos (.inl (by rw [hg]; omega))]
        have FIN := Lib.hid fin
        clear fin hg
        go_wp2_with fail
        refine bodyPost_ret (v := .tuple #[.agg #[.int .i64 3, .string ⟨#[]⟩, .int .i64 0, .int .i64 0], .int .i64 0, .int .i64 90]) (by simp [results, Tryd.results43, go_sem, q0, q1, q2, q3, hne, hne']) rfl ⟨(((hbel3.setCell (Nat.le_refl _) _).setCell (Nat.le_refl _) _).setCell (Nat.le_refl _) _).setCell (Nat.le_refl _) _, ?_⟩
        rw [FIN.out]; exact ⟨_, _, _, _, _, rfl⟩
      · have hgn2 : g = n := by omega
        have HG := Lib.hid (hg.trans hgn2)
        clear hg hgn2
        go_wp2_with fail
        refine (prefix_one s n 46 _).mono ?_
        rintro e w4 ⟨rfl, rfl⟩
        by_cases h46 : s.data.toList[n]? = some 46
        · rw [decide_eq_true h46]
          have H46 := Lib.hid h46
          clear h46
          go_wp2_with fail
          refine (prefix_two s n 46 46 _).mono ?_
          rintro e w4 ⟨rfl, rfl⟩
          by_cases h47 : s.data.toList[n]? = some 46 ∧ s.data.toList[n + 1]? = some 46
          · rw [decide_eq_true h47]
            have hcond : ¬ (run isDigit (s.data.toList.take n) < n ∨ (s.data.toList[n]? = some 46 ∧ s.data.toList[n + 1]? ≠ some 46)) := by
              rw [HG.out]; rintro (h | h); · omega
              exact h.2 h47.2
            have HCOND := Lib.hid hcond
            clear h47 hcond
            go_wp2_with fail
            have hall : ∀ c ∈ (s.extract 0 n).data.toList, isDigit c = true := by
              rw [HD.out]
              have := @run_take_all isDigit (s.data.toList.take n)
              rw [HG.out] at this
              rwa [List.take_take, Nat.min_self] at this
            refine (parse_of _ 10 31 (by omega) _ (HV.out.stays hbel3) _ _ _ (by decide) (pu_10_31 _ (by omega) (by omega) hall _)).mono ?_
            rw [HD.out]
            rintro e w4 ⟨B4, ⟨hok, rfl⟩ | ⟨hno, t, x, M, m0, m1, rfl⟩⟩
            · have hbel4 : Below w.heap.size w w4 := bthen hbel3 B4
              have j0 : w4.heap[w.heap.size]? = some (.cells tok0 34 (0, 0)) := below_block B4 (by omega) K0.out
              have j1 : w4.heap[w1.heap.size]? = some (.cells #[.int .i64 3, .string ⟨#[]⟩, .int .i64 0, .int .i64 0] 34 (0, 0)) := below_block B4 (by omega) K1.out
              have zs0 : w4.cell? ⟨w.heap.size, 0, none⟩ = some (.int .i64 0) := by rw [cell_of_block j0]; rfl
              have zs1 : w4.cell? ⟨w.heap.size, 1, none⟩ = some (.string ⟨#[]⟩) := by rw [cell_of_block j0]; rfl
              have zs2 : w4.cell? ⟨w.heap.size, 2, none⟩ = some (.int .i64 0) := by rw [cell_of_block j0]; rfl
              have zs3 : w4.cell? ⟨w.heap.size, 3, none⟩ = some (.int .i64 0) := by rw [cell_of_block j0]; rfl
              have zsf : ∀ j, w4.frozen? ⟨w.heap.size, j, none⟩ = false := frozen_of_block j0
              have zt0 : w4.cell? ⟨w1.heap.size, 0, none⟩ = some (.int .i64 3) := by rw [cell_of_block j1]; rfl
              have zt1 : w4.cell? ⟨w1.heap.size, 1, none⟩ = some (.string ⟨#[]⟩) := by rw [cell_of_block j1]; rfl
              have zt2 : w4.cell? ⟨w1.heap.size, 2, none⟩ = some (.int .i64 0) := by rw [cell_of_block j1]; rfl
              have zt3 : w4.cell? ⟨w1.heap.size, 3, none⟩ = some (.int .i64 0) := by rw [cell_of_block j1]; rfl
              have ztf : ∀ j, w4.frozen? ⟨w1.heap.size, j, none⟩ = false := frozen_of_block j1
              clear j0 j1 q0 q1 q2 q3 qf p0 p1 p2 p3 pf hall
              have hz4 : w1.heap.size < w4.heap.size := by have := B4.size; omega
              obtain ⟨V, hV⟩ : ∃ V, V = numVal 10 (s.data.toList.take n) := ⟨_, rfl⟩
              rw [← hV]
              have hvb : (V : Int) ≤ 2147483647 := by omega
              have HVV := Lib.hid hV
              clear hV hok
              have fin : r = .ok (⟨3, [], V, 0⟩, n) := by
                rw [← HRES.out, numTok]
                simp only [HN.out]
                rw [if_neg H72.out, if_neg H88.out, if_neg HCOND.out, if_pos (by rw [← HVV.out]; omega), ← HVV.out]
              have FIN := Lib.hid fin
              clear fin
              go_wp2_with fail
              go_region_with (go_at_call 72; refine (ranged_any _ _).mono ?_; rintro e w' ⟨rfl, rfl⟩)
              all_goals go_wp2_with fail
              all_goals refine bodyPost_ret (v := .tuple #[.agg #[.int .i64 3, .string ⟨#[]⟩, .int .i64 V, .int .i64 0], .int .i64 n, .int .i64 0]) (by simp [results, Tryd.results43, go_sem, zs0, zs1, zs2, zs3, hne, hne']) rfl ⟨(((((hbel4.setCell (by exact Nat.le_of_lt hz1) _).setCell (Nat.le_refl _) _).setCell (Nat.le_refl _) _).setCell (Nat.le_refl _) _).setCell (Nat.le_refl _) _).drew, ?_⟩
              all_goals rw [FIN.out]
            · have hbel4 : Below w.heap.size w w4 := bthen hbel3 B4
              have j0 : w4.heap[w.heap.size]? = some (.cells tok0 34 (0, 0)) := below_block B4 (by omega) K0.out
              have j1 : w4.heap[w1.heap.size]? = some (.cells #[.int .i64 3, .string ⟨#[]⟩, .int .i64 0, .int .i64 0] 34 (0, 0)) := below_block B4 (by omega) K1.out
              have zs0 : w4.cell? ⟨w.heap.size, 0, none⟩ = some (.int .i64 0) := by rw [cell_of_block j0]; rfl
              have zs1 : w4.cell? ⟨w.heap.size, 1, none⟩ = some (.string ⟨#[]⟩) := by rw [cell_of_block j0]; rfl
              have zs2 : w4.cell? ⟨w.heap.size, 2, none⟩ = some (.int .i64 0) := by rw [cell_of_block j0]; rfl
              have zs3 : w4.cell? ⟨w.heap.size, 3, none⟩ = some (.int .i64 0) := by rw [cell_of_block j0]; rfl
              have zsf : ∀ j, w4.frozen? ⟨w.heap.size, j, none⟩ = false := frozen_of_block j0
              have zt0 : w4.cell? ⟨w1.heap.size, 0, none⟩ = some (.int .i64 3) := by rw [cell_of_block j1]; rfl
              have zt1 : w4.cell? ⟨w1.heap.size, 1, none⟩ = some (.string ⟨#[]⟩) := by rw [cell_of_block j1]; rfl
              have zt2 : w4.cell? ⟨w1.heap.size, 2, none⟩ = some (.int .i64 0) := by rw [cell_of_block j1]; rfl
              have zt3 : w4.cell? ⟨w1.heap.size, 3, none⟩ = some (.int .i64 0) := by rw [cell_of_block j1]; rfl
              have ztf : ∀ j, w4.frozen? ⟨w1.heap.size, j, none⟩ = false := frozen_of_block j1
              clear j0 j1 q0 q1 q2 q3 qf p0 p1 p2 p3 pf hall
              have hz4 : w1.heap.size < w4.heap.size := by have := B4.size; omega
              have fin : r = .error 91 := by
                rw [← HRES.out, numTok]
                simp only [HN.out]
                rw [if_neg H72.out, if_neg H88.out, if_neg HCOND.out, if_neg (by omega)]
              have FIN := Lib.hid fin
              clear fin hno
              go_wp2_with fail
              go_region_with (go_at_call 72; refine (ranged_any _ _).mono ?_; rintro e w' ⟨rfl, rfl⟩)
              all_goals go_wp2_with fail
              all_goals refine bodyPost_ret (v := .tuple #[.agg #[.int .i64 3, .string ⟨#[]⟩, .int .i64 M, .int .i64 0], .int .i64 n, .int .i64 91]) (by simp [results, Tryd.results43, go_sem, zs0, zs1, zs2, zs3, hne, hne']) rfl ⟨(((((hbel4.setCell (by exact Nat.le_of_lt hz1) _).setCell (Nat.le_refl _) _).setCell (Nat.le_refl _) _).setCell (Nat.le_refl _) _).setCell (Nat.le_refl _) _).drew, ?_⟩
              all_goals (rw [FIN.out]; exact ⟨_, _, _, _, _, rfl⟩)
          · rw [decide_eq_false h47]
            have hcond : (run isDigit (s.data.toList.take n) < n ∨ (s.data.toList[n]? = some 46 ∧ s.data.toList[n + 1]? ≠ some 46)) := .inr ⟨H46.out, fun h => h47 ⟨H46.out, h⟩⟩
            have fin : r = .error 90 := by
              rw [← HRES.out, numTok]
              simp only [HN.out]
              rw [if_neg H72.out, if_neg H88.out, if_pos hcond]
            have FIN := Lib.hid fin
            clear fin h47 hcond
            go_wp2_with fail
            refine bodyPost_ret (v := .tuple #[.agg #[.int .i64 3, .string ⟨#[]⟩, .int .i64 0, .int .i64 0], .int .i64 0, .int .i64 90]) (by simp [results, Tryd.results43, go_sem, q0, q1, q2, q3, hne, hne']) rfl ⟨(((hbel3.setCell (Nat.le_refl _) _).setCell (Nat.le_refl _) _).setCell (Nat.le_refl _) _).setCell (Nat.le_refl _) _, ?_⟩
            rw [FIN.out]; exact ⟨_, _, _, _, _, rfl⟩
        · rw [decide_eq_false h46]
          have hcond : ¬ (run isDigit (s.data.toList.take n) < n ∨ (s.data.toList[n]? = some 46 ∧ s.data.toList[n + 1]? ≠ some 46)) := by
            rw [HG.out]; rintro (h | h); · omega
            exact h46 h.1
          have HCOND := Lib.hid hcond
          clear h46 hcond
          go_wp2_with fail
          have hall : ∀ c ∈ (s.extract 0 n).data.toList, isDigit c = true := by
            rw [HD.out]
            have := @run_take_all isDigit (s.data.toList.take n)
            rw [HG.out] at this
            rwa [List.take_take, Nat.min_self] at this
          refine (parse_of _ 10 31 (by omega) _ (HV.out.stays hbel3) _ _ _ (by decide) (pu_10_31 _ (by omega) (by omega) hall _)).mono ?_
          rw [HD.out]
          rintro e w4 ⟨B4, ⟨hok, rfl⟩ | ⟨hno, t, x, M, m0, m1, rfl⟩⟩
          · have hbel4 : Below w.heap.size w w4 := bthen hbel3 B4
            have j0 : w4.heap[w.heap.size]? = some (.cells tok0 34 (0, 0)) := below_block B4 (by omega) K0.out
            have j1 : w4.heap[w1.heap.size]? = some (.cells #[.int .i64 3, .string ⟨#[]⟩, .int .i64 0, .int .i64 0] 34 (0, 0)) := below_block B4 (by omega) K1.out
            have zs0 : w4.cell? ⟨w.heap.size, 0, none⟩ = some (.int .i64 0) := by rw [cell_of_block j0]; rfl
            have zs1 : w4.cell? ⟨w.heap.size, 1, none⟩ = some (.string ⟨#[]⟩) := by rw [cell_of_block j0]; rfl
            have zs2 : w4.cell? ⟨w.heap.size, 2, none⟩ = some (.int .i64 0) := by rw [cell_of_block j0]; rfl
            have zs3 : w4.cell? ⟨w.heap.size, 3, none⟩ = some (.int .i64 0) := by rw [cell_of_block j0]; rfl
            have zsf : ∀ j, w4.frozen? ⟨w.heap.size, j, none⟩ = false := frozen_of_block j0
            have zt0 : w4.cell? ⟨w1.heap.size, 0, none⟩ = some (.int .i64 3) := by rw [cell_of_block j1]; rfl
            have zt1 : w4.cell? ⟨w1.heap.size, 1, none⟩ = some (.string ⟨#[]⟩) := by rw [cell_of_block j1]; rfl
            have zt2 : w4.cell? ⟨w1.heap.size, 2, none⟩ = some (.int .i64 0) := by rw [cell_of_block j1]; rfl
            have zt3 : w4.cell? ⟨w1.heap.size, 3, none⟩ = some (.int .i64 0) := by rw [cell_of_block j1]; rfl
            have ztf : ∀ j, w4.frozen? ⟨w1.heap.size, j, none⟩ = false := frozen_of_block j1
            clear j0 j1 q0 q1 q2 q3 qf p0 p1 p2 p3 pf hall
            have hz4 : w1.heap.size < w4.heap.size := by have := B4.size; omega
            obtain ⟨V, hV⟩ : ∃ V, V = numVal 10 (s.data.toList.take n) := ⟨_, rfl⟩
            rw [← hV]
            have hvb : (V : Int) ≤ 2147483647 := by omega
            have HVV := Lib.hid hV
            clear hV hok
            have fin : r = .ok (⟨3, [], V, 0⟩, n) := by
              rw [← HRES.out, numTok]
              simp only [HN.out]
              rw [if_neg H72.out, if_neg H88.out, if_neg HCOND.out, if_pos (by rw [← HVV.out]; omega), ← HVV.out]
            have FIN := Lib.hid fin
            clear fin
            go_wp2_with fail
            go_region_with (go_at_call 72; refine (ranged_any _ _).mono ?_; rintro e w' ⟨rfl, rfl⟩)
            all_goals go_wp2_with fail
            all_goals refine bodyPost_ret (v := .tuple #[.agg #[.int .i64 3, .string ⟨#[]⟩, .int .i64 V, .int .i64 0], .int .i64 n, .int .i64 0]) (by simp [results, Tryd.results43, go_sem, zs0, zs1, zs2, zs3, hne, hne']) rfl ⟨(((((hbel4.setCell (by exact Nat.le_of_lt hz1) _).setCell (Nat.le_refl _) _).setCell (Nat.le_refl _) _).setCell (Nat.le_refl _) _).setCell (Nat.le_refl _) _).drew, ?_⟩
            all_goals rw [FIN.out]
          · have hbel4 : Below w.heap.size w w4 := bthen hbel3 B4
            have j0 : w4.heap[w.heap.size]? = some (.cells tok0 34 (0, 0)) := below_block B4 (by omega) K0.out
            have j1 : w4.heap[w1.heap.size]? = some (.cells #[.int .i64 3, .string ⟨#[]⟩, .int .i64 0, .int .i64 0] 34 (0, 0)) := below_block B4 (by omega) K1.out
            have zs0 : w4.cell? ⟨w.heap.size, 0, none⟩ = some (.int .i64 0) := by rw [cell_of_block j0]; rfl
            have zs1 : w4.cell? ⟨w.heap.size, 1, none⟩ = some (.string ⟨#[]⟩) := by rw [cell_of_block j0]; rfl
            have zs2 : w4.cell? ⟨w.heap.size, 2, none⟩ = some (.int .i64 0) := by rw [cell_of_block j0]; rfl
            have zs3 : w4.cell? ⟨w.heap.size, 3, none⟩ = some (.int .i64 0) := by rw [cell_of_block j0]; rfl
            have zsf : ∀ j, w4.frozen? ⟨w.heap.size, j, none⟩ = false := frozen_of_block j0
            have zt0 : w4.cell? ⟨w1.heap.size, 0, none⟩ = some (.int .i64 3) := by rw [cell_of_block j1]; rfl
            have zt1 : w4.cell? ⟨w1.heap.size, 1, none⟩ = some (.string ⟨#[]⟩) := by rw [cell_of_block j1]; rfl
            have zt2 : w4.cell? ⟨w1.heap.size, 2, none⟩ = some (.int .i64 0) := by rw [cell_of_block j1]; rfl
            have zt3 : w4.cell? ⟨w1.heap.size, 3, none⟩ = some (.int .i64 0) := by rw [cell_of_block j1]; rfl
            have ztf : ∀ j, w4.frozen? ⟨w1.heap.size, j, none⟩ = false := frozen_of_block j1
            clear j0 j1 q0 q1 q2 q3 qf p0 p1 p2 p3 pf hall
            have hz4 : w1.heap.size < w4.heap.size := by have := B4.size; omega
            have fin : r = .error 91 := by
              rw [← HRES.out, numTok]
              simp only [HN.out]
              rw [if_neg H72.out, if_neg H88.out, if_neg HCOND.out, if_neg (by omega)]
            have FIN := Lib.hid fin
            clear fin hno
            go_wp2_with fail
            go_region_with (go_at_call 72; refine (ranged_any _ _).mono ?_; rintro e w' ⟨rfl, rfl⟩)
            all_goals go_wp2_with fail
            all_goals refine bodyPost_ret (v := .tuple #[.agg #[.int .i64 3, .string ⟨#[]⟩, .int .i64 M, .int .i64 0], .int .i64 n, .int .i64 91]) (by simp [results, Tryd.results43, go_sem, zs0, zs1, zs2, zs3, hne, hne']) rfl ⟨(((((hbel4.setCell (by exact Nat.le_of_lt hz1) _).setCell (Nat.le_refl _) _).setCell (Nat.le_refl _) _).setCell (Nat.le_refl _) _).setCell (Nat.le_refl _) _).drew, ?_⟩
            all_goals (rw [FIN.out]; exact ⟨_, _, _, _, _, rfl⟩)
end Go.Proofs.YtkieeaajhomdoaaDoor
set_option linter.unusedVariables false
set_option linter.unusedSimpArgs false
namespace Go.Proofs.YtkieeaajhomdoaaDoor
open Go.RowKit Go.Maps Go.MapKept
theorem find_first {α : Type} (p : α → Bool) : ∀ (l : List α) (k : Nat) (h : k < l.length), (∀ j, (hj : j < k) → p (l[j]'(Nat.lt_trans hj h)) = false) → p l[k] = true → l.find? p = some l[k]
  | [], k, h, _, _ => by simp at h
  | x :: l, 0, h, _, hp => by simp only [List.getElem_cons_zero] at hp ⊢; rw [List.find?_cons_of_pos hp]
  | x :: l, k + 1, h, hn, hp => by
    have h0 := hn 0 (by omega)
    simp only [List.getElem_cons_zero] at h0
    rw [List.find?_cons_of_neg (by simp [h0])]
    have := find_first p l k (by simpa using h) (fun j hj => by have := hn (j + 1) (by omega); simpa using this) (by simpa using hp)
    simpa using this
theorem find_none' {α : Type} (p : α → Bool) (l : List α) (hn : ∀ j, (hj : j < l.length) → p l[j] = false) : l.find? p = none := by
  rw [List.find?_eq_none]
  intro x hx
  obtain ⟨j, hj, rfl⟩ := List.getElem_of_mem hx
  simp [hn j hj]
theorem IsLexer.stays {w w' : World} {x : Value} (h : IsLexer w x) (hb : Below w.heap.size w w') : IsLexer w' x := by
  obtain ⟨a, b1, b2, b3, b4, m, rfl, ha, i1, i2, i3, i4, hown⟩ := h
  exact ⟨a, b1, b2, b3, b4, m, rfl, below_block hb (block_lt ha) ha, below_block hb (block_lt i1) i1, below_block hb (block_lt i2) i2, below_block hb (block_lt i3) i3, below_block hb (block_lt i4) i4,
    hown.kept (row := none) ⟨hb.os, hb.tape, hb.output, hb.size, fun i hi _ => hb.block i hi⟩ (by simp)⟩
theorem tok_head (s : ByteArray) (h : 0 < s.size) : s.data.toList = s[0] :: s.data.toList.drop 1 := by
  have := drop_cons s 0 h
  simpa using this
set_option maxRecDepth 100000 in
set_option maxHeartbeats 4000000 in
theorem token_any (x : Value) (s : ByteArray) (w : World) (hx : IsLexer w x) (hv : Vars w) (hs : s.size ≤ 140737488351232) (h1 : 0 < s.size) (r : Except Int (Tok × Nat)) (hres : tok s.data.toList = r) :
    Calls Tryd.prog 23 #[x, .string s] w (AtTok r w) := by
  have HX := Lib.hid hx
  obtain ⟨a, b1, b2, b3, b4, m, rfl, ha, i1, i2, i3, i4, hown⟩ := hx
  have hc0 : w.cell? ⟨a, 0, none⟩ = some (.pointer (some ⟨b1, 0, none⟩)) := by rw [cell_of_block ha]; rfl
  have hc1 : w.cell? ⟨a, 1, none⟩ = some (.pointer (some ⟨b2, 0, none⟩)) := by rw [cell_of_block ha]; rfl
  have hc2 : w.cell? ⟨a, 2, none⟩ = some (.pointer (some ⟨b3, 0, none⟩)) := by rw [cell_of_block ha]; rfl
  have hal : a < w.heap.size := block_lt ha
  have hal1 : b1 < w.heap.size := block_lt i1
  have hal3 : b3 < w.heap.size := block_lt i3
  have t1 : w.cell? ⟨b1, s[0].toNat, none⟩ = some (.bool (isLetter s[0])) := by rw [cell_of_block i1, tabA_get _ _ (UInt8.toNat_lt _), tab_letter]
  have t3 : w.cell? ⟨b3, s[0].toNat, none⟩ = some (.bool (isDigit s[0])) := by rw [cell_of_block i3, tabA_get _ _ (UInt8.toNat_lt _), tab_digit]
  have hz0 : (0 : Int) < s.size := by omega
  have hb : ((s[0].toNat : Nat) : Int) < 256 := by have := UInt8.toNat_lt s[0]; omega
  have HRES := Lib.hid hres
  have HV := Lib.hid hv
  have I2 := Lib.hid i2
  have HH := Lib.hid (tok_head s h1)
  clear i1 i2 i3 i4 hown hres hv ha
  by_cases hlet : isLetter s[0] = true
  · rw [hlet] at t1
    have HL := Lib.hid hlet
    clear hlet
    go_enter Tryd.func23, Tryd.ntmps23
    go_wp2_with fail
    refine (run_any s b2 _ isInside tab_inside _ hs (alloc_old I2.out)).mono ?_
    rintro e w1 ⟨rfl, B1⟩
    obtain ⟨n, hn⟩ : ∃ n, run isInside s.data.toList = n := ⟨_, rfl⟩
    have hns : n ≤ s.size := by rw [← hn, ← len_list]; exact run_le _ _
    rw [hn]
    have HN := Lib.hid hn
    clear hn
    have hbel : Below w.heap.size w w1 := ((Below.refl _ _).alloc (Nat.le_refl _) _).trans (B1.mono (by simp))
    have k0 : w1.heap[w.heap.size]? = some (.cells tok0 34 (0, 0)) := below_block B1 (by simp) (alloc_block _ _)
    have K0 := Lib.hid k0
    clear k0 t1 t3
    have hz1 : w.heap.size < w1.heap.size := by have := B1.size; simp at this; omega
    have hd : (s.extract 0 n).data.toList = s.data.toList.take n := by rw [extract_list]; rfl
    obtain ⟨rw, hrw⟩ : ∃ rw, wordTok (s.extract 0 n).data.toList = rw := ⟨_, rfl⟩
    go_wp2_with fail
    refine (word_any _ (s.extract 0 n) _ (HX.out.stays hbel) (by rw [ByteArray.size_extract]; omega) rw hrw).mono ?_
    have hr : r = rw.map fun t => (t, n) := by
      rw [← HRES.out, HH.out, tok]
      simp only [HL.out, if_true]
      rw [← HH.out, HN.out, ← hd, hrw]
    rintro e w2 ⟨B2, hw⟩
    have k0 : w2.heap[w.heap.size]? = some (.cells tok0 34 (0, 0)) := below_block B2 (by omega) K0.out
    have q0 : w2.cell? ⟨w.heap.size, 0, none⟩ = some (.int .i64 0) := by rw [cell_of_block k0]; rfl
    have q1 : w2.cell? ⟨w.heap.size, 1, none⟩ = some (.string ⟨#[]⟩) := by rw [cell_of_block k0]; rfl
    have q2 : w2.cell? ⟨w.heap.size, 2, none⟩ = some (.int .i64 0) := by rw [cell_of_block k0]; rfl
    have q3 : w2.cell? ⟨w.heap.size, 3, none⟩ = some (.int .i64 0) := by rw [cell_of_block k0]; rfl
    have qf : ∀ j, w2.frozen? ⟨w.heap.size, j, none⟩ = false := frozen_of_block k0
    have hz2 : w.heap.size < w2.heap.size := by have := B2.size; omega
    have hbel2 : Below w.heap.size w w2 := bthen hbel B2
    clear k0 hrw
    cases rw with
    | ok t =>
      simp only at hw
      subst hw
      have HR := Lib.hid hr
      clear hr
      obtain ⟨tk, tx, tn, ta⟩ := t
      go_wp2_with fail
      refine bodyPost_ret (v := .tuple #[.agg #[.int .i64 tk, .string ⟨tx.toArray⟩, .int .i64 tn, .int .i64 ta], .int .i64 n, .int .i64 0]) (by simp [results, Tryd.results23, go_sem, q0, q1, q2, q3, hz2, Nat.ne_of_lt hz2]) rfl ⟨((((hbel2.setCell (Nat.le_refl _) _).setCell (Nat.le_refl _) _).setCell (Nat.le_refl _) _).setCell (Nat.le_refl _) _).alloc (by simp; omega) _, ?_⟩
      rw [HR.out]
      rfl
    | error c =>
      simp only at hw
      subst hw
      have HR := Lib.hid hr
      clear hr
      go_wp2_with fail
      refine bodyPost_ret (v := .tuple #[.agg #[.int .i64 0, .string ⟨#[]⟩, .int .i64 0, .int .i64 0], .int .i64 n, .int .i64 c]) (by simp [results, Tryd.results23, go_sem, q0, q1, q2, q3, hz2, Nat.ne_of_lt hz2]) rfl ⟨((((hbel2.setCell (Nat.le_refl _) _).setCell (Nat.le_refl _) _).setCell (Nat.le_refl _) _).setCell (Nat.le_refl _) _).alloc (by simp; omega) _, ?_⟩
      rw [HR.out]
      exact ⟨_, _, _, _, _, rfl⟩
  · have hlet' : isLetter s[0] = false := by simpa using hlet
    rw [hlet'] at t1
    have HL := Lib.hid hlet'
    clear hlet hlet'
    by_cases hdig : isDigit s[0] = true
    · rw [hdig] at t3
      have hr1 : 1 ≤ run isHex s.data.toList := by
        rw [HH.out, run_cons_pos (by simp [isHex, hdig])]; omega
      have hr : numTok s.data.toList = r := by
        rw [← HRES.out, HH.out, tok]
        simp only [HL.out, hdig, Bool.false_eq_true, if_false, if_true]
      have HR := Lib.hid hr
      have HR1 := Lib.hid hr1
      clear hr hr1 hdig
      go_enter Tryd.func23, Tryd.ntmps23
      go_wp2_with fail
      refine (number_any _ s _ (HX.out.stays ((Below.refl _ _).alloc (Nat.le_refl _) _)) (HV.out.stays ((Below.refl _ _).alloc (Nat.le_refl _) _)) hs HR1.out r HR.out).mono ?_
      rintro e w2 ⟨B2, hw⟩
      have k0 : w2.heap[w.heap.size]? = some (.cells tok0 34 (0, 0)) := below_block B2 (by simp) (alloc_block _ _)
      have q0 : w2.cell? ⟨w.heap.size, 0, none⟩ = some (.int .i64 0) := by rw [cell_of_block k0]; rfl
      have q1 : w2.cell? ⟨w.heap.size, 1, none⟩ = some (.string ⟨#[]⟩) := by rw [cell_of_block k0]; rfl
      have q2 : w2.cell? ⟨w.heap.size, 2, none⟩ = some (.int .i64 0) := by rw [cell_of_block k0]; rfl
      have q3 : w2.cell? ⟨w.heap.size, 3, none⟩ = some (.int .i64 0) := by rw [cell_of_block k0]; rfl
      have qf : ∀ j, w2.frozen? ⟨w.heap.size, j, none⟩ = false := frozen_of_block k0
      have hz2 : w.heap.size < w2.heap.size := by have := B2.size; simp at this; omega
      have hbel2 : Below w.heap.size w w2 := ((Below.refl _ _).alloc (Nat.le_refl _) _).trans (B2.mono (by simp))
      clear k0
      cases r with
      | ok tn =>
        obtain ⟨⟨tk, tx, tn, ta⟩, n⟩ := tn
        simp only at hw
        subst hw
        go_wp2_with fail
        refine bodyPost_ret (v := .tuple #[.agg #[.int .i64 tk, .string ⟨tx.toArray⟩, .int .i64 tn, .int .i64 ta], .int .i64 n, .int .i64 0]) (by simp [results, Tryd.results23, go_sem, q0, q1, q2, q3, hz2, Nat.ne_of_lt hz2]) rfl ⟨((((hbel2.setCell (Nat.le_refl _) _).setCell (Nat.le_refl _) _).setCell (Nat.le_refl _) _).setCell (Nat.le_refl _) _), ?_⟩
        rfl
      | error c =>
        obtain ⟨k, y, mm, aa, n, rfl⟩ := hw
        go_wp2_with fail
        refine bodyPost_ret (v := .tuple #[.agg #[.int .i64 k, .string y, .int .i64 mm, .int .i64 aa], .int .i64 n, .int .i64 c]) (by simp [results, Tryd.results23, go_sem, q0, q1, q2, q3, hz2, Nat.ne_of_lt hz2]) rfl ⟨((((hbel2.setCell (Nat.le_refl _) _).setCell (Nat.le_refl _) _).setCell (Nat.le_refl _) _).setCell (Nat.le_refl _) _), ?_⟩
        exact ⟨_, _, _, _, _, rfl⟩
    · have hdig' : isDigit s[0] = false := by simpa using hdig
      rw [hdig'] at t3
      have HD := Lib.hid hdig'
      clear hdig hdig'
      by_cases hq : ((s[0].toNat : Nat) : Int) = 34
      · have hr : textTok (s.data.toList.drop 1) = r := by
          rw [← HRES.out, HH.out, tok]
          simp only [HL.out, HD.out, Bool.false_eq_true, if_false]
          rw [if_pos (UInt8.toNat_inj.1 (by show _ = 34; omega))]
          rfl
        have HR := Lib.hid hr
        have hqb : (((s[0].toNat : Nat) : Int) == 34) = true := by rw [beq_iff_eq]; exact hq
        clear hr hq
        go_enter Tryd.func23, Tryd.ntmps23
        go_wp2_with fail
        refine (text_any s _ hs h1 r HR.out).mono ?_
        rintro e w2 ⟨B2, hw⟩
        have k0 : w2.heap[w.heap.size]? = some (.cells tok0 34 (0, 0)) := below_block B2 (by simp) (alloc_block _ _)
        have q0 : w2.cell? ⟨w.heap.size, 0, none⟩ = some (.int .i64 0) := by rw [cell_of_block k0]; rfl
        have q1 : w2.cell? ⟨w.heap.size, 1, none⟩ = some (.string ⟨#[]⟩) := by rw [cell_of_block k0]; rfl
        have q2 : w2.cell? ⟨w.heap.size, 2, none⟩ = some (.int .i64 0) := by rw [cell_of_block k0]; rfl
        have q3 : w2.cell? ⟨w.heap.size, 3, none⟩ = some (.int .i64 0) := by rw [cell_of_block k0]; rfl
        have qf : ∀ j, w2.frozen? ⟨w.heap.size, j, none⟩ = false := frozen_of_block k0
        have hz2 : w.heap.size < w2.heap.size := by have := B2.size; simp at this; omega
        have hbel2 : Below w.heap.size w w2 := ((Below.refl _ _).alloc (Nat.le_refl _) _).trans (B2.mono (by simp))
        clear k0
        cases r with
        | ok tn =>
          obtain ⟨⟨tk, tx, tn, ta⟩, n⟩ := tn
          simp only at hw
          subst hw
          go_wp2_with fail
          refine bodyPost_ret (v := .tuple #[.agg #[.int .i64 tk, .string ⟨tx.toArray⟩, .int .i64 tn, .int .i64 ta], .int .i64 n, .int .i64 0]) (by simp [results, Tryd.results23, go_sem, q0, q1, q2, q3, hz2, Nat.ne_of_lt hz2]) rfl ⟨((((hbel2.setCell (Nat.le_refl _) _).setCell (Nat.le_refl _) _).setCell (Nat.le_refl _) _).setCell (Nat.le_refl _) _), ?_⟩
          rfl
        | error c =>
          obtain ⟨k, y, mm, aa, n, rfl⟩ := hw
          go_wp2_with fail
          refine bodyPost_ret (v := .tuple #[.agg #[.int .i64 k, .string y, .int .i64 mm, .int .i64 aa], .int .i64 n, .int .i64 c]) (by simp [results, Tryd.results23, go_sem, q0, q1, q2, q3, hz2, Nat.ne_of_lt hz2]) rfl ⟨((((hbel2.setCell (Nat.le_refl _) _).setCell (Nat.le_refl _) _).setCell (Nat.le_refl _) _).setCell (Nat.le_refl _) _), ?_⟩
          exact ⟨_, _, _, _, _, rfl⟩
      · have hqb : (((s[0].toNat : Nat) : Int) == 34) = false := by rw [beq_eq_false_iff_ne]; exact hq
        have hr : signTok s.data.toList = r := by
          rw [← HRES.out, HH.out, tok]
          simp only [HL.out, HD.out, Bool.false_eq_true, if_false]
          rw [if_neg (fun h => hq (by rw [h]; rfl))]
        have HR := Lib.hid hr
        clear hr hq
        go_enter Tryd.func23, Tryd.ntmps23
        go_wp2_with fail
        refine (signs_any _ (HV.out.stays ((Below.refl _ _).alloc (Nat.le_refl _) _)).space).mono ?_
        rintro e w2 ⟨rfl, rfl⟩
        have hrow : ((w.alloc (.cells tok0 34)).alloc (.cells (textsRow signList) 9)).heap[w.heap.size + 1]? = some (.cells (textsRow signList) 9 (0, 0)) := by
          have := alloc_block (w.alloc (.cells tok0 34)) (.cells (textsRow signList) 9)
          simpa using this
        have HROW := Lib.hid hrow
        clear hrow
        go_wp2_with fail
        go_loop [66] (fun i => ∃ k : Nat, k ≤ 26 ∧ i = .int .i64 k ∧ Hid (∀ j, (hj : j < k) → (hj2 : j < signList.length) → (signList[j]).isPrefixOf s.data.toList = false)) (fun i => 26 - (intOf i).toNat)
        case atStart => exact ⟨0, by omega, rfl, fun j hj => by omega⟩
        case round =>
          obtain ⟨k, hk, rfl, HN⟩ := hrel
          by_cases hlt : k < 26
          · obtain ⟨sg, hsg⟩ : ∃ sg, signList[k]'(by rw [signList_len]; exact hlt) = sg := ⟨_, rfl⟩
            have HSG := Lib.hid hsg
            have hcell : (textsRow signList)[k]? = some (.string ⟨sg.toArray⟩) := by
              rw [textsRow_get _ _ (by rw [signList_len]; exact hlt), hsg]
            clear hsg
            go_wp2_with fail
            refine (Tryd.strings_HasPrefix s ⟨sg.toArray⟩ _).mono ?_
            rintro e w3 ⟨rfl, rfl⟩
            obtain ⟨pb, hpb⟩ : ∃ pb, Lib.hasPrefix s.data.toList (⟨sg.toArray⟩ : ByteArray).data.toList = pb := ⟨_, rfl⟩
            rw [hpb]
            have hpb' : sg.isPrefixOf s.data.toList = pb := hpb
            clear hpb
            cases pb with
            | true =>
              have hr : r = .ok (⟨6, sg, 0, 0⟩, sg.length) := by
                rw [← HR.out, signTok, find_first _ signList k (by rw [signList_len]; exact hlt) (fun j hj => HN.out j hj (by rw [signList_len]; omega)) (by rw [HSG.out]; exact hpb'), HSG.out]
              have HR2 := Lib.hid hr
              clear hr hpb'
              go_wp2_with fail
              refine bodyPost_ret (v := .tuple #[.agg #[.int .i64 6, .string ⟨sg.toArray⟩, .int .i64 0, .int .i64 0], .int .i64 sg.length, .int .i64 0]) (by simp [results, Tryd.results23, go_sem]) rfl ⟨((Below.refl _ _).alloc (Nat.le_refl _) _).alloc (by simp) _, ?_⟩
              rw [HR2.out]
            | false =>
              have HPB := Lib.hid hpb'
              clear hpb'
              go_wp2_with fail
              go_round
              case rel =>
                refine ⟨k + 1, by omega, by go_num, fun j hj hj2 => ?_⟩
                by_cases e : j = k
                · subst e; rw [HSG.out]; exact HPB.out
                · exact HN.out j (by omega) hj2
              case measure => simp [intOf]; omega
          · have hr : r = .error 90 := by
              rw [← HR.out, signTok, find_none' _ signList (fun j hj => HN.out j (by rw [signList_len] at hj; omega) hj)]
            have HR2 := Lib.hid hr
            clear hr
            go_wp2_with fail
            refine bodyPost_ret (v := .tuple #[.agg #[.int .i64 0, .string ⟨#[]⟩, .int .i64 0, .int .i64 0], .int .i64 0, .int .i64 90]) (by simp [results, Tryd.results23, go_sem]) rfl ⟨((Below.refl _ _).alloc (Nat.le_refl _) _).alloc (by simp) _, ?_⟩
            rw [HR2.out]
            exact ⟨_, _, _, _, _, rfl⟩
end Go.Proofs.YtkieeaajhomdoaaDoor
set_option linter.unusedVariables false
set_option linter.unusedSimpArgs false
namespace Go.Proofs.YtkieeaajhomdoaaDoor
theorem cmt_bound : ∀ (l : List UInt8) (d : Int) (n : Nat), cmt l d = some n → 2 ≤ n ∧ n ≤ l.length
  | [], d, n, h => by simp [cmt] at h
  | [c], d, n, h => by
    rw [cmt.eq_def] at h
    split at h
    · rename_i e; simp at e
    · rename_i e; simp at e
    · rename_i e
      simp only [List.cons.injEq] at e
      obtain ⟨rfl, rfl⟩ := e
      simp [cmt] at h
    · simp at h
  | c :: c2 :: r, d, n, h => by
    rw [cmt.eq_def] at h
    split at h
    · rename_i e
      simp only [List.cons.injEq] at e
      obtain ⟨rfl, rfl, rfl⟩ := e
      obtain ⟨m, hm, rfl⟩ := Option.map_eq_some_iff.1 h
      have := cmt_bound _ _ _ hm
      simp only [List.length_cons]
      omega
    · rename_i e
      simp only [List.cons.injEq] at e
      obtain ⟨rfl, rfl, rfl⟩ := e
      split at h
      · simp only [Option.some.injEq] at h
        simp only [List.length_cons]
        omega
      · obtain ⟨m, hm, rfl⟩ := Option.map_eq_some_iff.1 h
        have := cmt_bound _ _ _ hm
        simp only [List.length_cons]
        omega
    · rename_i e
      simp only [List.cons.injEq] at e
      obtain ⟨rfl, rfl⟩ := e
      obtain ⟨m, hm, rfl⟩ := Option.map_eq_some_iff.1 h
      have := cmt_bound _ _ _ hm
      simp only [List.length_cons] at this ⊢
      omega
    · rename_i e; simp at e
/-- What a token's function may say. -/
def TokFine (l : List UInt8) (r : Except Int (Tok × Nat)) : Prop :=
  (∀ t n, r = .ok (t, n) → 1 ≤ n ∧ n ≤ l.length ∧ t.at_ = 0) ∧ ∀ c, r = .error c → c = 2 ∨ c = 90 ∨ c = 91
theorem fine_ok {l : List UInt8} {t : Tok} {n : Nat} (h0 : t.at_ = 0) (h1 : 1 ≤ n) (h2 : n ≤ l.length) : TokFine l (.ok (t, n)) :=
  ⟨fun t' n' h => by simp only [Except.ok.injEq, Prod.mk.injEq] at h; obtain ⟨rfl, rfl⟩ := h; exact ⟨h1, h2, h0⟩, fun c h => by cases h⟩
theorem fine_err {l : List UInt8} {c : Int} (h : c = 2 ∨ c = 90 ∨ c = 91) : TokFine l (.error c) :=
  ⟨fun t n h => (by cases h), fun c' h' => by simp only [Except.error.injEq] at h'; subst h'; exact h⟩
theorem lt_of_get {l : List UInt8} {n : Nat} {c : UInt8} (h : l[n]? = some c) : n < l.length := by
  rcases Nat.lt_or_ge n l.length with h' | h'
  · exact h'
  · rw [List.getElem?_eq_none h'] at h; cases h
theorem num_fine {l : List UInt8} (h : 1 ≤ run isHex l) : TokFine l (numTok l) := by
  have hl := run_le isHex l
  unfold numTok
  simp only
  split
  · rename_i e
    have := lt_of_get e
    split
    · exact fine_ok rfl (by omega) (by omega)
    · exact fine_err (by simp)
  · split
    · rename_i e
      have := lt_of_get e
      split
      · exact fine_ok rfl (by omega) (by omega)
      · exact fine_err (by simp)
    · split
      · exact fine_err (by simp)
      · split
        · exact fine_ok rfl h hl
        · exact fine_err (by simp)
theorem text_fine {c : UInt8} {l : List UInt8} : TokFine (c :: l) (textTok l) := by
  unfold textTok
  simp only
  split
  · rename_i e
    have := lt_of_get e
    split
    · exact fine_err (by simp)
    · exact fine_ok rfl (by omega) (by simp only [List.length_cons]; omega)
  · exact fine_err (by simp)
theorem sign_pos : ∀ w ∈ signList, 1 ≤ w.length := by decide
theorem sign_fine {l : List UInt8} : TokFine l (signTok l) := by
  unfold signTok
  split
  · rename_i w e
    have h1 := List.mem_of_find?_eq_some e
    have h2 := List.find?_some e
    exact fine_ok rfl (sign_pos w h1) (List.isPrefixOf_iff_prefix.1 h2).length_le
  · exact fine_err (by simp)
theorem tok_fine (l : List UInt8) : TokFine l (tok l) := by
  unfold tok
  split
  · exact fine_err (by simp)
  · rename_i c r
    split
    · rename_i h
      have hl := run_le isInside (c :: r)
      have hp := run_cons_pos (p := isInside) (c := c) (by simp [isInside, h]) r
      unfold wordTok
      split
      · exact fine_ok rfl (by omega) hl
      · split
        · exact fine_err (by simp)
        · exact fine_ok rfl (by omega) hl
    · split
      · rename_i h
        exact num_fine (by rw [run_cons_pos (by simp [isHex, h])]; omega)
      · split
        · exact text_fine
        · exact sign_fine
theorem lexF_nil (f : Nat) (k : Nat) (acc : List Tok) : lexF (f + 1) [] k acc = .ok acc := rfl
theorem lexF_blank (f : Nat) (c : UInt8) (r : List UInt8) (k : Nat) (acc : List Tok) (h : isBlank c = true) : lexF (f + 1) (c :: r) k acc = lexF f r (k + 1) acc := by
  simp only [lexF, h, if_true]
theorem lexF_cmt_bad (f : Nat) (c : UInt8) (r : List UInt8) (k : Nat) (acc : List Tok) (h : isBlank c = false) (h2 : [40, 42].isPrefixOf (c :: r) = true) (h3 : cmt (c :: r) 0 = none) : lexF (f + 1) (c :: r) k acc = .error (k, 90) := by
  simp only [lexF, h, h2, h3, Bool.false_eq_true, if_false, if_true]
theorem lexF_cmt (f : Nat) (c : UInt8) (r : List UInt8) (k : Nat) (acc : List Tok) (n : Nat) (h : isBlank c = false) (h2 : [40, 42].isPrefixOf (c :: r) = true) (h3 : cmt (c :: r) 0 = some n) : lexF (f + 1) (c :: r) k acc = lexF f ((c :: r).drop n) (k + n) acc := by
  simp only [lexF, h, h2, h3, Bool.false_eq_true, if_false, if_true]
theorem lexF_err (f : Nat) (c : UInt8) (r : List UInt8) (k : Nat) (acc : List Tok) (e : Int) (h : isBlank c = false) (h2 : [40, 42].isPrefixOf (c :: r) = false) (h3 : tok (c :: r) = .error e) : lexF (f + 1) (c :: r) k acc = .error (k, e) := by
  simp only [lexF, h, h2, h3, Bool.false_eq_true, if_false]
theorem lexF_many (f : Nat) (c : UInt8) (r : List UInt8) (k : Nat) (acc : List Tok) (t : Tok) (n : Nat) (h : isBlank c = false) (h2 : [40, 42].isPrefixOf (c :: r) = false) (h3 : tok (c :: r) = .ok (t, n)) (h4 : acc.length = 6000) : lexF (f + 1) (c :: r) k acc = .error (k, 3) := by
  simp only [lexF, h, h2, h3, h4, Bool.false_eq_true, if_false, if_true]
theorem lexF_tok (f : Nat) (c : UInt8) (r : List UInt8) (k : Nat) (acc : List Tok) (t : Tok) (n : Nat) (h : isBlank c = false) (h2 : [40, 42].isPrefixOf (c :: r) = false) (h3 : tok (c :: r) = .ok (t, n)) (h4 : ¬ acc.length = 6000) : lexF (f + 1) (c :: r) k acc = lexF f ((c :: r).drop n) (k + n) (acc ++ [{ t with at_ := k }]) := by
  simp only [lexF, h, h2, h3, h4, Bool.false_eq_true, if_false]
theorem lexF_fuel (n : Nat) : ∀ (l : List UInt8), l.length = n → ∀ (f g : Nat) (k : Nat) (acc : List Tok), l.length < f → l.length < g → lexF f l k acc = lexF g l k acc := by
  induction n using Nat.strongRecOn with
  | _ n ih =>
    intro l hl f g k acc hf hg
    obtain ⟨f, rfl⟩ : ∃ m, f = m + 1 := ⟨f - 1, by omega⟩
    obtain ⟨g, rfl⟩ : ∃ m, g = m + 1 := ⟨g - 1, by omega⟩
    match l with
    | [] => rfl
    | c :: r =>
      simp only [List.length_cons] at hl hf hg
      cases hb : isBlank c with
      | true => rw [lexF_blank _ _ _ _ _ hb, lexF_blank _ _ _ _ _ hb]; exact ih r.length (by omega) r rfl _ _ _ _ (by omega) (by omega)
      | false =>
        cases hp : [40, 42].isPrefixOf (c :: r) with
        | true =>
          cases hc : cmt (c :: r) 0 with
          | none => rw [lexF_cmt_bad _ _ _ _ _ hb hp hc, lexF_cmt_bad _ _ _ _ _ hb hp hc]
          | some m =>
            have := cmt_bound _ _ _ hc
            rw [lexF_cmt _ _ _ _ _ _ hb hp hc, lexF_cmt _ _ _ _ _ _ hb hp hc]
            simp only [List.length_cons] at this
            have e : ((c :: r).drop m).length = r.length + 1 - m := by rw [List.length_drop, List.length_cons]
            exact ih _ (by rw [e]; omega) _ rfl _ _ _ _ (by rw [e]; omega) (by rw [e]; omega)
        | false =>
          cases ht : tok (c :: r) with
          | error e => rw [lexF_err _ _ _ _ _ _ hb hp ht, lexF_err _ _ _ _ _ _ hb hp ht]
          | ok tn =>
            obtain ⟨t, m⟩ := tn
            have := (tok_fine (c :: r)).1 t m ht
            simp only [List.length_cons] at this
            have e : ((c :: r).drop m).length = r.length + 1 - m := by rw [List.length_drop, List.length_cons]
            by_cases h6 : acc.length = 6000
            · rw [lexF_many _ _ _ _ _ _ _ hb hp ht h6, lexF_many _ _ _ _ _ _ _ hb hp ht h6]
            · rw [lexF_tok _ _ _ _ _ _ _ hb hp ht h6, lexF_tok _ _ _ _ _ _ _ hb hp ht h6]
              exact ih _ (by rw [e]; omega) _ rfl _ _ _ _ (by rw [e]; omega) (by rw [e]; omega)
/-- What is still to be read. -/
def Rest (l : List UInt8) (k : Nat) (acc : List Tok) (r : Except (Int × Int) (List Tok)) : Prop := lexF (l.length + 1) l k acc = r
section
variable {l : List UInt8} {c : UInt8} {r : List UInt8} {k : Nat} {acc : List Tok} {R : Except (Int × Int) (List Tok)}
theorem Rest.nil (h : Rest [] k acc R) : R = .ok acc := h.symm
theorem Rest.blank (h : Rest (c :: r) k acc R) (hb : isBlank c = true) : Rest r (k + 1) acc R := by
  unfold Rest at *
  rw [← h, lexF_blank _ _ _ _ _ hb]
  rfl
theorem Rest.cmtBad (h : Rest (c :: r) k acc R) (hb : isBlank c = false) (h2 : [40, 42].isPrefixOf (c :: r) = true) (h3 : cmt (c :: r) 0 = none) : R = .error (k, 90) := by
  unfold Rest at *
  rw [← h, lexF_cmt_bad _ c r k acc hb h2 h3]
theorem Rest.cmtOk {n : Nat} (h : Rest (c :: r) k acc R) (hb : isBlank c = false) (h2 : [40, 42].isPrefixOf (c :: r) = true) (h3 : cmt (c :: r) 0 = some n) : Rest ((c :: r).drop n) (k + n) acc R := by
  have := cmt_bound _ _ _ h3
  unfold Rest at *
  rw [← h, lexF_cmt _ c r k acc n hb h2 h3]
  simp only [List.length_cons] at this
  exact lexF_fuel _ _ rfl _ _ _ _ (by omega) (by rw [List.length_drop, List.length_cons]; omega)
theorem Rest.bad {e : Int} (h : Rest (c :: r) k acc R) (hb : isBlank c = false) (h2 : [40, 42].isPrefixOf (c :: r) = false) (h3 : tok (c :: r) = .error e) : R = .error (k, e) := by
  unfold Rest at *
  rw [← h, lexF_err _ c r k acc e hb h2 h3]
theorem Rest.many {t : Tok} {n : Nat} (h : Rest (c :: r) k acc R) (hb : isBlank c = false) (h2 : [40, 42].isPrefixOf (c :: r) = false) (h3 : tok (c :: r) = .ok (t, n)) (h4 : acc.length = 6000) : R = .error (k, 3) := by
  unfold Rest at *
  rw [← h, lexF_many _ c r k acc t n hb h2 h3 h4]
theorem Rest.tok {t : Tok} {n : Nat} (h : Rest (c :: r) k acc R) (hb : isBlank c = false) (h2 : [40, 42].isPrefixOf (c :: r) = false) (h3 : Go.Proofs.YtkieeaajhomdoaaDoor.tok (c :: r) = .ok (t, n)) (h4 : ¬ acc.length = 6000) : Rest ((c :: r).drop n) (k + n) (acc ++ [{ t with at_ := k }]) R := by
  have := (tok_fine (c :: r)).1 t n h3
  unfold Rest at *
  rw [← h, lexF_tok _ c r k acc t n hb h2 h3 h4]
  simp only [List.length_cons] at this
  exact lexF_fuel _ _ rfl _ _ _ _ (by omega) (by rw [List.length_drop, List.length_cons]; omega)
end
end Go.Proofs.YtkieeaajhomdoaaDoor
set_option linter.unusedVariables false
set_option linter.unusedSimpArgs false
namespace Go.Proofs.YtkieeaajhomdoaaDoor
open Go.RowKit Go.Maps Go.MapKept
def tokCells (t : Tok) : List Value := [.int .i64 t.kind, .string ⟨t.text.toArray⟩, .int .i64 t.n, .int .i64 t.at_]
def toksCells (l : List Tok) : List Value := l.flatMap tokCells
theorem toksCells_snoc (l : List Tok) (t : Tok) : toksCells (l ++ [t]) = toksCells l ++ tokCells t := by simp [toksCells]
theorem info_tok : (Tryd.prog.info? 34).map (fun i => (i.zero, i.size, i.bytes)) = some (some (.agg #[.int .i64 0, .string ⟨#[]⟩, .int .i64 0, .int .i64 0]), 4, 40) := by kernel_rfl
def AtLex (r : Except (Int × Int) (List Tok)) (w : World) (e : Ending) (w' : World) : Prop := Below w.heap.size w w' ∧
  match r with
  | .ok l => ∃ v base, e = .returned (.tuple #[v, .int .i64 0, .int .i64 0]) ∧ w.heap.size ≤ base ∧ w'.ownsRow base 34 4 v l.length (toksCells l)
  | .error (a, c) => e = .returned (.tuple #[.slice none 0 0, .int .i64 a, .int .i64 c])
theorem blank_int (c : UInt8) : isBlank c = ((((c.toNat : Nat) : Int) == 9) || (((c.toNat : Nat) : Int) == 10) || (((c.toNat : Nat) : Int) == 13) || (((c.toNat : Nat) : Int) == 32)) := by
  have h : ∀ n : Nat, (c.toNat == n) = (((c.toNat : Nat) : Int) == (n : Int)) := fun n => by
    rw [Bool.eq_iff_iff, beq_iff_eq, beq_iff_eq]; omega
  unfold isBlank
  rw [h 9, h 10, h 13, h 32]; rfl
theorem own_below {w w1 : World} {base : Nat} {e : TypeId} {size n : Nat} {v : Value} {xs : List Value} (h : w.ownsRow base e size v n xs) (hb : Below w.heap.size w w1) : w1.ownsRow base e size v n xs :=
  h.kept (row := none) ⟨hb.os, hb.tape, hb.output, hb.size, fun i hi _ => hb.block i hi⟩ (by cases v.ownBlock <;> simp)
theorem own_base {w : World} {base : Nat} {e : TypeId} {size n : Nat} {v : Value} {xs : List Value} (h : w.ownsRow base e size v n xs) (k : Nat) (hk : v.ownBlock = some k) : base ≤ k := by
  rcases h.2 with ⟨rfl, _⟩ | ⟨g, cap, cur, rfl, hb, _⟩
  · simp [Value.ownBlock] at hk
  · have : g = k := by simpa [Value.ownBlock] using hk
    omega
theorem add_plain (g j : Nat) : (⟨g, 0, none⟩ : Addr).add j = ⟨g, j, none⟩ := by unfold Addr.add; split <;> simp_all
theorem new_cells {W : World} {arr : Array Value} {T : TypeId} {b : Nat} (hb : W.heap.size = b) {j : Nat} {u : Value} (h : arr[j]? = some u) : (W.alloc (.cells arr T)).cell? ((⟨b, 0, none⟩ : Addr).add j) = some u := by
  subst hb
  rw [add_plain, cell_of_block (alloc_block _ _)]; exact h
theorem tok_one (t : Tok) : ∀ u ∈ tokCells t, u.oneCell' = true := by
  intro u hu
  simp only [tokCells, List.mem_cons, List.not_mem_nil, or_false] at hu
  rcases hu with rfl | rfl | rfl | rfl <;> rfl
theorem prefix_bool (s : ByteArray) (k : Nat) (h : k < s.size) : [40, 42].isPrefixOf (s[k] :: s.data.toList.drop (k + 1)) = decide (s.data.toList[k]? = some 40 ∧ s.data.toList[k + 1]? = some 42) := by
  have e0 : s.data.toList[k]? = some s[k] := by rw [List.getElem?_eq_getElem (by rw [len_list]; exact h), get_list s k h]
  have e1 : s.data.toList[k + 1]? = (s.data.toList.drop (k + 1))[0]? := by rw [List.getElem?_drop]
  rw [e0, e1]
  generalize s.data.toList.drop (k + 1) = l
  generalize s[k] = x
  match l with
  | [] => rw [Bool.eq_iff_iff]; simp [List.isPrefixOf]
  | y :: l =>
    show ((40 == x) && ((42 == y) && true)) = decide (some x = some 40 ∧ some y = some 42)
    by_cases h1 : x = 40
    · by_cases h2 : y = 42
      · subst h1; subst h2; rfl
      · have e : ((42 : UInt8) == y) = false := by simpa using fun h => h2 h.symm
        have f : ¬ (some x = some (40 : UInt8) ∧ some y = some (42 : UInt8)) := fun h => h2 (by injection h.2)
        rw [e, decide_eq_false f]; simp
    · have e : ((40 : UInt8) == x) = false := by simpa using fun h => h1 h.symm
      have f : ¬ (some x = some (40 : UInt8) ∧ some y = some (42 : UInt8)) := fun h => h1 (by injection h.1)
      rw [e, decide_eq_false f]; rfl
set_option maxRecDepth 100000 in
set_option maxHeartbeats 4000000 in
theorem Lex_any (s : ByteArray) (w : World) (hv : Vars w) (hs : s.size ≤ 140737488351232) (r : Except (Int × Int) (List Tok)) (hres : lex s.data.toList = r) :
    Calls Tryd.prog 11 #[.string s] w (AtLex r w) := by
  have HV := Lib.hid hv
  have HRES := Lib.hid hres
  clear hv hres
  obtain ⟨i0, hi, hz0, hz1, hz2⟩ := info_parts info_tok
  have HI := Lib.hid hi
  have HZ0 := Lib.hid hz0
  have HZ1 := Lib.hid hz1
  have HZ2 := Lib.hid hz2
  clear hi hz0 hz1 hz2
  by_cases hlong : (16384 : Int) < s.size
  · go_enter Tryd.func11, Tryd.ntmps11
    go_wp2_with fail
    go_ret3
    refine ⟨Below.refl _ _, ?_⟩
    rw [← HRES.out, lex, if_pos (by rw [len_list]; omega)]
    rfl
  · have hrest : Rest s.data.toList 0 [] r := by
      rw [← HRES.out, lex, if_neg (by rw [len_list]; omega)]
      rfl
    have HREST := Lib.hid hrest
    clear hrest
    go_enter Tryd.func11, Tryd.ntmps11
    go_wp2_with fail
    refine (begun_any _ HV.out.space).mono ?_
    rintro e w1 ⟨x, rfl, hx, B1⟩
    have HX := Lib.hid hx
    clear hx
    go_wp2_with fail
    go_loopw [6, 7] (fun v i wr => ∃ (k : Nat) (acc : List Tok) (A : Option Addr) (C : Nat), v = .slice A acc.length C ∧ k ≤ s.size ∧ i = .int .i64 k ∧ acc.length ≤ 6000 ∧ Aside (wr.ownsRow w1.heap.size 34 4 (.slice A acc.length C) acc.length (toksCells acc)) ∧ Hid (Rest (s.data.toList.drop k) k acc r) ∧ Below w1.heap.size w1 wr) (fun _ i _ => s.size - (intOf i).toNat)
    case atStart => exact ⟨0, [], none, 0, rfl, by omega, rfl, by simp, ⟨by simp [toksCells], .inl ⟨rfl, rfl⟩⟩, HREST, Below.refl _ _⟩
    case round =>
      obtain ⟨k, acc, A, C, rfl, hk, rfl, hacc, hown, HR, hB⟩ := hrel
      by_cases hlt : k < s.size
      · have hdr := drop_cons s k hlt
        have HDR := Lib.hid hdr
        clear hdr
        have hcb : ((s[k].toNat : Nat) : Int) < 256 := by have := UInt8.toNat_lt s[k]; omega
        by_cases hbl : isBlank s[k] = true
        · have h0 := HR.out
          rw [HDR.out] at h0
          have HR2 := Lib.hid (h0.blank hbl)
          clear h0
          rw [blank_int] at hbl
          simp only [Bool.or_eq_true] at hbl
          rcases hbl with ((hq | hq) | hq) | hq
          · have hq : (((s[k].toNat : Nat) : Int) == 9) = true := by simpa using hq
            go_wp2_with fail
            go_roundw
            case rel => exact ⟨k + 1, acc, A, C, rfl, by omega, by go_num, hacc, hown, HR2, hB⟩
            case measure => simp [intOf]; omega
          · have hq : (((s[k].toNat : Nat) : Int) == 10) = true := by simpa using hq
            have e9 : (((s[k].toNat : Nat) : Int) == 9) = false := by
              have : ((s[k].toNat : Nat) : Int) = 10 := by simpa using hq
              rw [beq_eq_false_iff_ne]; omega
            go_wp2_with fail
            go_roundw
            case rel => exact ⟨k + 1, acc, A, C, rfl, by omega, by go_num, hacc, hown, HR2, hB⟩
            case measure => simp [intOf]; omega
          · have hq : (((s[k].toNat : Nat) : Int) == 13) = true := by simpa using hq
            have e9 : (((s[k].toNat : Nat) : Int) == 9) = false := by
              have : ((s[k].toNat : Nat) : Int) = 13 := by simpa using hq
              rw [beq_eq_false_iff_ne]; omega
            have e10 : (((s[k].toNat : Nat) : Int) == 10) = false := by
              have : ((s[k].toNat : Nat) : Int) = 13 := by simpa using hq
              rw [beq_eq_false_iff_ne]; omega
            go_wp2_with fail
            go_roundw
            case rel => exact ⟨k + 1, acc, A, C, rfl, by omega, by go_num, hacc, hown, HR2, hB⟩
            case measure => simp [intOf]; omega
          · have hq : (((s[k].toNat : Nat) : Int) == 32) = true := by simpa using hq
            have e9 : (((s[k].toNat : Nat) : Int) == 9) = false := by
              have : ((s[k].toNat : Nat) : Int) = 32 := by simpa using hq
              rw [beq_eq_false_iff_ne]; omega
            have e10 : (((s[k].toNat : Nat) : Int) == 10) = false := by
              have : ((s[k].toNat : Nat) : Int) = 32 := by simpa using hq
              rw [beq_eq_false_iff_ne]; omega
            have e13 : (((s[k].toNat : Nat) : Int) == 13) = false := by
              have : ((s[k].toNat : Nat) : Int) = 32 := by simpa using hq
              rw [beq_eq_false_iff_ne]; omega
            go_wp2_with fail
            go_roundw
            case rel => exact ⟨k + 1, acc, A, C, rfl, by omega, by go_num, hacc, hown, HR2, hB⟩
            case measure => simp [intOf]; omega
        · have hbl' : isBlank s[k] = false := by simpa using hbl
          have HBL := Lib.hid hbl'
          rw [blank_int] at hbl'
          simp only [Bool.or_eq_false_iff] at hbl'
          obtain ⟨⟨⟨e9, e10⟩, e13⟩, e32⟩ := hbl'
          clear hbl
          have hxe : (s.extract k s.size).data.toList = s[k] :: s.data.toList.drop (k + 1) := by rw [Lib.extract_to_end]; exact HDR.out
          have HXE := Lib.hid hxe
          have hxs : (s.extract k s.size).size ≤ 140737488351232 := by rw [ByteArray.size_extract]; omega
          have hxp : 0 < (s.extract k s.size).size := by rw [ByteArray.size_extract]; omega
          have hrl : Rest (s[k] :: s.data.toList.drop (k + 1)) k acc r := by rw [← HDR.out]; exact HR.out
          have HRL := Lib.hid hrl
          have hlen : (s[k] :: s.data.toList.drop (k + 1)).length = s.size - k := by rw [← HDR.out, List.length_drop, len_list]
          have HLEN := Lib.hid hlen
          clear hxe hrl hlen
          go_wp2_with fail
          refine (prefix_two s k 40 42 _).mono ?_
          rintro e w2 ⟨rfl, rfl⟩
          rw [← prefix_bool s k hlt]
          cases hp : [40, 42].isPrefixOf (s[k] :: s.data.toList.drop (k + 1)) with
          | true =>
            have HP := Lib.hid hp
            clear hp
            go_wp2_with fail
            refine (comment_any _ _ hxs).mono ?_
            rintro e w2 ⟨rfl, B2⟩
            rw [HXE.out]
            cases hc : cmt (s[k] :: s.data.toList.drop (k + 1)) 0 with
            | none =>
              have hr := HRL.out.cmtBad HBL.out HP.out hc
              have HRR := Lib.hid hr
              clear hr hc
              rw [show (((none : Option Nat).getD 0 : Nat) : Int) = 0 from rfl]
              go_wp2_with fail
              go_ret3
              refine ⟨bthen (bthen B1 hB) B2, ?_⟩
              rw [HRR.out]
              rfl
            | some n =>
              have hn := cmt_bound _ _ _ hc
              rw [HLEN.out] at hn
              have hr := HRL.out.cmtOk HBL.out HP.out hc
              rw [← HDR.out, List.drop_drop] at hr
              have HRR := Lib.hid hr
              have hn0 : ((n : Int) == 0) = false := by rw [beq_eq_false_iff_ne]; omega
              clear hr hc
              rw [show (((some n : Option Nat).getD 0 : Nat) : Int) = n from rfl]
              go_wp2_with fail
              go_roundw
              case rel => exact ⟨k + n, acc, A, C, rfl, by omega, by go_num, hacc, ⟨own_below hown.out B2⟩, HRR, bthen hB B2⟩
              case measure => simp [intOf]; omega
          | false =>
            have HP := Lib.hid hp
            clear hp
            obtain ⟨r1, hr1⟩ : ∃ r1, tok (s[k] :: s.data.toList.drop (k + 1)) = r1 := ⟨_, rfl⟩
            have HT := Lib.hid hr1
            have hfine := tok_fine (s[k] :: s.data.toList.drop (k + 1))
            rw [hr1, TokFine, HLEN.out] at hfine
            obtain ⟨hf1, hf2⟩ := hfine
            go_wp2_with fail
            refine (token_any x (s.extract k s.size) _ (HX.out.stays hB) (HV.out.stays (bthen B1 hB)) hxs hxp r1 (by rw [HXE.out]; exact hr1)).mono ?_
            clear hr1
            rintro e w2 ⟨B2, hw⟩
            cases r1 with
            | error c =>
              have hc := hf2 c rfl
              have hr := HRL.out.bad HBL.out HP.out HT.out
              have HRR := Lib.hid hr
              have hc0 : (c == 0) = false := by rw [beq_eq_false_iff_ne]; omega
              have hc1 : (c != 0) = true := by rw [bne_iff_ne]; omega
              clear hr hc hf1 hf2
              obtain ⟨kk, y, mm, aa, nn, rfl⟩ := hw
              go_wp2_with fail
              go_ret3
              refine ⟨(bthen (bthen B1 hB) B2).alloc (bthen (bthen B1 hB) B2).size _, ?_⟩
              rw [HRR.out]
              rfl
            | ok tn =>
              obtain ⟨⟨tk, tx, tn, ta⟩, n⟩ := tn
              obtain ⟨hn1, hn2, hta⟩ := hf1 _ _ rfl
              clear hf1 hf2
              simp only at hw
              subst hw
              by_cases h6 : acc.length = 6000
              · have hr := HRL.out.many HBL.out HP.out HT.out h6
                have HRR := Lib.hid hr
                have h6b : ((acc.length : Int) == 6000) = true := by rw [beq_iff_eq]; omega
                have H6 := Lib.hid h6
                clear hr h6
                go_wp2_with fail
                go_ret3
                refine ⟨(bthen (bthen B1 hB) B2).alloc (bthen (bthen B1 hB) B2).size _, ?_⟩
                rw [HRR.out]
                rfl
              · have hr := HRL.out.tok HBL.out HP.out HT.out h6
                rw [← HDR.out, List.drop_drop] at hr
                have HRR := Lib.hid hr
                have h6b : ((acc.length : Int) == 6000) = false := by rw [beq_eq_false_iff_ne]; omega
                have hown2 : Aside (w2.ownsRow w1.heap.size 34 4 (.slice A acc.length C) acc.length (toksCells acc)) := ⟨own_below hown.out B2⟩
                have hb2 : w1.heap.size ≤ w2.heap.size := (bthen hB B2).size
                have hbel2 : Below w1.heap.size w1 w2 := bthen hB B2
                have H6 := Lib.hid h6
                clear hr h6
                go_wp2_with (at_builtin; refine wpList_append_own _ rfl _ _ 23 rfl w1.heap.size 34 i0 _ 4 40 Tryd.underlying23 HI.out HZ0.out HZ1.out HZ2.out rfl (by decide) _ acc.length _ rfl ((hown2.out.alloc _).alloc _) ⟨w2.heap.size + 1, 0, none⟩ 1 1 (tokCells ⟨tk, tx, tn, k⟩) rfl rfl ?c1 ?c2 ?c3 ?c4 ?c5 ?_)
                case c1 => exact fun j u hu => new_cells (by simp) (by simpa [tokCells] using hu)
                case c2 => exact tok_one _
                case c3 => unfold maxLen; omega
                case c4 => omega
                case c5 => simp; omega
                intro v3 w3 hown3 hgrow hiff
                clear hiff
                have hbel3 : Below w1.heap.size w1 w3 := by
                  refine Below.grown ?_ hgrow ?_ (fun b hb => own_base hown2.out b hb)
                  · exact (hbel2.alloc hbel2.size _).alloc (by simp; omega) _
                  · simp; omega
                obtain ⟨g, C3, rfl⟩ : ∃ g C3, v3 = .slice (some g) (acc.length + 1) C3 := by
                  rcases hown3.2 with ⟨_, h⟩ | ⟨g, cap, cur, h, _⟩
                  · omega
                  · exact ⟨_, _, h⟩
                have hown4 := Aside.mk hown3
                clear hown3 hgrow hown2 hown
                go_wp2_with fail
                go_roundw
                case rel =>
                  have hl : (acc ++ [(⟨tk, tx, tn, k⟩ : Tok)]).length = acc.length + 1 := by simp
                  refine ⟨k + n, acc ++ [⟨tk, tx, tn, k⟩], some g, C3, by rw [hl], by omega, by go_num, ?_, ?_, HRR, hbel3⟩
                  · rw [hl]; have := H6.out; omega
                  rw [hl, toksCells_snoc]
                  exact hown4
                case measure => simp [intOf]; omega
      · go_wp2_with fail
        go_ret3
        refine ⟨bthen B1 hB, ?_⟩
        have h0 := HR.out
        rw [drop_nil s k (by omega)] at h0
        rw [h0.nil]
        exact ⟨_, _, rfl, B1.size, hown.out⟩
end Go.Proofs.YtkieeaajhomdoaaDoor
set_option linter.unusedVariables false
set_option linter.unusedSimpArgs false
namespace Go.Proofs.YtkieeaajhomdoaaDoor
open Go.RowKit Go.Maps Go.MapKept
/-- What a function that only looks comes to. -/
def Is (v : Value) (w : World) (e : Ending) (w' : World) : Prop := e = .returned v ∧ w' = w
theorem ret_bool {a b : Bool} (h : a = b) : Ending.returned (.bool a) = .returned (.bool b) := by rw [h]
theorem ret_int {a b : Int} (h : a = b) : Ending.returned (.int .i64 a) = .returned (.int .i64 b) := by rw [h]
set_option maxRecDepth 100000 in
theorem r_letter (c : UInt8) (w : World) : Calls Tryd.prog 47 #[.int .u8 (c.toNat : Nat)] w (Is (.bool (isLetter c)) w) := by
  obtain ⟨b, hb⟩ : ∃ b, isLetter c = b := ⟨_, rfl⟩
  rw [hb]
  have HB := Lib.hid hb
  clear hb
  have hc : ((c.toNat : Nat) : Int) < 256 := by have := UInt8.toNat_lt c; omega
  go_enter Tryd.func47, Tryd.ntmps47
  go_wp2
  all_goals go_ret
  all_goals refine ⟨?_, rfl⟩
  all_goals rw [← HB.out]
  all_goals refine ret_bool ?_
  all_goals rw [Bool.eq_iff_iff]
  all_goals simp only [isLetter, Bool.or_eq_true, Bool.and_eq_true, decide_eq_true_eq, Bool.false_eq_true, true_iff, false_iff]
  all_goals omega
set_option maxRecDepth 100000 in
theorem r_digit (c : UInt8) (w : World) : Calls Tryd.prog 48 #[.int .u8 (c.toNat : Nat)] w (Is (.bool (isDigit c)) w) := by
  obtain ⟨b, hb⟩ : ∃ b, isDigit c = b := ⟨_, rfl⟩
  rw [hb]
  have HB := Lib.hid hb
  clear hb
  have hc : ((c.toNat : Nat) : Int) < 256 := by have := UInt8.toNat_lt c; omega
  go_enter Tryd.func48, Tryd.ntmps48
  go_wp2
  all_goals go_ret
  all_goals refine ⟨?_, rfl⟩
  all_goals rw [← HB.out]
  all_goals refine ret_bool ?_
  all_goals rw [Bool.eq_iff_iff]
  all_goals simp only [isDigit, Bool.or_eq_true, Bool.and_eq_true, decide_eq_true_eq, Bool.false_eq_true, true_iff, false_iff]
  all_goals omega
set_option maxRecDepth 100000 in
theorem r_hexa (c : UInt8) (w : World) : Calls Tryd.prog 74 #[.int .u8 (c.toNat : Nat)] w (Is (.bool (isHex c)) w) := by
  obtain ⟨b, hb⟩ : ∃ b, isHex c = b := ⟨_, rfl⟩
  rw [hb]
  have HB := Lib.hid hb
  clear hb
  have hc : ((c.toNat : Nat) : Int) < 256 := by have := UInt8.toNat_lt c; omega
  cases hd : isDigit c
  all_goals
    have HD := Lib.hid hd
    go_enter Tryd.func74, Tryd.ntmps74
    go_wp2_with fail
    refine (r_digit c _).mono ?_
    rintro e w1 ⟨rfl, rfl⟩
    rw [HD.out]
    clear hd
    go_wp2_with fail
  all_goals go_ret
  all_goals refine ⟨?_, rfl⟩
  all_goals rw [← HB.out]
  all_goals refine ret_bool ?_
  all_goals rw [Bool.eq_iff_iff]
  all_goals simp only [isHex, HD.out, Bool.or_eq_true, Bool.and_eq_true, decide_eq_true_eq, Bool.false_eq_true, true_iff, false_iff, false_or, true_or, iff_true]
  all_goals omega
/-- A row of texts that is read. -/
def ReadsTexts (w : World) (a : Option Addr) (l : List (List UInt8)) : Prop := l.length ≤ 1000000 ∧ (0 < l.length → ∃ b o, a = some ⟨b, o, none⟩ ∧ ∀ i, (h : i < l.length) → w.cell? ⟨b, o + i, none⟩ = some (.string ⟨l[i].toArray⟩))
set_option maxRecDepth 100000 in
theorem r_among (s : ByteArray) (b o c : Nat) (l : List (List UInt8)) (w : World) (hl : l.length ≤ 1000000) (hc : ∀ i, (h : i < l.length) → w.cell? ⟨b, o + i, none⟩ = some (.string ⟨l[i].toArray⟩)) (n : Nat) (hn : l.length = n) :
    Calls Tryd.prog 73 #[.string s, .slice (some ⟨b, o, none⟩) n c] w (Is (.bool (decide (s.data.toList ∈ l))) w) := by
  obtain ⟨r, hr⟩ : ∃ r, decide (s.data.toList ∈ l) = r := ⟨_, rfl⟩
  rw [hr]
  subst hn
  have HR := Lib.hid hr
  have HC := Lib.hid hc
  clear hr hc
  go_enter Tryd.func73, Tryd.ntmps73
  go_wp2
  go_loop [5] (fun i => ∃ k : Nat, k ≤ l.length ∧ i = .int .i64 k ∧ Hid (∀ j, (hj : j < l.length) → j < k → s.data.toList ≠ l[j])) (fun i => l.length - (intOf i).toNat)
  case atStart => exact ⟨0, by omega, rfl, fun j hj h => by omega⟩
  case round =>
    obtain ⟨k, hk, rfl, HN⟩ := hrel
    by_cases hlt : k < l.length
    · obtain ⟨x, hx⟩ : ∃ x, l[k] = x := ⟨_, rfl⟩
      have hcell := HC.out k hlt
      rw [hx] at hcell
      have HX := Lib.hid hx
      clear hx
      by_cases he : x = s.data.toList
      · have hb1 : (x == s.toList) = true := by rw [ByteArray.toList_eq, beq_iff_eq]; exact he
        have HE := Lib.hid he
        clear he
        go_wp2_with fail
        go_ret
        refine ⟨ret_bool ?_, rfl⟩
        rw [← HR.out]
        exact (decide_eq_true (by rw [← HE.out, ← HX.out]; exact List.getElem_mem _)).symm
      · have hb1 : (x == s.toList) = false := by rw [ByteArray.toList_eq, beq_eq_false_iff_ne]; exact he
        have HE := Lib.hid he
        clear he
        go_wp2_with fail
        go_round
        case rel =>
          refine ⟨k + 1, by omega, by go_num, fun j hj h => ?_⟩
          by_cases e : j = k
          · subst e; rw [HX.out]; exact fun h => HE.out h.symm
          · exact HN.out j hj (by omega)
        case measure => simp [intOf]; omega
    · go_wp2_with fail
      go_ret
      refine ⟨ret_bool ?_, rfl⟩
      rw [← HR.out]
      refine (decide_eq_false fun h => ?_).symm
      obtain ⟨j, hj, e⟩ := List.getElem_of_mem h
      exact HN.out j hj (by omega) e.symm
theorem row_Key (w : World) : ∀ i, (h : i < keyList.length) → (w.alloc (.cells (textsRow keyList) 9)).cell? ⟨w.heap.size, 0 + i, none⟩ = some (.string ⟨keyList[i].toArray⟩) := fun i h => by
  rw [cell_of_block (alloc_block _ _), Nat.zero_add, textsRow_get _ _ h]
set_option maxRecDepth 100000 in
theorem r_Key (s : ByteArray) (w : World) : Calls Tryd.prog 49 #[.string s] w (Gives (.bool (decide (s.data.toList ∈ keyList))) w) := by
  obtain ⟨r, hr⟩ : ∃ r, decide (s.data.toList ∈ keyList) = r := ⟨_, rfl⟩
  rw [hr]
  have HR := Lib.hid hr
  clear hr
  go_enter Tryd.func49, Tryd.ntmps49
  go_wp2_with fail
  refine (r_among s w.heap.size 0 33 keyList (w.alloc (.cells (textsRow keyList) 9)) (by decide) (row_Key w) 33 rfl).mono ?_
  rintro e w1 ⟨rfl, rfl⟩
  rw [HR.out]
  go_wp2_with fail
  go_ret
  exact ⟨rfl, (Below.refl _ _).alloc (Nat.le_refl _) _⟩
theorem row_Sign (w : World) : ∀ i, (h : i < signList.length) → (w.alloc (.cells (textsRow signList) 9)).cell? ⟨w.heap.size, 0 + i, none⟩ = some (.string ⟨signList[i].toArray⟩) := fun i h => by
  rw [cell_of_block (alloc_block _ _), Nat.zero_add, textsRow_get _ _ h]
set_option maxRecDepth 100000 in
theorem r_Sign (s : ByteArray) (w : World) : Calls Tryd.prog 51 #[.string s] w (Gives (.bool (decide (s.data.toList ∈ signList))) w) := by
  obtain ⟨r, hr⟩ : ∃ r, decide (s.data.toList ∈ signList) = r := ⟨_, rfl⟩
  rw [hr]
  have HR := Lib.hid hr
  clear hr
  go_enter Tryd.func51, Tryd.ntmps51
  go_wp2_with fail
  refine (r_among s w.heap.size 0 26 signList (w.alloc (.cells (textsRow signList) 9)) (by decide) (row_Sign w) 26 rfl).mono ?_
  rintro e w1 ⟨rfl, rfl⟩
  rw [HR.out]
  go_wp2_with fail
  go_ret
  exact ⟨rfl, (Below.refl _ _).alloc (Nat.le_refl _) _⟩
end Go.Proofs.YtkieeaajhomdoaaDoor
set_option linter.unusedVariables false
set_option linter.unusedSimpArgs false
namespace Go.Proofs.YtkieeaajhomdoaaDoor
open Go.RowKit Go.Maps Go.MapKept
def cmtEnd (l : List UInt8) (k : Nat) : Int := match cmt (l.drop k) 0 with | some n => ((k + n : Nat) : Int) | none => -1
set_option maxRecDepth 100000 in
set_option maxHeartbeats 800000 in
theorem r_comment (s : ByteArray) (k0 : Nat) (w : World) (hs : s.size ≤ 140737488351232) (hk0 : k0 ≤ s.size) :
    Calls Tryd.prog 46 #[.string s, .int .i64 k0] w (Is (.int .i64 (cmtEnd s.data.toList k0)) w) := by
  obtain ⟨r, hr⟩ : ∃ r, cmtEnd s.data.toList k0 = r := ⟨_, rfl⟩
  rw [hr]
  have HR := Lib.hid hr
  clear hr
  go_enter Tryd.func46, Tryd.ntmps46
  go_wp2
  go_loop [1, 5] (fun i o => ∃ k : Nat, ∃ d : Int, k0 ≤ k ∧ k ≤ s.size ∧ i = .int .i64 k ∧ o = .int .i64 d ∧ -(k:Int) ≤ d ∧ d ≤ (k:Int) ∧ Hid (cmt (s.data.toList.drop k0) 0 = (cmt (s.data.toList.drop k) d).map (k - k0 + ·))) (fun i _ => s.size - (intOf i).toNat)
  case atStart => exact ⟨k0, 0, Nat.le_refl _, hk0, rfl, rfl, by omega, by omega, by simp [Hid]⟩
  case round =>
    obtain ⟨k, d, hk1, hk, rfl, rfl, hd1, hd2, HT⟩ := hrel
    by_cases hlt : k + 1 < s.size
    · have HC := Lib.hid (cmt_at s k hlt d)
      have T1 := Lib.hid (two_beq s k hlt 40 42)
      have T2 := Lib.hid (two_beq s k hlt 42 41)
      go_wp2
      · rename_i h1
        rw [T1.out] at h1
        have h1 := of_decide_eq_true h1
        go_round
        case rel =>
          refine ⟨k + 2, d + 1, by omega, by omega, by go_num, rfl, by omega, by omega, ?_⟩
          show _ = _
          rw [HT.out, HC.out, if_pos h1, map_add, show k - k0 + 2 = k + 2 - k0 from by omega]
        case measure => simp [intOf]; omega
      · have h1 : ((s.extract k (k + 2)).toList == [40, 42]) = false := by assumption
        have h2 : ((s.extract k (k + 2)).toList == [42, 41]) = true := by assumption
        have h3 : (d - 1 == 0) = true := by assumption
        rw [T1.out] at h1
        rw [T2.out] at h2
        have e : cmt (s.data.toList.drop k0) 0 = some (k - k0 + 2) := by
          rw [HT.out, HC.out, if_neg (of_decide_eq_false h1), if_pos (of_decide_eq_true h2), if_pos (by simpa using h3)]; rfl
        go_ret
        refine ⟨ret_int ?_, rfl⟩
        rw [← HR.out, cmtEnd, e]
        simp only
        omega
      · have h1 : ((s.extract k (k + 2)).toList == [40, 42]) = false := by assumption
        have h2 : ((s.extract k (k + 2)).toList == [42, 41]) = true := by assumption
        have h3 : (d - 1 == 0) = false := by assumption
        rw [T1.out] at h1
        rw [T2.out] at h2
        go_round
        case rel =>
          refine ⟨k + 2, d - 1, by omega, by omega, by go_num, rfl, by omega, by omega, ?_⟩
          show _ = _
          rw [HT.out, HC.out, if_neg (of_decide_eq_false h1), if_pos (of_decide_eq_true h2), if_neg (by simpa using h3), map_add, show k - k0 + 2 = k + 2 - k0 from by omega]
        case measure => simp [intOf]; omega
      · have h1 : ((s.extract k (k + 2)).toList == [40, 42]) = false := by assumption
        have h2 : ((s.extract k (k + 2)).toList == [42, 41]) = false := by assumption
        rw [T1.out] at h1
        rw [T2.out] at h2
        go_round
        case rel =>
          refine ⟨k + 1, d, by omega, by omega, by go_num, rfl, by omega, by omega, ?_⟩
          show _ = _
          rw [HT.out, HC.out, if_neg (of_decide_eq_false h1), if_neg (of_decide_eq_false h2), map_add, show k - k0 + 1 = k + 1 - k0 from by omega]
        case measure => simp [intOf]; omega
    · go_wp2
      have e : cmt (s.data.toList.drop k0) 0 = none := by
        rw [HT.out, cmt_short (by rw [List.length_drop, len_list]; omega)]; rfl
      go_ret
      refine ⟨ret_int ?_, rfl⟩
      rw [← HR.out, cmtEnd, e]
theorem prefix_in (s : ByteArray) (k : Nat) (h : k + 1 < s.size) : [40, 42].isPrefixOf (s[k] :: s.data.toList.drop (k + 1)) = ((s.extract k (k + 2)).toList == [40, 42]) := by
  rw [prefix_bool s k (by omega), two_beq s k h, List.getElem?_eq_getElem (by rw [len_list]; omega), List.getElem?_eq_getElem (by rw [len_list]; exact h), get_list s k (by omega), get_list s (k + 1) h]
  simp only [Option.some.injEq]
theorem prefix_out (s : ByteArray) (k : Nat) (h0 : k < s.size) (h : ¬ k + 1 < s.size) : [40, 42].isPrefixOf (s[k] :: s.data.toList.drop (k + 1)) = false := by
  rw [drop_nil s (k + 1) (by omega)]
  simp [List.isPrefixOf]
def AtSkip (s : ByteArray) (k : Nat) (w : World) (e : Ending) (w' : World) : Prop := ∃ (k' : Nat) (ok : Bool), e = .returned (.tuple #[.int .i64 k', .bool ok]) ∧ w' = w ∧ k ≤ k' ∧ k' ≤ s.size ∧
  (ok = true → (∀ acc R, Rest (s.data.toList.drop k) k acc R → Rest (s.data.toList.drop k') k' acc R) ∧ ∀ h : k' < s.size, isBlank s[k'] = false ∧ [40, 42].isPrefixOf (s[k'] :: s.data.toList.drop (k' + 1)) = false) ∧
  (ok = false → ∀ acc R, Rest (s.data.toList.drop k) k acc R → R = .error (k', 90))
set_option maxRecDepth 100000 in
set_option maxHeartbeats 1600000 in
theorem r_skip (s : ByteArray) (k0 : Nat) (w : World) (hs : s.size ≤ 140737488351232) (hk0 : k0 ≤ s.size) :
    Calls Tryd.prog 24 #[.string s, .int .i64 k0] w (AtSkip s k0 w) := by
  go_enter Tryd.func24, Tryd.ntmps24
  go_wp2
  go_loop [1] (fun i => ∃ k : Nat, k0 ≤ k ∧ k ≤ s.size ∧ i = .int .i64 k ∧ Hid (∀ acc R, Rest (s.data.toList.drop k0) k0 acc R → Rest (s.data.toList.drop k) k acc R)) (fun i => s.size - (intOf i).toNat)
  case atStart => exact ⟨k0, Nat.le_refl _, hk0, rfl, fun acc R h => h⟩
  case round =>
    obtain ⟨k, hk1, hk, rfl, HT⟩ := hrel
    by_cases hlt : k < s.size
    · have HDR := Lib.hid (drop_cons s k hlt)
      have hcb : ((s[k].toNat : Nat) : Int) < 256 := by have := UInt8.toNat_lt s[k]; omega
      cases hbl : isBlank s[k] with
      | true =>
        have HR2 : Hid (∀ acc R, Rest (s.data.toList.drop k0) k0 acc R → Rest (s.data.toList.drop (k + 1)) (k + 1) acc R) := fun acc R h => by
          have h1 := HT.out acc R h
          rw [HDR.out] at h1
          exact h1.blank hbl
        rw [blank_int] at hbl
        go_wp2_with fail
        all_goals go_round
        all_goals first
          | exact ⟨k + 1, by omega, by omega, by go_num, HR2⟩
          | (simp [intOf]; omega)
      | false =>
        have HBL := Lib.hid hbl
        rw [blank_int] at hbl
        simp only [Bool.or_eq_false_iff] at hbl
        obtain ⟨⟨⟨e9, e10⟩, e13⟩, e32⟩ := hbl
        by_cases hlt2 : k + 1 < s.size
        · have hlt3 : (k : Int) + 1 < s.size := by omega
          cases hp : [40, 42].isPrefixOf (s[k] :: s.data.toList.drop (k + 1)) with
          | true =>
            have hp2 : ((s.extract k (k + 2)).toList == [40, 42]) = true := by rw [← prefix_in s k hlt2]; exact hp
            have HP := Lib.hid hp
            clear hp
            go_wp2_with fail
            refine (r_comment s k _ hs hk).mono ?_
            rintro e w1 ⟨rfl, rfl⟩
            cases hc : cmt (s[k] :: s.data.toList.drop (k + 1)) 0 with
            | none =>
              have hv : cmtEnd s.data.toList k = -1 := by rw [cmtEnd, HDR.out, hc]
              have HC := Lib.hid hc
              rw [hv]
              clear hv hc
              go_wp2_with fail
              go_ret2
              refine ⟨k, false, rfl, rfl, hk1, hk, (fun h => by cases h), fun _ acc R h => ?_⟩
              have h1 := HT.out acc R h
              rw [HDR.out] at h1
              exact h1.cmtBad HBL.out HP.out HC.out
            | some n =>
              have hv : cmtEnd s.data.toList k = ((k + n : Nat) : Int) := by rw [cmtEnd, HDR.out, hc]
              have hn := cmt_bound _ _ _ hc
              rw [← HDR.out, List.length_drop, len_list] at hn
              have HR2 : Hid (∀ acc R, Rest (s.data.toList.drop k0) k0 acc R → Rest (s.data.toList.drop (k + n)) (k + n) acc R) := fun acc R h => by
                have h1 := HT.out acc R h
                rw [HDR.out] at h1
                have h2 := h1.cmtOk HBL.out HP.out hc
                rwa [← HDR.out, List.drop_drop] at h2
              rw [hv]
              clear hv hc
              go_wp2_with fail
              go_round
              case rel => exact ⟨k + n, by omega, by omega, by go_num, HR2⟩
              case measure => simp [intOf]; omega
          | false =>
            have hp2 : ((s.extract k (k + 2)).toList == [40, 42]) = false := by rw [← prefix_in s k hlt2]; exact hp
            have HP := Lib.hid hp
            clear hp
            go_wp2_with fail
            go_ret2
            exact ⟨k, true, rfl, rfl, hk1, hk, fun _ => ⟨HT.out, fun _ => ⟨HBL.out, HP.out⟩⟩, fun h => by cases h⟩
        · have hlt3 : ¬ (k : Int) + 1 < s.size := by omega
          have HP := Lib.hid (prefix_out s k hlt hlt2)
          go_wp2_with fail
          go_ret2
          exact ⟨k, true, rfl, rfl, hk1, hk, fun _ => ⟨HT.out, fun _ => ⟨HBL.out, HP.out⟩⟩, fun h => by cases h⟩
    · go_wp2_with fail
      go_ret2
      refine ⟨k, true, rfl, rfl, hk1, hk, fun _ => ⟨HT.out, fun h => absurd h hlt⟩, fun h => by cases h⟩
end Go.Proofs.YtkieeaajhomdoaaDoor
set_option linter.unusedVariables false
set_option linter.unusedSimpArgs false
namespace Go.Proofs.YtkieeaajhomdoaaDoor
open Go.RowKit Go.Maps Go.MapKept
/-- What the reference says of the token at a place. -/
def AtOne (r : Except Int (Tok × Nat)) (k : Nat) (w : World) (e : Ending) (w' : World) : Prop := Below w.heap.size w w' ∧
  match r with
  | .ok (t, n) => e = .returned (.tuple #[.agg #[.int .i64 t.kind, .string ⟨t.text.toArray⟩, .int .i64 t.n, .int .i64 k], .int .i64 (k + n : Nat), .int .i64 0])
  | .error c => ∃ k x m a n, e = .returned (.tuple #[.agg #[.int .i64 k, .string x, .int .i64 m, .int .i64 a], .int .i64 n, .int .i64 c])
theorem at_drop (s : ByteArray) (k j : Nat) (hj : k ≤ j) : (s.data.toList.drop k)[j - k]? = s.data.toList[j]? := by
  rw [List.getElem?_drop, show k + (j - k) = j from by omega]
theorem at_list (s : ByteArray) (j : Nat) (hj : j < s.size) : s.data.toList[j]? = some s[j] := by
  rw [List.getElem?_eq_getElem (by rw [len_list]; exact hj), get_list s j hj]
theorem take_drop_snoc (s : ByteArray) (k j : Nat) (hj : k ≤ j) (h : j < s.size) : (s.data.toList.drop k).take (j + 1 - k) = (s.data.toList.drop k).take (j - k) ++ [s[j]] := by
  rw [show j + 1 - k = (j - k) + 1 from by omega, List.take_add_one, at_drop s k j hj, at_list s j h]
  rfl
theorem run_upto {p : UInt8 → Bool} (s : ByteArray) (k j : Nat) (hj : k ≤ j) (hjs : j ≤ s.size) (h1 : ∀ c ∈ (s.data.toList.drop k).take (j - k), p c = true) (h2 : ∀ h : j < s.size, p s[j] = false) : run p (s.data.toList.drop k) = j - k := by
  refine run_eq (by rw [List.length_drop, len_list]; omega) h1 (fun h => ?_)
  rw [List.length_drop, len_list] at h
  have hj2 : j < s.size := by omega
  have e : (s.data.toList.drop k)[j - k] = s[j] := by
    have := at_drop s k j hj
    rw [at_list s j hj2, List.getElem?_eq_getElem (by rw [List.length_drop, len_list]; omega)] at this
    simpa using this
  rw [e]
  exact h2 hj2
theorem run_digits {l : List UInt8} (h : ∀ c ∈ l, isDigit c = true) : ¬ run isDigit l < l.length := by
  intro hl
  have := run_lt_stop hl
  rw [h _ (List.getElem_mem _)] at this
  cases this
theorem run_nodigit {l : List UInt8} (h : ¬ ∀ c ∈ l, isDigit c = true) : run isDigit l < l.length := by
  rcases Nat.lt_or_ge (run isDigit l) l.length with h' | h'
  · exact h'
  · exact absurd (fun c hc => by have := @run_take_all isDigit l c; rw [List.take_of_length_le h'] at this; exact this hc) h
theorem hex_num {c : UInt8} (h : isHex c = true) : (isLetter c = true ∧ 65 ≤ c.toNat ∧ c.toNat ≤ 70 ∧ hexDig c = c.toNat - 55) ∨ (isLetter c = false ∧ 48 ≤ c.toNat ∧ c.toNat ≤ 57 ∧ hexDig c = c.toNat - 48) := by
  simp only [isHex, isDigit, Bool.or_eq_true, Bool.and_eq_true, decide_eq_true_eq] at h
  rcases h with h | h
  · refine .inr ⟨?_, h.1, h.2, ?_⟩
    · rw [Bool.eq_false_iff]; intro h2; simp only [isLetter, Bool.or_eq_true, Bool.and_eq_true, decide_eq_true_eq] at h2; omega
    · unfold hexDig; rw [if_pos h.2]
  · refine .inl ⟨?_, h.1, h.2, ?_⟩
    · simp only [isLetter, Bool.or_eq_true, Bool.and_eq_true, decide_eq_true_eq]; omega
    · unfold hexDig; rw [if_neg (by omega)]
set_option maxRecDepth 100000 in
set_option maxHeartbeats 16000000 in
theorem r_number (s : ByteArray) (k : Nat) (w : World) (hs : s.size ≤ 140737488351232) (hk : k < s.size) (hd : isDigit s[k] = true) (r : Except Int (Tok × Nat)) (hres : numTok (s.data.toList.drop k) = r) :
    Calls Tryd.prog 50 #[.string s, .int .i64 k] w (AtOne r k w) := by
  have HRES := Lib.hid hres
  have HD0 := Lib.hid hd
  clear hres hd
  go_enter Tryd.func50, Tryd.ntmps50
  go_wp2_with fail
  go_loop [7, 8] (fun i d => ∃ (j : Nat) (dec : Bool), k ≤ j ∧ j ≤ s.size ∧ i = .int .i64 j ∧ d = .bool dec ∧ Hid (∀ c ∈ (s.data.toList.drop k).take (j - k), isHex c = true) ∧ Hid (dec = true ↔ ∀ c ∈ (s.data.toList.drop k).take (j - k), isDigit c = true)) (fun i _ => s.size - (intOf i).toNat)
  case atStart => exact ⟨k, true, Nat.le_refl _, by omega, rfl, rfl, by simp [Hid], by simp [Hid]⟩
  case round =>
    obtain ⟨j, dec, hkj, hj, rfl, rfl, HH, HDEC⟩ := hrel
    by_cases hgo : ∃ h : j < s.size, isHex s[j] = true
    · obtain ⟨hlt, hhex⟩ := hgo
      have hlt2 : (j : Int) < s.size := by omega
      have HX := Lib.hid hhex
      clear hhex
      have HT := Lib.hid (take_drop_snoc s k j hkj hlt)
      have HA : Hid (∀ c ∈ (s.data.toList.drop k).take (j + 1 - k), isHex c = true) := by
        intro c hc
        rw [HT.out, List.mem_append] at hc
        rcases hc with hc | hc
        · exact HH.out c hc
        · simp only [List.mem_singleton] at hc; rw [hc]; exact HX.out
      cases dec with
      | true =>
        have hall := HDEC.out.1 rfl
        have HB : Hid (isDigit s[j] = true ↔ ∀ c ∈ (s.data.toList.drop k).take (j + 1 - k), isDigit c = true) := by
          show _ ↔ _
          rw [HT.out]
          constructor
          · intro h c hc
            rw [List.mem_append] at hc
            rcases hc with hc | hc
            · exact hall c hc
            · simp only [List.mem_singleton] at hc; rw [hc]; exact h
          · intro h; exact h _ (by simp)
        clear hall
        go_wp2_with fail
        refine (r_hexa s[j] _).mono ?_
        rintro e w1 ⟨rfl, rfl⟩
        rw [HX.out]
        go_wp2_with fail
        refine (r_digit s[j] _).mono ?_
        rintro e w1 ⟨rfl, rfl⟩
        go_wp2_with fail
        go_round
        case rel => exact ⟨j + 1, _, by omega, by omega, by go_num, rfl, HA, HB⟩
        case measure => simp [intOf]; omega
      | false =>
        have HB : Hid (false = true ↔ ∀ c ∈ (s.data.toList.drop k).take (j + 1 - k), isDigit c = true) := by
          show _ ↔ _
          rw [HT.out]
          constructor
          · intro h; cases h
          · intro h; exact HDEC.out.2 (fun c hc => h c (by simp [hc]))
        go_wp2_with fail
        refine (r_hexa s[j] _).mono ?_
        rintro e w1 ⟨rfl, rfl⟩
        rw [HX.out]
        go_wp2_with fail
        go_round
        case rel => exact ⟨j + 1, false, by omega, by omega, by go_num, rfl, HA, HB⟩
        case measure => simp [intOf]; omega
    · -- the run is at its end
      have hstop : ∀ h : j < s.size, isHex s[j] = false := fun h => by
        cases hx : isHex s[j] with
        | true => exact absurd ⟨h, hx⟩ hgo
        | false => rfl
      have hrun : run isHex (s.data.toList.drop k) = j - k := run_upto s k j hkj hj HH.out hstop
      have hkj1 : k + 1 ≤ j := by
        rcases Nat.lt_or_ge k j with h | h
        · exact h
        · have : j = k := by omega
          subst this
          have := hstop hk
          rw [isHex, HD0.out] at this
          simp at this
      have HRUN := Lib.hid hrun
      have HSTOP := Lib.hid hstop
      have hat : (s.data.toList.drop k)[j - k]? = s.data.toList[j]? := at_drop s k j hkj
      have hat1 : (s.data.toList.drop k)[j - k + 1]? = s.data.toList[j + 1]? := by rw [show j - k + 1 = (j + 1) - k from by omega]; exact at_drop s k (j + 1) (by omega)
      have hlen : ((s.data.toList.drop k).take (j - k)).length = j - k := by rw [List.length_take, List.length_drop, len_list]; omega
      have HAT := Lib.hid hat
      have HAT1 := Lib.hid hat1
      have HLEN := Lib.hid hlen
      clear hgo hstop hrun hat hat1 hlen
      by_cases hlt : j < s.size
      · have hlt2 : (j : Int) < s.size := by omega
        have hcb : ((s[j].toNat : Nat) : Int) < 256 := by have := UInt8.toNat_lt s[j]; omega
        have HG := Lib.hid (at_list s j hlt)
        have HNX := Lib.hid (HSTOP.out hlt)
        by_cases h72 : ((s[j].toNat : Nat) : Int) = 72
        · have h72b : (((s[j].toNat : Nat) : Int) == 72) = true := by rw [beq_iff_eq]; exact h72
          have H72 : Hid (s.data.toList[j]? = some 72) := by show _ = _; rw [HG.out]; exact congrArg some (UInt8.toNat_inj.1 (by show _ = 72; omega))
          clear h72
          go_wp2_with fail
          refine (r_hexa s[j] _).mono ?_
          rintro e w1 ⟨rfl, rfl⟩
          rw [HNX.out]
          go_wp2_with fail
          go_loop [13, 14] (fun v i => ∃ (m : Nat) (V : Int), k ≤ m ∧ m ≤ j ∧ i = .int .i64 m ∧ v = .int .i64 V ∧ 0 ≤ V ∧ V < 68719476752 ∧ Hid (V = (numVal 16 ((s.data.toList.drop k).take (m - k)) : Nat))) (fun _ i => j - (intOf i).toNat)
          case atStart => exact ⟨k, 0, Nat.le_refl _, hkj, rfl, rfl, by omega, by omega, by simp [Hid, numVal]⟩
          case round =>
            obtain ⟨m, V, hkm, hmj, rfl, rfl, hV0, hV, HV⟩ := hrel
            by_cases hgo : m < j ∧ V < 4294967296
            · obtain ⟨hg1, hg2⟩ := hgo
              have hms : m < s.size := by omega
              have hmi : (m : Int) < j := by omega
              have hmsi : (m : Int) < s.size := by omega
              have hcm : ((s[m].toNat : Nat) : Int) < 256 := by have := UInt8.toNat_lt s[m]; omega
              have hmem : s[m] ∈ (s.data.toList.drop k).take (j - k) := List.mem_of_getElem? (i := m - k) (by rw [List.getElem?_take_of_lt (by omega), at_drop s k m hkm, at_list s m hms])
              have hstep : numVal 16 ((s.data.toList.drop k).take (m + 1 - k)) = numVal 16 ((s.data.toList.drop k).take (m - k)) * 16 + hexDig s[m] := by rw [take_drop_snoc s k m hkm hms, numVal_snoc]
              have hv0 := HV.out
              rcases hex_num (HH.out _ hmem) with ⟨hl, h1, h2, h3⟩ | ⟨hl, h1, h2, h3⟩
              · rw [h3] at hstep
                have HS : Hid (V * 16 + ((s[m].toNat : Int) - 65 + 10) = ((numVal 16 ((s.data.toList.drop k).take (m + 1 - k)) : Nat) : Int)) := by show _ = _; rw [hstep]; omega
                have hb0 : 0 ≤ V * 16 + ((s[m].toNat : Int) - 65 + 10) := by omega
                have hb1 : V * 16 + ((s[m].toNat : Int) - 65 + 10) < 68719476752 := by omega
                have HL := Lib.hid hl
                have i1 : 48 ≤ ((s[m].toNat : Nat) : Int) := by omega
                have i2 : 65 ≤ ((s[m].toNat : Nat) : Int) := by omega
                have i3 : ((s[m].toNat : Nat) : Int) ≤ 70 := by omega
                clear hmem hstep h1 h2 h3 hl hv0
                go_wp2_with fail
                refine (r_letter s[m] _).mono ?_
                rintro e w1 ⟨rfl, rfl⟩
                rw [HL.out]
                go_wp2_with fail
                go_round
                case rel => exact ⟨m + 1, V * 16 + ((s[m].toNat : Int) - 65 + 10), by omega, by omega, by go_num, rfl, hb0, hb1, HS⟩
                case measure => simp [intOf]; omega
              · rw [h3] at hstep
                have HS : Hid (V * 16 + ((s[m].toNat : Int) - 48) = ((numVal 16 ((s.data.toList.drop k).take (m + 1 - k)) : Nat) : Int)) := by show _ = _; rw [hstep]; omega
                have hb0 : 0 ≤ V * 16 + ((s[m].toNat : Int) - 48) := by omega
                have hb1 : V * 16 + ((s[m].toNat : Int) - 48) < 68719476752 := by omega
                have HL := Lib.hid hl
                have i1 : 48 ≤ ((s[m].toNat : Nat) : Int) := by omega
                have i3 : ((s[m].toNat : Nat) : Int) ≤ 57 := by omega
                clear hmem hstep h1 h2 h3 hl hv0
                go_wp2_with fail
                refine (r_letter s[m] _).mono ?_
                rintro e w1 ⟨rfl, rfl⟩
                rw [HL.out]
                go_wp2_with fail
                go_round
                case rel => exact ⟨m + 1, V * 16 + ((s[m].toNat : Int) - 48), by omega, by omega, by go_num, rfl, hb0, hb1, HS⟩
                case measure => simp [intOf]; omega
            · -- the value is known
              have hval2 : ¬ V < 4294967296 → ¬ numVal 16 ((s.data.toList.drop k).take (j - k)) < 4294967296 := fun h => by
                have := numVal_take 16 (by omega) ((s.data.toList.drop k).take (j - k)) (m - k)
                rw [List.take_take, Nat.min_eq_left (by omega)] at this
                have := HV.out
                omega
              by_cases hlim : V < 4294967296
              · have hmj3 : m = j := by omega
                clear hval2 hgo hmj
                subst hmj3
                have hv := HV.out
                have hdl : decide ((4294967296 : Int) ≤ V) = false := decide_eq_false (by omega)
                by_cases hbig : V < 2147483648
                · have hdb : decide ((2147483648 : Int) ≤ V) = false := decide_eq_false (by omega)
                  have fin : r = .ok (⟨3, [], V, 0⟩, m - k + 1) := by
                    rw [← HRES.out, numTok]
                    simp only [HRUN.out, HAT.out, HAT1.out]
                    rw [if_pos H72.out, if_pos (by omega), if_pos (by omega), hv]
                  have FIN := Lib.hid fin
                  clear fin hv hlim
                  go_wp2_with fail
                  refine bodyPost_ret (v := .tuple #[.agg #[.int .i64 3, .string ⟨#[]⟩, .int .i64 V, .int .i64 k], .int .i64 (m + 1), .int .i64 0]) (by simp [results, Tryd.results50, go_sem]) rfl ⟨((Below.refl _ _).alloc (Nat.le_refl _) _).alloc (by simp) _, ?_⟩
                  rw [FIN.out]
                  refine congrArg Ending.returned ?_
                  have : k + (m - k + 1) = m + 1 := by omega
                  simp only [this]
                  rfl
                · have hdb : decide ((2147483648 : Int) ≤ V) = true := decide_eq_true (by omega)
                  have fin : r = .ok (⟨3, [], V - 4294967296, 0⟩, m - k + 1) := by
                    rw [← HRES.out, numTok]
                    simp only [HRUN.out, HAT.out, HAT1.out]
                    rw [if_pos H72.out, if_pos (by omega), if_neg (by omega), hv]
                  have FIN := Lib.hid fin
                  clear fin hv hlim
                  go_wp2_with fail
                  refine bodyPost_ret (v := .tuple #[.agg #[.int .i64 3, .string ⟨#[]⟩, .int .i64 (V - 4294967296), .int .i64 k], .int .i64 (m + 1), .int .i64 0]) (by simp [results, Tryd.results50, go_sem]) rfl ⟨((Below.refl _ _).alloc (Nat.le_refl _) _).alloc (by simp) _, ?_⟩
                  rw [FIN.out]
                  refine congrArg Ending.returned ?_
                  have : k + (m - k + 1) = m + 1 := by omega
                  simp only [this]
                  rfl
              · have hdl : decide ((4294967296 : Int) ≤ V) = true := decide_eq_true (by omega)
                have hdn : decide (V < (4294967296 : Int)) = false := decide_eq_false (by omega)
                have hv := hval2 hlim
                have fin : r = .error 91 := by
                  rw [← HRES.out, numTok]
                  simp only [HRUN.out, HAT.out, HAT1.out]
                  rw [if_pos H72.out, if_neg hv]
                have FIN := Lib.hid fin
                clear fin hv hval2 hgo hlim
                go_wp2_with fail
                all_goals refine bodyPost_ret (v := .tuple #[.agg #[.int .i64 3, .string ⟨#[]⟩, .int .i64 0, .int .i64 k], .int .i64 0, .int .i64 91]) (by simp [results, Tryd.results50, go_sem]) rfl ⟨((Below.refl _ _).alloc (Nat.le_refl _) _).alloc (by simp) _, ?_⟩
                all_goals (rw [FIN.out]; exact ⟨_, _, _, _, _, rfl⟩)
        · have h72b : (((s[j].toNat : Nat) : Int) == 72) = false := by rw [beq_eq_false_iff_ne]; exact h72
          have H72 : Hid (¬ s.data.toList[j]? = some 72) := by show ¬ _; rw [HG.out]; intro h; simp only [Option.some.injEq] at h; exact h72 (by rw [h]; rfl)
          clear h72
          by_cases h88 : ((s[j].toNat : Nat) : Int) = 88
          · have h88b : (((s[j].toNat : Nat) : Int) == 88) = true := by rw [beq_iff_eq]; exact h88
            have H88 : Hid (s.data.toList[j]? = some 88) := by show _ = _; rw [HG.out]; exact congrArg some (UInt8.toNat_inj.1 (by show _ = 88; omega))
            clear h88
            go_wp2_with fail
            refine (r_hexa s[j] _).mono ?_
            rintro e w1 ⟨rfl, rfl⟩
            rw [HNX.out]
            go_wp2_with fail
            go_loop [13, 14] (fun v i => ∃ (m : Nat) (V : Int), k ≤ m ∧ m ≤ j ∧ i = .int .i64 m ∧ v = .int .i64 V ∧ 0 ≤ V ∧ V < 4112 ∧ Hid (V = (numVal 16 ((s.data.toList.drop k).take (m - k)) : Nat))) (fun _ i => j - (intOf i).toNat)
            case atStart => exact ⟨k, 0, Nat.le_refl _, hkj, rfl, rfl, by omega, by omega, by simp [Hid, numVal]⟩
            case round =>
              obtain ⟨m, V, hkm, hmj, rfl, rfl, hV0, hV, HV⟩ := hrel
              by_cases hgo : m < j ∧ V < 256
              · obtain ⟨hg1, hg2⟩ := hgo
                have hms : m < s.size := by omega
                have hmi : (m : Int) < j := by omega
                have hmsi : (m : Int) < s.size := by omega
                have hcm : ((s[m].toNat : Nat) : Int) < 256 := by have := UInt8.toNat_lt s[m]; omega
                have hmem : s[m] ∈ (s.data.toList.drop k).take (j - k) := List.mem_of_getElem? (i := m - k) (by rw [List.getElem?_take_of_lt (by omega), at_drop s k m hkm, at_list s m hms])
                have hstep : numVal 16 ((s.data.toList.drop k).take (m + 1 - k)) = numVal 16 ((s.data.toList.drop k).take (m - k)) * 16 + hexDig s[m] := by rw [take_drop_snoc s k m hkm hms, numVal_snoc]
                have hv0 := HV.out
                rcases hex_num (HH.out _ hmem) with ⟨hl, h1, h2, h3⟩ | ⟨hl, h1, h2, h3⟩
                · rw [h3] at hstep
                  have HS : Hid (V * 16 + ((s[m].toNat : Int) - 65 + 10) = ((numVal 16 ((s.data.toList.drop k).take (m + 1 - k)) : Nat) : Int)) := by show _ = _; rw [hstep]; omega
                  have hb0 : 0 ≤ V * 16 + ((s[m].toNat : Int) - 65 + 10) := by omega
                  have hb1 : V * 16 + ((s[m].toNat : Int) - 65 + 10) < 4112 := by omega
                  have HL := Lib.hid hl
                  have i1 : 48 ≤ ((s[m].toNat : Nat) : Int) := by omega
                  have i2 : 65 ≤ ((s[m].toNat : Nat) : Int) := by omega
                  have i3 : ((s[m].toNat : Nat) : Int) ≤ 70 := by omega
                  clear hmem hstep h1 h2 h3 hl hv0
                  go_wp2_with fail
                  refine (r_letter s[m] _).mono ?_
                  rintro e w1 ⟨rfl, rfl⟩
                  rw [HL.out]
                  go_wp2_with fail
                  go_round
                  case rel => exact ⟨m + 1, V * 16 + ((s[m].toNat : Int) - 65 + 10), by omega, by omega, by go_num, rfl, hb0, hb1, HS⟩
                  case measure => simp [intOf]; omega
                · rw [h3] at hstep
                  have HS : Hid (V * 16 + ((s[m].toNat : Int) - 48) = ((numVal 16 ((s.data.toList.drop k).take (m + 1 - k)) : Nat) : Int)) := by show _ = _; rw [hstep]; omega
                  have hb0 : 0 ≤ V * 16 + ((s[m].toNat : Int) - 48) := by omega
                  have hb1 : V * 16 + ((s[m].toNat : Int) - 48) < 4112 := by omega
                  have HL := Lib.hid hl
                  have i1 : 48 ≤ ((s[m].toNat : Nat) : Int) := by omega
                  have i3 : ((s[m].toNat : Nat) : Int) ≤ 57 := by omega
                  clear hmem hstep h1 h2 h3 hl hv0
                  go_wp2_with fail
                  refine (r_letter s[m] _).mono ?_
                  rintro e w1 ⟨rfl, rfl⟩
                  rw [HL.out]
                  go_wp2_with fail
                  go_round
                  case rel => exact ⟨m + 1, V * 16 + ((s[m].toNat : Int) - 48), by omega, by omega, by go_num, rfl, hb0, hb1, HS⟩
                  case measure => simp [intOf]; omega
              · -- the value is known
                have hval2 : ¬ V < 256 → ¬ numVal 16 ((s.data.toList.drop k).take (j - k)) < 256 := fun h => by
                  have := numVal_take 16 (by omega) ((s.data.toList.drop k).take (j - k)) (m - k)
                  rw [List.take_take, Nat.min_eq_left (by omega)] at this
                  have := HV.out
                  omega
                by_cases hlim : V < 256
                · have hmj3 : m = j := by omega
                  clear hval2 hgo hmj
                  subst hmj3
                  have hv := HV.out
                  have hdl : decide ((256 : Int) ≤ V) = false := decide_eq_false (by omega)
                  have hdb : decide ((2147483648 : Int) ≤ V) = false := decide_eq_false (by omega)
                  have fin : r = .ok (⟨4, [], V, 0⟩, m - k + 1) := by
                    rw [← HRES.out, numTok]
                    simp only [HRUN.out, HAT.out, HAT1.out]
                    rw [if_neg H72.out, if_pos H88.out, if_pos (by omega), hv]
                  have FIN := Lib.hid fin
                  clear fin hv hlim
                  go_wp2_with fail
                  refine bodyPost_ret (v := .tuple #[.agg #[.int .i64 4, .string ⟨#[]⟩, .int .i64 V, .int .i64 k], .int .i64 (m + 1), .int .i64 0]) (by simp [results, Tryd.results50, go_sem]) rfl ⟨((Below.refl _ _).alloc (Nat.le_refl _) _).alloc (by simp) _, ?_⟩
                  rw [FIN.out]
                  refine congrArg Ending.returned ?_
                  have : k + (m - k + 1) = m + 1 := by omega
                  simp only [this]
                  rfl
                · have hdl : decide ((256 : Int) ≤ V) = true := decide_eq_true (by omega)
                  have hdn : decide (V < (256 : Int)) = false := decide_eq_false (by omega)
                  have hv := hval2 hlim
                  have fin : r = .error 91 := by
                    rw [← HRES.out, numTok]
                    simp only [HRUN.out, HAT.out, HAT1.out]
                    rw [if_neg H72.out, if_pos H88.out, if_neg hv]
                  have FIN := Lib.hid fin
                  clear fin hv hval2 hgo hlim
                  go_wp2_with fail
                  all_goals refine bodyPost_ret (v := .tuple #[.agg #[.int .i64 4, .string ⟨#[]⟩, .int .i64 0, .int .i64 k], .int .i64 0, .int .i64 91]) (by simp [results, Tryd.results50, go_sem]) rfl ⟨((Below.refl _ _).alloc (Nat.le_refl _) _).alloc (by simp) _, ?_⟩
                  all_goals (rw [FIN.out]; exact ⟨_, _, _, _, _, rfl⟩)
          · have h88b : (((s[j].toNat : Nat) : Int) == 88) = false := by rw [beq_eq_false_iff_ne]; exact h88
            have H88 : Hid (¬ s.data.toList[j]? = some 88) := by show ¬ _; rw [HG.out]; intro h; simp only [Option.some.injEq] at h; exact h88 (by rw [h]; rfl)
            clear h88
            cases dec with
            | false =>
              have hnd := run_nodigit (fun h => by have := HDEC.out.2 h; cases this)
              rw [HLEN.out] at hnd
              have fin : r = .error 90 := by
                rw [← HRES.out, numTok]
                simp only [HRUN.out, HAT.out, HAT1.out]
                rw [if_neg H72.out, if_neg H88.out, if_pos (.inl hnd)]
              have FIN := Lib.hid fin
              clear hnd fin
              go_wp2_with fail
              refine (r_hexa s[j] _).mono ?_
              rintro e w1 ⟨rfl, rfl⟩
              rw [HNX.out]
              go_wp2_with fail
              refine bodyPost_ret (v := .tuple #[.agg #[.int .i64 3, .string ⟨#[]⟩, .int .i64 0, .int .i64 k], .int .i64 0, .int .i64 90]) (by simp [results, Tryd.results50, go_sem]) rfl ⟨((Below.refl _ _).alloc (Nat.le_refl _) _).alloc (by simp) _, ?_⟩
              rw [FIN.out]
              exact ⟨_, _, _, _, _, rfl⟩
            | true =>
              have hdg := run_digits (HDEC.out.1 rfl)
              rw [HLEN.out] at hdg
              have HDG := Lib.hid hdg
              clear hdg
              by_cases h46 : ((s[j].toNat : Nat) : Int) = 46
              · have h46b : (((s[j].toNat : Nat) : Int) == 46) = true := by rw [beq_iff_eq]; exact h46
                have H46 : Hid (s.data.toList[j]? = some 46) := by show _ = _; rw [HG.out]; exact congrArg some (UInt8.toNat_inj.1 (by show _ = 46; omega))
                clear h46
                by_cases hlt3 : j + 1 < s.size
                · have hle : (((j : Int) + 1) == (s.size : Int)) = false := by rw [beq_eq_false_iff_ne]; omega
                  have hlt4 : (j : Int) + 1 < s.size := by omega
                  have HG1 := Lib.hid (at_list s (j + 1) hlt3)
                  have hcb1 : ((s[j + 1].toNat : Nat) : Int) < 256 := by have := UInt8.toNat_lt s[j + 1]; omega
                  by_cases h47 : ((s[j + 1].toNat : Nat) : Int) = 46
                  · have h47b : (((s[j + 1].toNat : Nat) : Int) != 46) = false := by rw [bne_eq_false_iff_eq]; exact h47
                    have HC : Hid (¬ (s.data.toList[j]? = some 46 ∧ s.data.toList[j + 1]? ≠ some 46)) := fun h => h.2 (by rw [HG1.out]; exact congrArg some (UInt8.toNat_inj.1 (by show _ = 46; omega)))
                    clear h47
                    go_wp2_with fail
                    refine (r_hexa s[j] _).mono ?_
                    rintro e w1 ⟨rfl, rfl⟩
                    rw [HNX.out]
                    go_wp2_with fail
                    go_loop [13, 14] (fun v i => ∃ (m : Nat) (V : Int), k ≤ m ∧ m ≤ j ∧ i = .int .i64 m ∧ v = .int .i64 V ∧ 0 ≤ V ∧ V < 21474836490 ∧ Hid (V = (numVal 10 ((s.data.toList.drop k).take (m - k)) : Nat))) (fun _ i => j - (intOf i).toNat)
                    case atStart => exact ⟨k, 0, Nat.le_refl _, hkj, rfl, rfl, by omega, by omega, by simp [Hid, numVal]⟩
                    case round =>
                      obtain ⟨m, V, hkm, hmj, rfl, rfl, hV0, hV, HV⟩ := hrel
                      by_cases hgo : m < j ∧ V < 2147483648
                      · obtain ⟨hg1, hg2⟩ := hgo
                        have hms : m < s.size := by omega
                        have hmi : (m : Int) < j := by omega
                        have hmsi : (m : Int) < s.size := by omega
                        have hcm : ((s[m].toNat : Nat) : Int) < 256 := by have := UInt8.toNat_lt s[m]; omega
                        have hmem : s[m] ∈ (s.data.toList.drop k).take (j - k) := List.mem_of_getElem? (i := m - k) (by rw [List.getElem?_take_of_lt (by omega), at_drop s k m hkm, at_list s m hms])
                        have hstep : numVal 10 ((s.data.toList.drop k).take (m + 1 - k)) = numVal 10 ((s.data.toList.drop k).take (m - k)) * 10 + hexDig s[m] := by rw [take_drop_snoc s k m hkm hms, numVal_snoc]
                        have hv0 := HV.out
                        rcases hex_num (HH.out _ hmem) with ⟨hl, h1, h2, h3⟩ | ⟨hl, h1, h2, h3⟩
                        · rw [h3] at hstep
                          have HS : Hid (V * 10 + ((s[m].toNat : Int) - 65 + 10) = ((numVal 10 ((s.data.toList.drop k).take (m + 1 - k)) : Nat) : Int)) := by show _ = _; rw [hstep]; omega
                          have hb0 : 0 ≤ V * 10 + ((s[m].toNat : Int) - 65 + 10) := by omega
                          have hb1 : V * 10 + ((s[m].toNat : Int) - 65 + 10) < 21474836490 := by omega
                          have HL := Lib.hid hl
                          have i1 : 48 ≤ ((s[m].toNat : Nat) : Int) := by omega
                          have i2 : 65 ≤ ((s[m].toNat : Nat) : Int) := by omega
                          have i3 : ((s[m].toNat : Nat) : Int) ≤ 70 := by omega
                          clear hmem hstep h1 h2 h3 hl hv0
                          go_wp2_with fail
                          refine (r_letter s[m] _).mono ?_
                          rintro e w1 ⟨rfl, rfl⟩
                          rw [HL.out]
                          go_wp2_with fail
                          go_round
                          case rel => exact ⟨m + 1, V * 10 + ((s[m].toNat : Int) - 65 + 10), by omega, by omega, by go_num, rfl, hb0, hb1, HS⟩
                          case measure => simp [intOf]; omega
                        · rw [h3] at hstep
                          have HS : Hid (V * 10 + ((s[m].toNat : Int) - 48) = ((numVal 10 ((s.data.toList.drop k).take (m + 1 - k)) : Nat) : Int)) := by show _ = _; rw [hstep]; omega
                          have hb0 : 0 ≤ V * 10 + ((s[m].toNat : Int) - 48) := by omega
                          have hb1 : V * 10 + ((s[m].toNat : Int) - 48) < 21474836490 := by omega
                          have HL := Lib.hid hl
                          have i1 : 48 ≤ ((s[m].toNat : Nat) : Int) := by omega
                          have i3 : ((s[m].toNat : Nat) : Int) ≤ 57 := by omega
                          clear hmem hstep h1 h2 h3 hl hv0
                          go_wp2_with fail
                          refine (r_letter s[m] _).mono ?_
                          rintro e w1 ⟨rfl, rfl⟩
                          rw [HL.out]
                          go_wp2_with fail
                          go_round
                          case rel => exact ⟨m + 1, V * 10 + ((s[m].toNat : Int) - 48), by omega, by omega, by go_num, rfl, hb0, hb1, HS⟩
                          case measure => simp [intOf]; omega
                      · -- the value is known
                        have hval2 : ¬ V < 2147483648 → ¬ numVal 10 ((s.data.toList.drop k).take (j - k)) < 2147483648 := fun h => by
                          have := numVal_take 10 (by omega) ((s.data.toList.drop k).take (j - k)) (m - k)
                          rw [List.take_take, Nat.min_eq_left (by omega)] at this
                          have := HV.out
                          omega
                        by_cases hlim : V < 2147483648
                        · have hmj3 : m = j := by omega
                          clear hval2 hgo hmj
                          subst hmj3
                          have hv := HV.out
                          have hdl : decide ((2147483648 : Int) ≤ V) = false := decide_eq_false (by omega)
                          have hdb : decide ((2147483648 : Int) ≤ V) = false := decide_eq_false (by omega)
                          have fin : r = .ok (⟨3, [], V, 0⟩, m - k) := by
                            rw [← HRES.out, numTok]
                            simp only [HRUN.out, HAT.out, HAT1.out]
                            rw [if_neg H72.out, if_neg H88.out, if_neg (fun h => h.elim HDG.out HC.out), if_pos (by omega), hv]
                          have FIN := Lib.hid fin
                          clear fin hv hlim
                          go_wp2_with fail
                          refine bodyPost_ret (v := .tuple #[.agg #[.int .i64 3, .string ⟨#[]⟩, .int .i64 V, .int .i64 k], .int .i64 (m), .int .i64 0]) (by simp [results, Tryd.results50, go_sem]) rfl ⟨((Below.refl _ _).alloc (Nat.le_refl _) _).alloc (by simp) _, ?_⟩
                          rw [FIN.out]
                          refine congrArg Ending.returned ?_
                          have : k + (m - k) = m := by omega
                          simp only [this]
                        · have hdl : decide ((2147483648 : Int) ≤ V) = true := decide_eq_true (by omega)
                          have hdn : decide (V < (2147483648 : Int)) = false := decide_eq_false (by omega)
                          have hv := hval2 hlim
                          have fin : r = .error 91 := by
                            rw [← HRES.out, numTok]
                            simp only [HRUN.out, HAT.out, HAT1.out]
                            rw [if_neg H72.out, if_neg H88.out, if_neg (fun h => h.elim HDG.out HC.out), if_neg hv]
                          have FIN := Lib.hid fin
                          clear fin hv hval2 hgo hlim
                          go_wp2_with fail
                          all_goals refine bodyPost_ret (v := .tuple #[.agg #[.int .i64 3, .string ⟨#[]⟩, .int .i64 0, .int .i64 k], .int .i64 0, .int .i64 91]) (by simp [results, Tryd.results50, go_sem]) rfl ⟨((Below.refl _ _).alloc (Nat.le_refl _) _).alloc (by simp) _, ?_⟩
                          all_goals (rw [FIN.out]; exact ⟨_, _, _, _, _, rfl⟩)
                  · have h47b : (((s[j + 1].toNat : Nat) : Int) != 46) = true := by rw [bne_iff_ne]; exact h47
                    have hc47 : s.data.toList[j + 1]? ≠ some 46 := by
                      rw [HG1.out]
                      intro h
                      simp only [Option.some.injEq] at h
                      exact h47 (by rw [h]; rfl)
                    have fin : r = .error 90 := by
                      rw [← HRES.out, numTok]
                      simp only [HRUN.out, HAT.out, HAT1.out]
                      rw [if_neg H72.out, if_neg H88.out, if_pos (.inr ⟨H46.out, hc47⟩)]
                    have FIN := Lib.hid fin
                    clear h47 fin hc47
                    go_wp2_with fail
                    refine (r_hexa s[j] _).mono ?_
                    rintro e w1 ⟨rfl, rfl⟩
                    rw [HNX.out]
                    go_wp2_with fail
                    refine bodyPost_ret (v := .tuple #[.agg #[.int .i64 3, .string ⟨#[]⟩, .int .i64 0, .int .i64 k], .int .i64 0, .int .i64 90]) (by simp [results, Tryd.results50, go_sem]) rfl ⟨((Below.refl _ _).alloc (Nat.le_refl _) _).alloc (by simp) _, ?_⟩
                    rw [FIN.out]
                    exact ⟨_, _, _, _, _, rfl⟩
                · have hle : (((j : Int) + 1) == (s.size : Int)) = true := by rw [beq_iff_eq]; omega
                  have hc47 : s.data.toList[j + 1]? ≠ some 46 := by
                    rw [List.getElem?_eq_none (by rw [len_list]; omega)]
                    simp
                  have fin : r = .error 90 := by
                    rw [← HRES.out, numTok]
                    simp only [HRUN.out, HAT.out, HAT1.out]
                    rw [if_neg H72.out, if_neg H88.out, if_pos (.inr ⟨H46.out, hc47⟩)]
                  have FIN := Lib.hid fin
                  clear fin hc47
                  go_wp2_with fail
                  refine (r_hexa s[j] _).mono ?_
                  rintro e w1 ⟨rfl, rfl⟩
                  rw [HNX.out]
                  go_wp2_with fail
                  refine bodyPost_ret (v := .tuple #[.agg #[.int .i64 3, .string ⟨#[]⟩, .int .i64 0, .int .i64 k], .int .i64 0, .int .i64 90]) (by simp [results, Tryd.results50, go_sem]) rfl ⟨((Below.refl _ _).alloc (Nat.le_refl _) _).alloc (by simp) _, ?_⟩
                  rw [FIN.out]
                  exact ⟨_, _, _, _, _, rfl⟩
              · have h46b : (((s[j].toNat : Nat) : Int) == 46) = false := by rw [beq_eq_false_iff_ne]; exact h46
                have HC : Hid (¬ (s.data.toList[j]? = some 46 ∧ s.data.toList[j + 1]? ≠ some 46)) := fun h => by
                  have h1 := h.1
                  rw [HG.out] at h1
                  simp only [Option.some.injEq] at h1
                  exact h46 (by rw [h1]; rfl)
                clear h46
                go_wp2_with fail
                refine (r_hexa s[j] _).mono ?_
                rintro e w1 ⟨rfl, rfl⟩
                rw [HNX.out]
                go_wp2_with fail
                go_loop [13, 14] (fun v i => ∃ (m : Nat) (V : Int), k ≤ m ∧ m ≤ j ∧ i = .int .i64 m ∧ v = .int .i64 V ∧ 0 ≤ V ∧ V < 21474836490 ∧ Hid (V = (numVal 10 ((s.data.toList.drop k).take (m - k)) : Nat))) (fun _ i => j - (intOf i).toNat)
                case atStart => exact ⟨k, 0, Nat.le_refl _, hkj, rfl, rfl, by omega, by omega, by simp [Hid, numVal]⟩
                case round =>
                  obtain ⟨m, V, hkm, hmj, rfl, rfl, hV0, hV, HV⟩ := hrel
                  by_cases hgo : m < j ∧ V < 2147483648
                  · obtain ⟨hg1, hg2⟩ := hgo
                    have hms : m < s.size := by omega
                    have hmi : (m : Int) < j := by omega
                    have hmsi : (m : Int) < s.size := by omega
                    have hcm : ((s[m].toNat : Nat) : Int) < 256 := by have := UInt8.toNat_lt s[m]; omega
                    have hmem : s[m] ∈ (s.data.toList.drop k).take (j - k) := List.mem_of_getElem? (i := m - k) (by rw [List.getElem?_take_of_lt (by omega), at_drop s k m hkm, at_list s m hms])
                    have hstep : numVal 10 ((s.data.toList.drop k).take (m + 1 - k)) = numVal 10 ((s.data.toList.drop k).take (m - k)) * 10 + hexDig s[m] := by rw [take_drop_snoc s k m hkm hms, numVal_snoc]
                    have hv0 := HV.out
                    rcases hex_num (HH.out _ hmem) with ⟨hl, h1, h2, h3⟩ | ⟨hl, h1, h2, h3⟩
                    · rw [h3] at hstep
                      have HS : Hid (V * 10 + ((s[m].toNat : Int) - 65 + 10) = ((numVal 10 ((s.data.toList.drop k).take (m + 1 - k)) : Nat) : Int)) := by show _ = _; rw [hstep]; omega
                      have hb0 : 0 ≤ V * 10 + ((s[m].toNat : Int) - 65 + 10) := by omega
                      have hb1 : V * 10 + ((s[m].toNat : Int) - 65 + 10) < 21474836490 := by omega
                      have HL := Lib.hid hl
                      have i1 : 48 ≤ ((s[m].toNat : Nat) : Int) := by omega
                      have i2 : 65 ≤ ((s[m].toNat : Nat) : Int) := by omega
                      have i3 : ((s[m].toNat : Nat) : Int) ≤ 70 := by omega
                      clear hmem hstep h1 h2 h3 hl hv0
                      go_wp2_with fail
                      refine (r_letter s[m] _).mono ?_
                      rintro e w1 ⟨rfl, rfl⟩
                      rw [HL.out]
                      go_wp2_with fail
                      go_round
                      case rel => exact ⟨m + 1, V * 10 + ((s[m].toNat : Int) - 65 + 10), by omega, by omega, by go_num, rfl, hb0, hb1, HS⟩
                      case measure => simp [intOf]; omega
                    · rw [h3] at hstep
                      have HS : Hid (V * 10 + ((s[m].toNat : Int) - 48) = ((numVal 10 ((s.data.toList.drop k).take (m + 1 - k)) : Nat) : Int)) := by show _ = _; rw [hstep]; omega
                      have hb0 : 0 ≤ V * 10 + ((s[m].toNat : Int) - 48) := by omega
                      have hb1 : V * 10 + ((s[m].toNat : Int) - 48) < 21474836490 := by omega
                      have HL := Lib.hid hl
                      have i1 : 48 ≤ ((s[m].toNat : Nat) : Int) := by omega
                      have i3 : ((s[m].toNat : Nat) : Int) ≤ 57 := by omega
                      clear hmem hstep h1 h2 h3 hl hv0
                      go_wp2_with fail
                      refine (r_letter s[m] _).mono ?_
                      rintro e w1 ⟨rfl, rfl⟩
                      rw [HL.out]
                      go_wp2_with fail
                      go_round
                      case rel => exact ⟨m + 1, V * 10 + ((s[m].toNat : Int) - 48), by omega, by omega, by go_num, rfl, hb0, hb1, HS⟩
                      case measure => simp [intOf]; omega
                  · -- the value is known
                    have hval2 : ¬ V < 2147483648 → ¬ numVal 10 ((s.data.toList.drop k).take (j - k)) < 2147483648 := fun h => by
                      have := numVal_take 10 (by omega) ((s.data.toList.drop k).take (j - k)) (m - k)
                      rw [List.take_take, Nat.min_eq_left (by omega)] at this
                      have := HV.out
                      omega
                    by_cases hlim : V < 2147483648
                    · have hmj3 : m = j := by omega
                      clear hval2 hgo hmj
                      subst hmj3
                      have hv := HV.out
                      have hdl : decide ((2147483648 : Int) ≤ V) = false := decide_eq_false (by omega)
                      have hdb : decide ((2147483648 : Int) ≤ V) = false := decide_eq_false (by omega)
                      have fin : r = .ok (⟨3, [], V, 0⟩, m - k) := by
                        rw [← HRES.out, numTok]
                        simp only [HRUN.out, HAT.out, HAT1.out]
                        rw [if_neg H72.out, if_neg H88.out, if_neg (fun h => h.elim HDG.out HC.out), if_pos (by omega), hv]
                      have FIN := Lib.hid fin
                      clear fin hv hlim
                      go_wp2_with fail
                      refine bodyPost_ret (v := .tuple #[.agg #[.int .i64 3, .string ⟨#[]⟩, .int .i64 V, .int .i64 k], .int .i64 (m), .int .i64 0]) (by simp [results, Tryd.results50, go_sem]) rfl ⟨((Below.refl _ _).alloc (Nat.le_refl _) _).alloc (by simp) _, ?_⟩
                      rw [FIN.out]
                      refine congrArg Ending.returned ?_
                      have : k + (m - k) = m := by omega
                      simp only [this]
                    · have hdl : decide ((2147483648 : Int) ≤ V) = true := decide_eq_true (by omega)
                      have hdn : decide (V < (2147483648 : Int)) = false := decide_eq_false (by omega)
                      have hv := hval2 hlim
                      have fin : r = .error 91 := by
                        rw [← HRES.out, numTok]
                        simp only [HRUN.out, HAT.out, HAT1.out]
                        rw [if_neg H72.out, if_neg H88.out, if_neg (fun h => h.elim HDG.out HC.out), if_neg hv]
                      have FIN := Lib.hid fin
                      clear fin hv hval2 hgo hlim
                      go_wp2_with fail
                      all_goals refine bodyPost_ret (v := .tuple #[.agg #[.int .i64 3, .string ⟨#[]⟩, .int .i64 0, .int .i64 k], .int .i64 0, .int .i64 91]) (by simp [results, Tryd.results50, go_sem]) rfl ⟨((Below.refl _ _).alloc (Nat.le_refl _) _).alloc (by simp) _, ?_⟩
                      all_goals (rw [FIN.out]; exact ⟨_, _, _, _, _, rfl⟩)
      · -- the text ends here
        have hlt2 : ¬ (j : Int) < s.size := by omega
        have HN : Hid (s.data.toList[j]? = none) := List.getElem?_eq_none (by rw [len_list]; omega)
        have H72 : Hid (¬ s.data.toList[j]? = some 72) := by show ¬ _; rw [HN.out]; simp
        have H88 : Hid (¬ s.data.toList[j]? = some 88) := by show ¬ _; rw [HN.out]; simp
        cases dec with
        | false =>
          have hnd := run_nodigit (fun h => by have := HDEC.out.2 h; cases this)
          rw [HLEN.out] at hnd
          have fin : r = .error 90 := by
            rw [← HRES.out, numTok]
            simp only [HRUN.out, HAT.out, HAT1.out]
            rw [if_neg H72.out, if_neg H88.out, if_pos (.inl hnd)]
          have FIN := Lib.hid fin
          clear hnd fin
          go_wp2_with fail
          refine bodyPost_ret (v := .tuple #[.agg #[.int .i64 3, .string ⟨#[]⟩, .int .i64 0, .int .i64 k], .int .i64 0, .int .i64 90]) (by simp [results, Tryd.results50, go_sem]) rfl ⟨((Below.refl _ _).alloc (Nat.le_refl _) _).alloc (by simp) _, ?_⟩
          rw [FIN.out]
          exact ⟨_, _, _, _, _, rfl⟩
        | true =>
          have hdg := run_digits (HDEC.out.1 rfl)
          rw [HLEN.out] at hdg
          have HDG := Lib.hid hdg
          have HC : Hid (¬ (s.data.toList[j]? = some 46 ∧ s.data.toList[j + 1]? ≠ some 46)) := fun h => by rw [HN.out] at h; exact absurd h.1 (by simp)
          clear hdg
          go_wp2_with fail
          go_loop [13, 14] (fun v i => ∃ (m : Nat) (V : Int), k ≤ m ∧ m ≤ j ∧ i = .int .i64 m ∧ v = .int .i64 V ∧ 0 ≤ V ∧ V < 21474836490 ∧ Hid (V = (numVal 10 ((s.data.toList.drop k).take (m - k)) : Nat))) (fun _ i => j - (intOf i).toNat)
          case atStart => exact ⟨k, 0, Nat.le_refl _, hkj, rfl, rfl, by omega, by omega, by simp [Hid, numVal]⟩
          case round =>
            obtain ⟨m, V, hkm, hmj, rfl, rfl, hV0, hV, HV⟩ := hrel
            by_cases hgo : m < j ∧ V < 2147483648
            · obtain ⟨hg1, hg2⟩ := hgo
              have hms : m < s.size := by omega
              have hmi : (m : Int) < j := by omega
              have hmsi : (m : Int) < s.size := by omega
              have hcm : ((s[m].toNat : Nat) : Int) < 256 := by have := UInt8.toNat_lt s[m]; omega
              have hmem : s[m] ∈ (s.data.toList.drop k).take (j - k) := List.mem_of_getElem? (i := m - k) (by rw [List.getElem?_take_of_lt (by omega), at_drop s k m hkm, at_list s m hms])
              have hstep : numVal 10 ((s.data.toList.drop k).take (m + 1 - k)) = numVal 10 ((s.data.toList.drop k).take (m - k)) * 10 + hexDig s[m] := by rw [take_drop_snoc s k m hkm hms, numVal_snoc]
              have hv0 := HV.out
              rcases hex_num (HH.out _ hmem) with ⟨hl, h1, h2, h3⟩ | ⟨hl, h1, h2, h3⟩
              · rw [h3] at hstep
                have HS : Hid (V * 10 + ((s[m].toNat : Int) - 65 + 10) = ((numVal 10 ((s.data.toList.drop k).take (m + 1 - k)) : Nat) : Int)) := by show _ = _; rw [hstep]; omega
                have hb0 : 0 ≤ V * 10 + ((s[m].toNat : Int) - 65 + 10) := by omega
                have hb1 : V * 10 + ((s[m].toNat : Int) - 65 + 10) < 21474836490 := by omega
                have HL := Lib.hid hl
                have i1 : 48 ≤ ((s[m].toNat : Nat) : Int) := by omega
                have i2 : 65 ≤ ((s[m].toNat : Nat) : Int) := by omega
                have i3 : ((s[m].toNat : Nat) : Int) ≤ 70 := by omega
                clear hmem hstep h1 h2 h3 hl hv0
                go_wp2_with fail
                refine (r_letter s[m] _).mono ?_
                rintro e w1 ⟨rfl, rfl⟩
                rw [HL.out]
                go_wp2_with fail
                go_round
                case rel => exact ⟨m + 1, V * 10 + ((s[m].toNat : Int) - 65 + 10), by omega, by omega, by go_num, rfl, hb0, hb1, HS⟩
                case measure => simp [intOf]; omega
              · rw [h3] at hstep
                have HS : Hid (V * 10 + ((s[m].toNat : Int) - 48) = ((numVal 10 ((s.data.toList.drop k).take (m + 1 - k)) : Nat) : Int)) := by show _ = _; rw [hstep]; omega
                have hb0 : 0 ≤ V * 10 + ((s[m].toNat : Int) - 48) := by omega
                have hb1 : V * 10 + ((s[m].toNat : Int) - 48) < 21474836490 := by omega
                have HL := Lib.hid hl
                have i1 : 48 ≤ ((s[m].toNat : Nat) : Int) := by omega
                have i3 : ((s[m].toNat : Nat) : Int) ≤ 57 := by omega
                clear hmem hstep h1 h2 h3 hl hv0
                go_wp2_with fail
                refine (r_letter s[m] _).mono ?_
                rintro e w1 ⟨rfl, rfl⟩
                rw [HL.out]
                go_wp2_with fail
                go_round
                case rel => exact ⟨m + 1, V * 10 + ((s[m].toNat : Int) - 48), by omega, by omega, by go_num, rfl, hb0, hb1, HS⟩
                case measure => simp [intOf]; omega
            · -- the value is known
              have hval2 : ¬ V < 2147483648 → ¬ numVal 10 ((s.data.toList.drop k).take (j - k)) < 2147483648 := fun h => by
                have := numVal_take 10 (by omega) ((s.data.toList.drop k).take (j - k)) (m - k)
                rw [List.take_take, Nat.min_eq_left (by omega)] at this
                have := HV.out
                omega
              by_cases hlim : V < 2147483648
              · have hmj3 : m = j := by omega
                clear hval2 hgo hmj
                subst hmj3
                have hv := HV.out
                have hdl : decide ((2147483648 : Int) ≤ V) = false := decide_eq_false (by omega)
                have hdb : decide ((2147483648 : Int) ≤ V) = false := decide_eq_false (by omega)
                have fin : r = .ok (⟨3, [], V, 0⟩, m - k) := by
                  rw [← HRES.out, numTok]
                  simp only [HRUN.out, HAT.out, HAT1.out]
                  rw [if_neg H72.out, if_neg H88.out, if_neg (fun h => h.elim HDG.out HC.out), if_pos (by omega), hv]
                have FIN := Lib.hid fin
                clear fin hv hlim
                go_wp2_with fail
                refine bodyPost_ret (v := .tuple #[.agg #[.int .i64 3, .string ⟨#[]⟩, .int .i64 V, .int .i64 k], .int .i64 (m), .int .i64 0]) (by simp [results, Tryd.results50, go_sem]) rfl ⟨((Below.refl _ _).alloc (Nat.le_refl _) _).alloc (by simp) _, ?_⟩
                rw [FIN.out]
                refine congrArg Ending.returned ?_
                have : k + (m - k) = m := by omega
                simp only [this]
              · have hdl : decide ((2147483648 : Int) ≤ V) = true := decide_eq_true (by omega)
                have hdn : decide (V < (2147483648 : Int)) = false := decide_eq_false (by omega)
                have hv := hval2 hlim
                have fin : r = .error 91 := by
                  rw [← HRES.out, numTok]
                  simp only [HRUN.out, HAT.out, HAT1.out]
                  rw [if_neg H72.out, if_neg H88.out, if_neg (fun h => h.elim HDG.out HC.out), if_neg hv]
                have FIN := Lib.hid fin
                clear fin hv hval2 hgo hlim
                go_wp2_with fail
                all_goals refine bodyPost_ret (v := .tuple #[.agg #[.int .i64 3, .string ⟨#[]⟩, .int .i64 0, .int .i64 k], .int .i64 0, .int .i64 91]) (by simp [results, Tryd.results50, go_sem]) rfl ⟨((Below.refl _ _).alloc (Nat.le_refl _) _).alloc (by simp) _, ?_⟩
                all_goals (rw [FIN.out]; exact ⟨_, _, _, _, _, rfl⟩)
end Go.Proofs.YtkieeaajhomdoaaDoor
