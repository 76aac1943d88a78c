import Derived.Test.YtkieeaajhomdoaaDoorProg
import Derived.WalkKit
import Derived.Deep.QuietTactic
import Derived.BigQuiet
import Derived.Deep.LoopGhost
import Derived.Lib.Hide
import Derived.WalkSpells
import Derived.WalkLawsBesides
import Derived.KernelRfl
import Derived.Test.YtkieeaajhomdoaaDoorSpec
import Derived.WalkSmall
set_option linter.unusedVariables false
set_option linter.unusedSimpArgs false
namespace Go.Proofs.YtkieeaajhomdoaaDoor
open Go.RowKit

/-! ### bytes -/
theorem extract_mk (s : ByteArray) (a b : Nat) : s.extract a b = ⟨((s.data.toList.drop a).take (b - a)).toArray⟩ := by
  apply ByteArray.ext
  apply Array.ext'
  rw [ByteArray.data_extract]
  simp [List.extract_eq_take_drop]
theorem extract_list (s : ByteArray) (a b : Nat) : (s.extract a b).data.toList = (s.data.toList.drop a).take (b - a) := by
  rw [extract_mk]
theorem extract_toList (s : ByteArray) (a b : Nat) : (s.extract a b).toList = (s.data.toList.drop a).take (b - a) := by
  rw [ByteArray.toList_eq, extract_list]
theorem len_list (s : ByteArray) : s.data.toList.length = s.size := Array.length_toList
theorem get_list (s : ByteArray) (k : Nat) (h : k < s.size) : s.data.toList[k]'(by rw [len_list]; exact h) = s[k] := rfl
theorem drop_cons (s : ByteArray) (k : Nat) (h : k < s.size) : s.data.toList.drop k = s[k] :: s.data.toList.drop (k + 1) := by
  rw [List.drop_eq_getElem_cons (by rw [len_list]; exact h), get_list _ _ h]
theorem drop_nil (s : ByteArray) (k : Nat) (h : s.size ≤ k) : s.data.toList.drop k = [] := List.drop_of_length_le (by rw [len_list]; exact h)
theorem take_snoc (s : ByteArray) (k : Nat) (h : k < s.size) : s.data.toList.take (k + 1) = s.data.toList.take k ++ [s[k]] := by
  rw [List.take_succ_eq_append_getElem (by simpa using h)]; rfl
theorem two_of (s : ByteArray) (k : Nat) (h : k + 1 < s.size) : (s.extract k (k + 2)).toList = [s[k], s[k + 1]] := by
  rw [extract_toList, drop_cons s k (by omega), drop_cons s (k + 1) h]
  have : k + 2 - k = 2 := by omega
  rw [this]; rfl

/-! ### worlds -/
theorem cell_of_block {w : World} {b : Nat} {cs : Array Value} {T : TypeId} {fz : Nat × Nat} (h : w.heap[b]? = some (.cells cs T fz)) (c : Nat) : w.cell? ⟨b, c, none⟩ = cs[c]? := by
  simp [World.cell?, h]
theorem frozen_of_block {w : World} {b : Nat} {cs : Array Value} {T : TypeId} (h : w.heap[b]? = some (.cells cs T (0, 0))) (c : Nat) : w.frozen? ⟨b, c, none⟩ = false := by
  simp [World.frozen?, h]
theorem setCell_block {w : World} {b : Nat} {cs : Array Value} {T : TypeId} {fz : Nat × Nat} (h : w.heap[b]? = some (.cells cs T fz)) (c : Nat) (v : Value) :
    (w.setCell ⟨b, c, none⟩ v).heap[b]? = some (.cells (cs.setIfInBounds c v) T fz) := by
  simp [World.setCell, Array.getElem?_modify, h]
theorem alloc_block (w : World) (o : Obj) : (w.alloc o).heap[w.heap.size]? = some o := by
  show (w.heap.push o)[w.heap.size]? = _
  simp
theorem alloc_old {w : World} {o o' : Obj} {b : Nat} (h : w.heap[b]? = some o) : (w.alloc o').heap[b]? = some o := by
  rw [Below.heap_alloc _ _ _ (Array.getElem?_eq_some_iff.1 h).1]; exact h
theorem below_block {w w' : World} {B b : Nat} {o : Obj} (hb : Below B w w') (hB : b < B) (h : w.heap[b]? = some o) : w'.heap[b]? = some o := (hb.block b hB).trans h
theorem block_lt {w : World} {b : Nat} {o : Obj} (h : w.heap[b]? = some o) : b < w.heap.size := (Array.getElem?_eq_some_iff.1 h).1
theorem bthen {w w1 w2 : World} (h : Below w.heap.size w w1) (k : Below w1.heap.size w1 w2) : Below w.heap.size w w2 := h.trans (k.mono h.size)

theorem bcell {W w1 : World} (hb : Below W.heap.size W w1) : (∀ b o, b < W.heap.size → w1.cell? ⟨b, o, none⟩ = W.cell? ⟨b, o, none⟩) ∧ (∀ b o, b < W.heap.size → w1.frozen? ⟨b, o, none⟩ = W.frozen? ⟨b, o, none⟩) :=
  ⟨fun b o h => hb.cell (p := ⟨b, o, none⟩) h, fun b o h => hb.frozen (p := ⟨b, o, none⟩) h⟩
theorem bdrew (B : Nat) (w : World) (n : Nat) : Below B w (w.drewN n) := ⟨rfl, rfl, rfl, Nat.le_refl _, fun _ _ => rfl⟩

/-! ### the lexer's tables -/
def tabA (f : Nat → Bool) : Array Value := Array.ofFn (n := 256) fun i => .bool (f i)
theorem tabA_get (f : Nat → Bool) (c : Nat) (h : c < 256) : (tabA f)[c]? = some (.bool (f c)) := by simp [tabA, h]
theorem tabA_set (f : Nat → Bool) (c : Nat) (h : c < 256) : (tabA f).setIfInBounds c (.bool true) = tabA (fun i => f i || decide (i = c)) := by
  apply Array.ext
  · simp [tabA]
  · intro i h1 h2
    have hi : i < 256 := by simpa [tabA] using h2
    rw [Array.getElem_setIfInBounds (by simpa [tabA] using hi)]
    simp only [tabA, Array.getElem_ofFn]
    by_cases e : c = i
    · simp [e]
    · have : ¬ i = c := fun h => e h.symm
      simp [e, this]
theorem tabA_congr {f g : Nat → Bool} (h : ∀ c, f c = g c) : tabA f = tabA g := by rw [show f = g from funext h]
end Go.Proofs.YtkieeaajhomdoaaDoor
