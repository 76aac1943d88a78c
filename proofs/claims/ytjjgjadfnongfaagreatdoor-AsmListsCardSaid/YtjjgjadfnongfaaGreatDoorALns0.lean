import Derived.Test.YtjjgjadfnongfaaGreatDoorAWd1
import Derived.Test.YtjjgjadfnongfaaGreatDoorAWordL
import Derived.Test.YtjjgjadfnongfaaGreatDoorARaw
import Derived.Test.YtjjgjadfnongfaaGreatDoorABuild
set_option linter.unusedVariables false
set_option linter.unusedSimpArgs false
namespace Go.Proofs.YtjjgjadfnongfaaGreatDoor
open Go.RowKit
/-! Words as lines: what is said. -/
def lineS (x : Int) : List UInt8 := if (lineW x).2 = 0 then (lineW x).1 else rawL x.toNat
def linesS (l : List Int) : List UInt8 := l.flatMap fun x => lineS x ++ [10]
theorem linesS_snoc (l : List Int) (x : Int) : linesS (l ++ [x]) = linesS l ++ (lineS x ++ [10]) := by simp [linesS, List.flatMap_append]
theorem linesS_cons (l : List Int) (x : Int) : linesS (x :: l) = lineS x ++ 10 :: linesS l := by simp [linesS]
theorem rawL_len (n : Nat) (h : n < 4294967296) : (rawL n).length = 9 := by
  have := hexLow_len n h
  simp only [rawL, List.length_cons, List.length_append, List.length_replicate]; omega
theorem lineS_len (x : Int) (h0 : 0 ≤ x) (h1 : x ≤ 4294967295) : (lineS x).length ≤ 30 := by
  unfold lineS
  split
  · rename_i h
    rcases decW_cases x with ⟨hg, -, hl⟩ | ⟨-, -, hl⟩
    · rw [hl]
      simp only [goodW, Bool.and_eq_true] at hg
      exact line_len hg.1
    · rw [hl]; simp
  · have := rawL_len x.toNat (by omega)
    omega
theorem linesS_len (l : List Int) (h : ∀ x ∈ l, 0 ≤ x ∧ x ≤ 4294967295) : (linesS l).length ≤ 31 * l.length := by
  induction l with
  | nil => simp [linesS]
  | cons x l ih =>
    have h1 := lineS_len x (h x (by simp)).1 (h x (by simp)).2
    have h2 := ih (fun y hy => h y (by simp [hy]))
    rw [linesS_cons]
    simp only [List.length_append, List.length_cons]; omega
/-- A list of words, as it lies in memory. -/
def ReadsWs (w : World) (v : Value) (l : List Int) : Prop := ∃ A C, v = .slice A l.length C ∧ (0 < l.length → ∃ b o, A = some ⟨b, o, none⟩ ∧ ∀ i (h : i < l.length), w.cell? ⟨b, o + i, none⟩ = some (.int .u32 l[i]))
theorem ReadsWs.stays {w w' : World} {v : Value} {l : List Int} (h : ReadsWs w v l) (hb : Below w.heap.size w w') : ReadsWs w' v l := by
  obtain ⟨A, C, rfl, h⟩ := h
  refine ⟨A, C, rfl, fun h0 => ?_⟩
  obtain ⟨b, o, rfl, hc⟩ := h h0
  refine ⟨b, o, rfl, fun i hi => ?_⟩
  exact (hb.cell (World.block_lt_of_cell? w _ (hc i hi))).trans (hc i hi)
theorem builder_stays {T e : TypeId} {B b : Nat} {bs : List Value} {w w' : World} (h : Lib.IsBuilderF T e B b bs w) (hb : Below w.heap.size w w') : Lib.IsBuilderF T e B b bs w' := by
  have key : ∀ p, Lib.BuilderAtF T e B b p bs w → Lib.BuilderAtF T e B b p bs w' := by
    intro p h
    obtain ⟨hB, v, hbk, hown, hne⟩ := h
    have hlt : b < w.heap.size := by
      rcases Nat.lt_or_ge b w.heap.size with h' | h'
      · exact h'
      · simp [Array.getElem?_eq_none h'] at hbk
    refine ⟨hB, v, (hb.block b hlt).trans hbk, ⟨hown.1, ?_⟩, hne⟩
    rcases hown.2 with hn | ⟨g, cap, cur, fz, hv, hbg, hg, rest⟩
    · exact .inl hn
    · have hgl : g < w.heap.size := by
        rcases Nat.lt_or_ge g w.heap.size with h' | h'
        · exact h'
        · simp [Array.getElem?_eq_none h'] at hg
      exact .inr ⟨g, cap, cur, fz, hv, hbg, (hb.block g hgl).trans hg, rest⟩
  exact h.elim (fun x => .inl (key _ x)) (fun x => .inr (key _ x))
theorem byteCells_str (l : List UInt8) : Lib.strCells ⟨l.toArray⟩ = Lib.byteCells l := by simp [Lib.strCells, Lib.byteCells]
end Go.Proofs.YtjjgjadfnongfaaGreatDoor
