import Derived.Test.YtjjgjadfnongfaaGreatDoorAWs
import Derived.Laws.AppendOwnNone
set_option linter.unusedVariables false
set_option linter.unusedSimpArgs false
namespace Go.Proofs.YtjjgjadfnongfaaGreatDoor
open Go.RowKit
/-! A list of words that came in; its copy. -/
def ArgWs (w : World) (v : Value) (l : List Int) : Prop :=
  (v = .slice none 0 0 ∧ l = []) ∨ ∃ a c, v = .slice (some a) l.length c ∧ ∀ (i : Nat) (h : i < l.length), w.cell? (a.add i) = some (.int .u32 l[i])
theorem ArgWs.reads {w : World} {v : Value} {l : List Int} (h : ArgWs w v l) : ReadsWs w v l := by
  rcases h with ⟨rfl, rfl⟩ | ⟨⟨b, o, sp⟩, c, rfl, hc⟩
  · exact ⟨none, 0, rfl, fun h => by simp at h⟩
  · refine ⟨_, c, rfl, fun h0 => ?_⟩
    have h00 := hc 0 h0
    have hsp : sp = none := by
      unfold World.cell? at h00
      rw [show (⟨b, o, sp⟩ : Addr).add 0 = ⟨b, o, sp⟩ from rfl] at h00
      split at h00
      · split at h00
        · cases h00
        · rename_i hs
          simpa using hs
      · cases h00
    subst hsp
    refine ⟨b, o, rfl, fun i hi => ?_⟩
    rw [← add_off]
    exact hc i hi
theorem ArgWs.stays {w w' : World} {v : Value} {l : List Int} (h : ArgWs w v l) (hb : Below w.heap.size w w') : ArgWs w' v l := by
  rcases h with h | ⟨a, c, rfl, hc⟩
  · exact .inl h
  · refine .inr ⟨a, c, rfl, fun i hi => ?_⟩
    exact (hb.cell (World.block_lt_of_cell? w _ (hc i hi))).trans (hc i hi)
theorem wpList_append_ws {w : World} {ops : Array Oper} {rest : List Oper} {o : Oper} {a : Act} {Q : Exit → Act → World → Prop} (hgd : o.guard = none) (s x : Operand)
    (ho : o.op = .call { callee := .builtin .append, args := #[s, x], argTypes := #[30, 30] })
    (base : Nat) (v0 v : Value) (l : List Int) (hs : a.eval s = v0) (hown : w.ownsRow base 23 1 v0 0 []) (hx : a.eval x = v) (hr : ArgWs w v l) (hl : l.length ≤ 7000) (hbase : base ≤ w.heap.size)
    (h : ∀ v' w', w'.ownsRow base 23 1 v' l.length (wordsV l) → w.grownBy w' v0.ownBlock → wpList Tryz.prog ops Q rest (a.put o.dst v') w') : wpList Tryz.prog ops Q (o :: rest) a w := by
  obtain ⟨i0, hi, hz0, hz1, hz2⟩ := info_parts info_u32
  rcases hr with ⟨rfl, rfl⟩ | ⟨ad, c, rfl, hc⟩
  · refine wpList_append_own_none hgd s x _ ho base 23 i0 1 Tryz.underlying30 hi v0 0 [] hs hown hx ?_
    exact h v0 w hown (World.grownBy.refl w _)
  · refine wpList_append_own _ hgd s x _ ho base 23 i0 _ 1 4 Tryz.underlying30 hi hz0 hz1 hz2 rfl (by decide) v0 0 [] hs hown ad l.length c (wordsV l) hx (by simp [wordsV]) ?_ ?_ (by unfold maxLen; omega) (by omega) hbase ?_
    · intro j u hu
      have hj : j < l.length := by
        rcases Nat.lt_or_ge j l.length with h | h
        · exact h
        · rw [List.getElem?_eq_none (by simpa [wordsV] using h)] at hu; cases hu
      rw [hc j hj, ← hu]
      simp [wordsV, List.getElem?_eq_getElem hj]
    · intro u hu
      simp only [wordsV, List.mem_map] at hu
      obtain ⟨x, -, rfl⟩ := hu
      rfl
    · intro v' w' h1 h2 _
      rw [Nat.zero_add, List.nil_append] at h1
      exact h v' w' h1 h2
theorem new_row32 (w : World) : (w.alloc (.cells #[] 23)).ownsRow w.heap.size 23 1 (.slice (some ⟨w.heap.size, 0, none⟩) 0 0) 0 [] :=
  ⟨rfl, .inr ⟨w.heap.size, 0, #[], rfl, Nat.le_refl _, heap_alloc_new w _, Nat.le_refl _, by unfold maxLen; omega, rfl, rfl⟩⟩
end Go.Proofs.YtjjgjadfnongfaaGreatDoor
