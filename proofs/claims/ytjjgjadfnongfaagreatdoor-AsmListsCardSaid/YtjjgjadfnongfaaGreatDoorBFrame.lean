import Derived.Test.YtjjgjadfnongfaaGreatDoorAFrame
import Derived.Test.YtjjgjadfnongfaaGreatDoorAWsA
set_option linter.unusedVariables false
set_option linter.unusedSimpArgs false
namespace Go.Proofs.YtjjgjadfnongfaaGreatDoor
open Go.ChangeShapes Go.WideShapes Go.ChangeAt Go.RowKit Go.Deep
theorem cells_u32 : Tryz.prog.cellsOf 23 = 1 := by kernel_rfl
theorem wf_u32 {n : Int} (h : (Lit.int .u32 n).wf = true) : 0 ≤ n ∧ n ≤ 4294967295 := by
  simp [Lit.wf, IntKind.min, IntKind.max, IntKind.signed, IntKind.bits] at h
  omega
set_option maxRecDepth 100000 in
theorem open_words {H : Type} {enc : TypeId × Value → H} {w : World} {base : Nat} {spare : Nat → Bool} {held : Bool} {r : Reach} {b0 : Nat} {v : Value} {d : DataW H} {p : List MemPlace}
    (hv : Value.okWide Tryz.prog w r b0 30 v) (h : DataW.Trod enc Tryz.prog w base spare held 30 v d p) :
    ∃ l : List Int, ArgWs w v l ∧ ∀ x ∈ l, 0 ≤ x ∧ x ≤ 4294967295 := by
  obtain ⟨A, len, cap, rfl⟩ := okWide_slice Tryz.underlying30 hv
  obtain ⟨fuel, hf⟩ := h
  rcases open_slice Tryz.underlying30 hf with ⟨hcs, _⟩ | ⟨a, len', cap', m, n, D, Pl, hcs, hb, hl, hm, hmm, hx, hi⟩
  · simp only [Value.cells, List.cons.injEq, and_true] at hcs
    rw [hcs]
    exact ⟨[], .inl ⟨rfl, rfl⟩, by simp⟩
  · simp [Value.cells] at hcs
    obtain ⟨rfl, rfl, rfl⟩ := hcs
    have hml : len ≤ m := by
      rw [hmm]
      split
      · exact hl
      · exact Nat.le_refl _
    have key : ∀ i, ∃ t : Int, i < len → (w.cell? (a.add i) = some (.int .u32 t) ∧ 0 ≤ t ∧ t ≤ 4294967295) := by
      intro i
      by_cases him : i < len
      · obtain ⟨cs', hc, ht'⟩ := hi i (by omega)
        rw [cells_u32] at hc
        obtain ⟨hsz, _, hcell⟩ := World.cells?_some hc
        match cs', hsz, hcell, ht' with
        | [c0], _, hcell, ht' =>
          obtain ⟨t, e, _, wf⟩ := DataW.trod_int Tryz.underlying23 ht'
          simp only [List.cons.injEq, and_true] at e
          subst e
          refine ⟨t, fun _ => ⟨?_, wf_u32 wf⟩⟩
          have := hcell 0 (by omega)
          rw [Go.Deep.add_add] at this
          simpa using this
      · exact ⟨0, fun h => absurd h him⟩
    obtain ⟨f, hf2⟩ := Classical.axiomOfChoice key
    refine ⟨(List.range len).map f, .inr ⟨a, cap, by simp, ?_⟩, ?_⟩
    · intro i hi2
      simp only [List.length_map, List.length_range] at hi2
      simp only [List.getElem_map, List.getElem_range]
      exact (hf2 i hi2).1
    · intro t ht2
      obtain ⟨i, hi2, rfl⟩ := List.mem_map.1 ht2
      exact (hf2 i (List.mem_range.1 hi2)).2
end Go.Proofs.YtjjgjadfnongfaaGreatDoor
