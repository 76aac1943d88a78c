import Derived.Test.YtjjgjadfnongfaaGreatDoorAny
set_option linter.unusedVariables false
set_option linter.unusedSimpArgs false
namespace Go.Proofs.YtjjgjadfnongfaaGreatDoor
open Go Go.RowKit
/-! As Any, but what a step must keep may hang on the operation: a store late in the region may turn what the loads ahead of it read. -/
section
variable {P : Program} {ops : Array Oper} {Q : Exit → Act → World → Prop} {md : Region.Mode} {S : Nat → World → World → Prop}
def wpAnyW (S : Nat → World → World → Prop) (P : Program) (md : Region.Mode) (ops : Array Oper) (Q : Exit → Act → World → Prop) : Nat → Array Bool → Act → World → Prop
  | 0, listed, a, w => Region.ready md ops listed = [] ∧ Q .normal a w
  | fuel + 1, listed, a, w =>
    (Region.ready md ops listed = [] → Q .normal a w) ∧
    ∀ i ∈ Region.ready md ops listed, wpOp P ops Q i (fun a' w' => S i w w' ∧ wpAnyW S P md ops Q fuel (listed.setIfInBounds i true) a' w') a w
theorem wpAny_of_w : ∀ (fuel : Nat) (listed : Array Bool) (a : Act) (w : World), wpAnyW S P md ops Q fuel listed a w → wpAny P md ops Q fuel listed a w
  | 0, _, _, _, h => h
  | fuel + 1, _, _, _, h => ⟨h.1, fun i hi => wpOp_mono (fun a' w' h' => wpAny_of_w fuel _ a' w' h'.2) (h.2 i hi)⟩
theorem wpAnyW_first {R : World → World → Prop} (hR : Goes R) {i : Nat} {oi : Oper} {v : Value} (Inv : Array Bool → Prop)
    (hInv : ∀ (listed : Array Bool) (j : Nat), Inv listed → j ∈ Region.ready md ops listed → j ≠ i → Inv (listed.setIfInBounds j true) ∧ ∀ w w', S j w w' → R w w')
    (hi : ops[i]? = some oi) (hsel : ∀ (j : Nat) (o : Oper) cs b, ops[j]? = some o → o.op ≠ .select cs b)
    (hQ : ∀ c a w, Q (.panic c) (a.put oi.dst v) w → Q (.panic c) a w) :
    ∀ (fuel : Nat) (listed : Array Bool) (a : Act) (w : World), Inv listed →
      (∀ j oj, ops[j]? = some oj → j ≠ i → listed.getD j true = false → (∀ e ∈ oj.after, Region.binds md e = true → e.on ≠ i) → oi.apart ops oj = true) →
      i ∈ Region.ready md ops listed → YieldsIf P ops (R w) oi v a → (∀ w, S i w w) →
      wpAnyW S P md ops Q fuel (listed.setIfInBounds i true) (a.put oi.dst v) w → wpAnyW S P md ops Q (fuel + 1) listed a w := by
  intro fuel
  induction fuel with
  | zero =>
    intro listed a w _ _ hr hy hS H
    refine ⟨fun h => (by rw [h] at hr; cases hr), fun j hj => ?_⟩
    by_cases hji : j = i
    · subst hji; exact hy.wpOp hi (hR.refl w) ⟨hS w, H⟩
    · have := ready_mono hj hji
      rw [H.1] at this
      cases this
  | succ fuel ih =>
    intro listed a w hI hfree hr hy hS H
    refine ⟨fun h => (by rw [h] at hr; cases hr), fun j hj => ?_⟩
    by_cases hji : j = i
    · subst hji; exact hy.wpOp hi (hR.refl w) ⟨hS w, H⟩
    · obtain ⟨hI', hSR⟩ := hInv listed j hI hj hji
      have h1 := H.2 j (ready_mono hj hji)
      obtain ⟨hjun, oj, hoj, hall⟩ := mem_ready.1 hj
      have hnot : ∀ e ∈ oj.after, Region.binds md e = true → e.on ≠ i := fun e he hb heq => by
        have h1 := hall e he hb
        have h0 := (mem_ready.1 hr).1
        rw [heq] at h1
        rcases Nat.lt_or_ge i listed.size with h' | h'
        · simp [h'] at h0 h1; rw [h0] at h1; cases h1
        · simp [Array.getElem?_eq_none h'] at h1
      have h2 := wpOp_putIf hoj (hfree j oj hoj hji hjun hnot) (fun cs b => hsel i oi cs b hi) (fun cs b => hsel j oj cs b hoj) hQ hy h1
      have hfree' : ∀ k ok, ops[k]? = some ok → k ≠ i → (listed.setIfInBounds j true).getD k true = false →
          (∀ e ∈ ok.after, Region.binds md e = true → e.on ≠ i) → oi.apart ops ok = true := fun k ok hk hki hun hno => by
        refine hfree k ok hk hki ?_ hno
        by_cases hjk : j = k
        · subst hjk; exact hjun
        · rw [getD_set_ne true hjk] at hun; exact hun
      refine wpOp_mono (fun a' w' h3 => ⟨h3.2.1, ih (listed.setIfInBounds j true) a' w' hI' hfree' (ready_mono hr (Ne.symm hji)) (yields_later hR h3.1 (hSR _ _ h3.2.1)) hS ?_⟩) h2
      rw [Array.setIfInBounds_comm _ _ hji]
      exact h3.2.2
/-- A load whose value no operation of the region turns. -/
theorem anyw_take {R : World → World → Prop} (hR : Goes R) (hSR : ∀ j w w', S j w w' → R w w') (hS : ∀ j w, S j w w) (i : Nat) (oi : Oper) (v : Value) {fuel : Nat} {listed : Array Bool} {a : Act} {w : World} (hi : ops[i]? = some oi)
    (hs : Region.noSelect ops = true) (hf : Region.free md ops listed i = true) (hr : (Region.ready md ops listed).contains i = true)
    (hQ : ∀ c (a : Act) (t : Tmp) (u : Value) w, Q (.panic c) (a.put (some t) u) w → Q (.panic c) a w) (hw : Region.wanted oi (yielded ops a.tmps) = true) (hy : ∀ w', R w w' → (execOp a.eval oi).run P w' = .ok (.value v) w')
    (h : wpAnyW S P md ops Q fuel (listed.setIfInBounds i true) (a.put oi.dst v) w) : wpAnyW S P md ops Q (fuel + 1) listed a w :=
  wpAnyW_first hR (fun _ => True) (fun _ j _ _ _ => ⟨trivial, fun w w' h => hSR j w w' h⟩) hi (Region.noSelect_spec hs) (fun c a w h => by cases hd : oi.dst with | none => rw [hd] at h; exact h | some t => rw [hd] at h; exact hQ c a t _ w h) fuel listed a w trivial (Region.free_spec hi hf) (by simpa using hr) (.inl ⟨hw, hy⟩) (hS i) h
/-- What can be listed ahead of operation i: L is shut under steps other than i, and holds none of 'weak'. -/
def Region.shutB (md : Region.Mode) (ops : Array Oper) (i : Nat) (L : Array Bool) (weak : List Nat) : Bool :=
  (Region.ready md ops L).all (fun j => j == i) && weak.all (fun j => !L.getD j true)
def Region.underB (listed L : Array Bool) (n : Nat) : Bool := (List.range n).all fun j => !listed.getD j true || L.getD j true
/-- A load that the operations of 'weak' may turn, none of which can come ahead of it. -/
theorem anyw_take2 {R : World → World → Prop} (hR : Goes R) (weak : List Nat) (L : Array Bool) (hSR : ∀ j w w', j ∉ weak → S j w w' → R w w') (hS : ∀ j w, S j w w) (i : Nat) (oi : Oper) (v : Value) {fuel : Nat} {listed : Array Bool} {a : Act} {w : World}
    (hL : Region.shutB md ops i L weak = true) (hu : Region.underB listed L ops.size = true) (hz : listed.size = ops.size ∧ L.size = ops.size) (hi : ops[i]? = some oi)
    (hs : Region.noSelect ops = true) (hf : Region.free md ops listed i = true) (hr : (Region.ready md ops listed).contains i = true)
    (hQ : ∀ c (a : Act) (t : Tmp) (u : Value) w, Q (.panic c) (a.put (some t) u) w → Q (.panic c) a w) (hw : Region.wanted oi (yielded ops a.tmps) = true) (hy : ∀ w', R w w' → (execOp a.eval oi).run P w' = .ok (.value v) w')
    (h : wpAnyW S P md ops Q fuel (listed.setIfInBounds i true) (a.put oi.dst v) w) : wpAnyW S P md ops Q (fuel + 1) listed a w := by
  simp only [Region.shutB, Bool.and_eq_true, List.all_eq_true, beq_iff_eq] at hL
  refine wpAnyW_first hR (fun l => l.size = ops.size ∧ ∀ j, j < ops.size → l.getD j true = true → L.getD j true = true) ?_ hi (Region.noSelect_spec hs) (fun c a w h => by cases hd : oi.dst with | none => rw [hd] at h; exact h | some t => rw [hd] at h; exact hQ c a t _ w h) fuel listed a w ⟨hz.1, fun j hj hl => ?_⟩ (Region.free_spec hi hf) (by simpa using hr) (.inl ⟨hw, hy⟩) (hS i) h
  · rintro l j ⟨hlz, hl⟩ hj hji
    obtain ⟨hjun, oj, hoj, hall⟩ := mem_ready.1 hj
    have hjlt : j < ops.size := (Array.getElem?_eq_some_iff.1 hoj).1
    have hLj : L.getD j true = true := by
      cases e : L.getD j true with
      | true => rfl
      | false =>
        refine absurd (hL.1 j (mem_ready.2 ⟨e, oj, hoj, fun e' he' hb => ?_⟩)) hji
        have h1 := hall e' he' hb
        by_cases hlt : e'.on < ops.size
        · have h2 := hl e'.on hlt (by
            have : e'.on < l.size := by omega
            simp [this] at h1 ⊢; exact h1)
          have : e'.on < L.size := by omega
          simp [this] at h2 ⊢; exact h2
        · exfalso
          have : ¬ e'.on < l.size := by omega
          simp [Array.getElem?_eq_none (Nat.le_of_not_lt this)] at h1
    refine ⟨⟨by simp [hlz], fun k hk hlk => ?_⟩, fun w w' hSj => hSR j w w' (fun hm => ?_) hSj⟩
    · by_cases hjk : j = k
      · subst hjk; exact hLj
      · rw [getD_set_ne true hjk] at hlk
        exact hl k hk hlk
    · have := hL.2 j hm
      rw [hLj] at this
      cases this
  · have := List.all_eq_true.1 hu j (List.mem_range.2 hj)
    rw [hl] at this
    simpa using this
theorem anyw_one (i : Nat) (o : Oper) {fuel : Nat} {listed : Array Bool} {a : Act} {w : World} (hr : Region.ready md ops listed = [i]) (ho : ops[i]? = some o)
    (h : ∀ K' : Act → World → Prop, Shut (∀ a w', S i w w' → wpAnyW S P md ops Q fuel (listed.setIfInBounds i true) a w' → K' a w') → if Region.wanted o (yielded ops a.tmps) = true then Oper.wp P o a w K' Q else K' (a.put o.dst undef) w) : wpAnyW S P md ops Q (fuel + 1) listed a w := by
  refine ⟨fun h0 => absurd (hr ▸ h0) (by simp), fun j hj => ?_⟩
  rw [hr, List.mem_singleton] at hj
  subst hj
  exact wpOp_step ho (fun K' hK => h K' (fun a w' hL hW => hK a w' ⟨hL, hW⟩))
theorem anyw_two (i j : Nat) (oi oj : Oper) {fuel : Nat} {listed : Array Bool} {a : Act} {w : World} (hr : Region.ready md ops listed = [i, j]) (hi : ops[i]? = some oi) (hj : ops[j]? = some oj)
    (h1 : ∀ K' : Act → World → Prop, Shut (∀ a w', S i w w' → wpAnyW S P md ops Q fuel (listed.setIfInBounds i true) a w' → K' a w') → if Region.wanted oi (yielded ops a.tmps) = true then Oper.wp P oi a w K' Q else K' (a.put oi.dst undef) w)
    (h2 : ∀ K' : Act → World → Prop, Shut (∀ a w', S j w w' → wpAnyW S P md ops Q fuel (listed.setIfInBounds j true) a w' → K' a w') → if Region.wanted oj (yielded ops a.tmps) = true then Oper.wp P oj a w K' Q else K' (a.put oj.dst undef) w) : wpAnyW S P md ops Q (fuel + 1) listed a w := by
  refine ⟨fun h0 => absurd (hr ▸ h0) (by simp), fun k hk => ?_⟩
  rw [hr] at hk
  rcases List.mem_cons.1 hk with rfl | hk
  · exact wpOp_step hi (fun K' hK => h1 K' (fun a w' hL hW => hK a w' ⟨hL, hW⟩))
  · rw [List.mem_singleton] at hk
    subst hk
    exact wpOp_step hj (fun K' hK => h2 K' (fun a w' hL hW => hK a w' ⟨hL, hW⟩))
theorem anyw_done {listed : Array Bool} {a : Act} {w : World} (hr : Region.ready md ops listed = []) (h : Q .normal a w) : ∀ fuel, wpAnyW S P md ops Q fuel listed a w
  | 0 => ⟨hr, h⟩
  | _ + 1 => ⟨fun _ => h, by rw [hr]; simp⟩
theorem anyw_begin (S : Nat → World → World → Prop) {id : Nat} {a : Act} {w : World} (hm : P.follows .mixedOrders = true) (h : wpAnyW S P .any ops Q ops.size (Array.replicate ops.size false) a w.drew) : (Code.region id ops true).wp P Q a w :=
  wp_region_any hm (wpAny_of_w _ _ _ _ h)
end
end Go.Proofs.YtjjgjadfnongfaaGreatDoor
