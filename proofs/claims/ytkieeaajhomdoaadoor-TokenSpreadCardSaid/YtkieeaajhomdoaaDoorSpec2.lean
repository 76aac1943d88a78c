import Derived.Test.YtkieeaajhomdoaaDoorSpec
set_option linter.unusedVariables false
set_option linter.unusedSimpArgs false
namespace Go.Proofs.YtkieeaajhomdoaaDoor
theorem cmt_bound : ∀ (l : List UInt8) (d : Int) (n : Nat), cmt l d = some n → 2 ≤ n ∧ n ≤ l.length
  | [], d, n, h => by simp [cmt] at h
  | [c], d, n, h => by
    rw [cmt.eq_def] at h
    split at h
    · rename_i e; simp at e
    · rename_i e; simp at e
    · rename_i e
      simp only [List.cons.injEq] at e
      obtain ⟨rfl, rfl⟩ := e
      simp [cmt] at h
    · simp at h
  | c :: c2 :: r, d, n, h => by
    rw [cmt.eq_def] at h
    split at h
    · rename_i e
      simp only [List.cons.injEq] at e
      obtain ⟨rfl, rfl, rfl⟩ := e
      obtain ⟨m, hm, rfl⟩ := Option.map_eq_some_iff.1 h
      have := cmt_bound _ _ _ hm
      simp only [List.length_cons]
      omega
    · rename_i e
      simp only [List.cons.injEq] at e
      obtain ⟨rfl, rfl, rfl⟩ := e
      split at h
      · simp only [Option.some.injEq] at h
        simp only [List.length_cons]
        omega
      · obtain ⟨m, hm, rfl⟩ := Option.map_eq_some_iff.1 h
        have := cmt_bound _ _ _ hm
        simp only [List.length_cons]
        omega
    · rename_i e
      simp only [List.cons.injEq] at e
      obtain ⟨rfl, rfl⟩ := e
      obtain ⟨m, hm, rfl⟩ := Option.map_eq_some_iff.1 h
      have := cmt_bound _ _ _ hm
      simp only [List.length_cons] at this ⊢
      omega
    · rename_i e; simp at e
/-- What a token's function may say. -/
def TokFine (l : List UInt8) (r : Except Int (Tok × Nat)) : Prop :=
  (∀ t n, r = .ok (t, n) → 1 ≤ n ∧ n ≤ l.length ∧ t.at_ = 0) ∧ ∀ c, r = .error c → c = 2 ∨ c = 90 ∨ c = 91
theorem fine_ok {l : List UInt8} {t : Tok} {n : Nat} (h0 : t.at_ = 0) (h1 : 1 ≤ n) (h2 : n ≤ l.length) : TokFine l (.ok (t, n)) :=
  ⟨fun t' n' h => by simp only [Except.ok.injEq, Prod.mk.injEq] at h; obtain ⟨rfl, rfl⟩ := h; exact ⟨h1, h2, h0⟩, fun c h => by cases h⟩
theorem fine_err {l : List UInt8} {c : Int} (h : c = 2 ∨ c = 90 ∨ c = 91) : TokFine l (.error c) :=
  ⟨fun t n h => (by cases h), fun c' h' => by simp only [Except.error.injEq] at h'; subst h'; exact h⟩
theorem lt_of_get {l : List UInt8} {n : Nat} {c : UInt8} (h : l[n]? = some c) : n < l.length := by
  rcases Nat.lt_or_ge n l.length with h' | h'
  · exact h'
  · rw [List.getElem?_eq_none h'] at h; cases h
theorem num_fine {l : List UInt8} (h : 1 ≤ run isHex l) : TokFine l (numTok l) := by
  have hl := run_le isHex l
  unfold numTok
  simp only
  split
  · rename_i e
    have := lt_of_get e
    split
    · exact fine_ok rfl (by omega) (by omega)
    · exact fine_err (by simp)
  · split
    · rename_i e
      have := lt_of_get e
      split
      · exact fine_ok rfl (by omega) (by omega)
      · exact fine_err (by simp)
    · split
      · exact fine_err (by simp)
      · split
        · exact fine_ok rfl h hl
        · exact fine_err (by simp)
theorem text_fine {c : UInt8} {l : List UInt8} : TokFine (c :: l) (textTok l) := by
  unfold textTok
  simp only
  split
  · rename_i e
    have := lt_of_get e
    split
    · exact fine_err (by simp)
    · exact fine_ok rfl (by omega) (by simp only [List.length_cons]; omega)
  · exact fine_err (by simp)
theorem sign_pos : ∀ w ∈ signList, 1 ≤ w.length := by decide
theorem sign_fine {l : List UInt8} : TokFine l (signTok l) := by
  unfold signTok
  split
  · rename_i w e
    have h1 := List.mem_of_find?_eq_some e
    have h2 := List.find?_some e
    exact fine_ok rfl (sign_pos w h1) (List.isPrefixOf_iff_prefix.1 h2).length_le
  · exact fine_err (by simp)
theorem tok_fine (l : List UInt8) : TokFine l (tok l) := by
  unfold tok
  split
  · exact fine_err (by simp)
  · rename_i c r
    split
    · rename_i h
      have hl := run_le isInside (c :: r)
      have hp := run_cons_pos (p := isInside) (c := c) (by simp [isInside, h]) r
      unfold wordTok
      split
      · exact fine_ok rfl (by omega) hl
      · split
        · exact fine_err (by simp)
        · exact fine_ok rfl (by omega) hl
    · split
      · rename_i h
        exact num_fine (by rw [run_cons_pos (by simp [isHex, h])]; omega)
      · split
        · exact text_fine
        · exact sign_fine
theorem lexF_nil (f : Nat) (k : Nat) (acc : List Tok) : lexF (f + 1) [] k acc = .ok acc := rfl
theorem lexF_blank (f : Nat) (c : UInt8) (r : List UInt8) (k : Nat) (acc : List Tok) (h : isBlank c = true) : lexF (f + 1) (c :: r) k acc = lexF f r (k + 1) acc := by
  simp only [lexF, h, if_true]
theorem lexF_cmt_bad (f : Nat) (c : UInt8) (r : List UInt8) (k : Nat) (acc : List Tok) (h : isBlank c = false) (h2 : [40, 42].isPrefixOf (c :: r) = true) (h3 : cmt (c :: r) 0 = none) : lexF (f + 1) (c :: r) k acc = .error (k, 90) := by
  simp only [lexF, h, h2, h3, Bool.false_eq_true, if_false, if_true]
theorem lexF_cmt (f : Nat) (c : UInt8) (r : List UInt8) (k : Nat) (acc : List Tok) (n : Nat) (h : isBlank c = false) (h2 : [40, 42].isPrefixOf (c :: r) = true) (h3 : cmt (c :: r) 0 = some n) : lexF (f + 1) (c :: r) k acc = lexF f ((c :: r).drop n) (k + n) acc := by
  simp only [lexF, h, h2, h3, Bool.false_eq_true, if_false, if_true]
theorem lexF_err (f : Nat) (c : UInt8) (r : List UInt8) (k : Nat) (acc : List Tok) (e : Int) (h : isBlank c = false) (h2 : [40, 42].isPrefixOf (c :: r) = false) (h3 : tok (c :: r) = .error e) : lexF (f + 1) (c :: r) k acc = .error (k, e) := by
  simp only [lexF, h, h2, h3, Bool.false_eq_true, if_false]
theorem lexF_many (f : Nat) (c : UInt8) (r : List UInt8) (k : Nat) (acc : List Tok) (t : Tok) (n : Nat) (h : isBlank c = false) (h2 : [40, 42].isPrefixOf (c :: r) = false) (h3 : tok (c :: r) = .ok (t, n)) (h4 : acc.length = 6000) : lexF (f + 1) (c :: r) k acc = .error (k, 3) := by
  simp only [lexF, h, h2, h3, h4, Bool.false_eq_true, if_false, if_true]
theorem lexF_tok (f : Nat) (c : UInt8) (r : List UInt8) (k : Nat) (acc : List Tok) (t : Tok) (n : Nat) (h : isBlank c = false) (h2 : [40, 42].isPrefixOf (c :: r) = false) (h3 : tok (c :: r) = .ok (t, n)) (h4 : ¬ acc.length = 6000) : lexF (f + 1) (c :: r) k acc = lexF f ((c :: r).drop n) (k + n) (acc ++ [{ t with at_ := k }]) := by
  simp only [lexF, h, h2, h3, h4, Bool.false_eq_true, if_false]
theorem lexF_fuel (n : Nat) : ∀ (l : List UInt8), l.length = n → ∀ (f g : Nat) (k : Nat) (acc : List Tok), l.length < f → l.length < g → lexF f l k acc = lexF g l k acc := by
  induction n using Nat.strongRecOn with
  | _ n ih =>
    intro l hl f g k acc hf hg
    obtain ⟨f, rfl⟩ : ∃ m, f = m + 1 := ⟨f - 1, by omega⟩
    obtain ⟨g, rfl⟩ : ∃ m, g = m + 1 := ⟨g - 1, by omega⟩
    match l with
    | [] => rfl
    | c :: r =>
      simp only [List.length_cons] at hl hf hg
      cases hb : isBlank c with
      | true => rw [lexF_blank _ _ _ _ _ hb, lexF_blank _ _ _ _ _ hb]; exact ih r.length (by omega) r rfl _ _ _ _ (by omega) (by omega)
      | false =>
        cases hp : [40, 42].isPrefixOf (c :: r) with
        | true =>
          cases hc : cmt (c :: r) 0 with
          | none => rw [lexF_cmt_bad _ _ _ _ _ hb hp hc, lexF_cmt_bad _ _ _ _ _ hb hp hc]
          | some m =>
            have := cmt_bound _ _ _ hc
            rw [lexF_cmt _ _ _ _ _ _ hb hp hc, lexF_cmt _ _ _ _ _ _ hb hp hc]
            simp only [List.length_cons] at this
            have e : ((c :: r).drop m).length = r.length + 1 - m := by rw [List.length_drop, List.length_cons]
            exact ih _ (by rw [e]; omega) _ rfl _ _ _ _ (by rw [e]; omega) (by rw [e]; omega)
        | false =>
          cases ht : tok (c :: r) with
          | error e => rw [lexF_err _ _ _ _ _ _ hb hp ht, lexF_err _ _ _ _ _ _ hb hp ht]
          | ok tn =>
            obtain ⟨t, m⟩ := tn
            have := (tok_fine (c :: r)).1 t m ht
            simp only [List.length_cons] at this
            have e : ((c :: r).drop m).length = r.length + 1 - m := by rw [List.length_drop, List.length_cons]
            by_cases h6 : acc.length = 6000
            · rw [lexF_many _ _ _ _ _ _ _ hb hp ht h6, lexF_many _ _ _ _ _ _ _ hb hp ht h6]
            · rw [lexF_tok _ _ _ _ _ _ _ hb hp ht h6, lexF_tok _ _ _ _ _ _ _ hb hp ht h6]
              exact ih _ (by rw [e]; omega) _ rfl _ _ _ _ (by rw [e]; omega) (by rw [e]; omega)
/-- What is still to be read. -/
def Rest (l : List UInt8) (k : Nat) (acc : List Tok) (r : Except (Int × Int) (List Tok)) : Prop := lexF (l.length + 1) l k acc = r
section
variable {l : List UInt8} {c : UInt8} {r : List UInt8} {k : Nat} {acc : List Tok} {R : Except (Int × Int) (List Tok)}
theorem Rest.nil (h : Rest [] k acc R) : R = .ok acc := h.symm
theorem Rest.blank (h : Rest (c :: r) k acc R) (hb : isBlank c = true) : Rest r (k + 1) acc R := by
  unfold Rest at *
  rw [← h, lexF_blank _ _ _ _ _ hb]
  rfl
theorem Rest.cmtBad (h : Rest (c :: r) k acc R) (hb : isBlank c = false) (h2 : [40, 42].isPrefixOf (c :: r) = true) (h3 : cmt (c :: r) 0 = none) : R = .error (k, 90) := by
  unfold Rest at *
  rw [← h, lexF_cmt_bad _ c r k acc hb h2 h3]
theorem Rest.cmtOk {n : Nat} (h : Rest (c :: r) k acc R) (hb : isBlank c = false) (h2 : [40, 42].isPrefixOf (c :: r) = true) (h3 : cmt (c :: r) 0 = some n) : Rest ((c :: r).drop n) (k + n) acc R := by
  have := cmt_bound _ _ _ h3
  unfold Rest at *
  rw [← h, lexF_cmt _ c r k acc n hb h2 h3]
  simp only [List.length_cons] at this
  exact lexF_fuel _ _ rfl _ _ _ _ (by omega) (by rw [List.length_drop, List.length_cons]; omega)
theorem Rest.bad {e : Int} (h : Rest (c :: r) k acc R) (hb : isBlank c = false) (h2 : [40, 42].isPrefixOf (c :: r) = false) (h3 : tok (c :: r) = .error e) : R = .error (k, e) := by
  unfold Rest at *
  rw [← h, lexF_err _ c r k acc e hb h2 h3]
theorem Rest.many {t : Tok} {n : Nat} (h : Rest (c :: r) k acc R) (hb : isBlank c = false) (h2 : [40, 42].isPrefixOf (c :: r) = false) (h3 : tok (c :: r) = .ok (t, n)) (h4 : acc.length = 6000) : R = .error (k, 3) := by
  unfold Rest at *
  rw [← h, lexF_many _ c r k acc t n hb h2 h3 h4]
theorem Rest.tok {t : Tok} {n : Nat} (h : Rest (c :: r) k acc R) (hb : isBlank c = false) (h2 : [40, 42].isPrefixOf (c :: r) = false) (h3 : Go.Proofs.YtkieeaajhomdoaaDoor.tok (c :: r) = .ok (t, n)) (h4 : ¬ acc.length = 6000) : Rest ((c :: r).drop n) (k + n) (acc ++ [{ t with at_ := k }]) R := by
  have := (tok_fine (c :: r)).1 t n h3
  unfold Rest at *
  rw [← h, lexF_tok _ c r k acc t n hb h2 h3 h4]
  simp only [List.length_cons] at this
  exact lexF_fuel _ _ rfl _ _ _ _ (by omega) (by rw [List.length_drop, List.length_cons]; omega)
end
end Go.Proofs.YtkieeaajhomdoaaDoor
