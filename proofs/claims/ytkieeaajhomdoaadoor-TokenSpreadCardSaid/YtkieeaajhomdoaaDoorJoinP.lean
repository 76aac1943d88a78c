import Derived.Test.YtkieeaajhomdoaaDoorSpec2
set_option linter.unusedVariables false
set_option linter.unusedSimpArgs false
namespace Go.Proofs.YtkieeaajhomdoaaDoor
theorem run_join {p : UInt8 → Bool} (hp : p 10 = false) (t : List UInt8) : ∀ l : List UInt8, run p (l ++ 10 :: t) = run p l
  | [] => by rw [List.nil_append, run_cons_neg hp]; rfl
  | c :: l => by
    cases hc : p c with
    | true => rw [List.cons_append, run_cons_pos hc, run_cons_pos hc, run_join hp t l]
    | false => rw [List.cons_append, run_cons_neg hc, run_cons_neg hc]
theorem get_join {c : UInt8} (hc : c ≠ 10) (t l : List UInt8) {n : Nat} (hn : n ≤ l.length) : ((l ++ 10 :: t)[n]? = some c) ↔ l[n]? = some c := by
  rcases Nat.lt_or_ge n l.length with h | h
  · rw [List.getElem?_append_left h]
  · have : n = l.length := by omega
    subst this
    rw [List.getElem?_append_right (Nat.le_refl _), List.getElem?_eq_none (Nat.le_refl l.length)]
    simp [hc.symm]
theorem num_join (t l : List UInt8) : numTok (l ++ 10 :: t) = numTok l := by
  have hr := run_join (p := isHex) (by decide) t l
  have hle := run_le isHex l
  have htk : (l ++ 10 :: t).take (run isHex l) = l.take (run isHex l) := List.take_append_of_le_length hle
  unfold numTok
  simp only [hr, htk]
  have e72 := get_join (c := 72) (by decide) t l hle
  have e88 := get_join (c := 88) (by decide) t l hle
  have e46 : ((l ++ 10 :: t)[run isHex l]? = some 46 ∧ (l ++ 10 :: t)[run isHex l + 1]? ≠ some 46) ↔ (l[run isHex l]? = some 46 ∧ l[run isHex l + 1]? ≠ some 46) := by
    rw [get_join (c := 46) (by decide) t l hle]
    constructor
    · rintro ⟨h1, h2⟩
      exact ⟨h1, fun h => h2 ((get_join (by decide) t l (by have := lt_of_get h1; omega)).2 h)⟩
    · rintro ⟨h1, h2⟩
      exact ⟨h1, fun h => h2 ((get_join (by decide) t l (by have := lt_of_get h1; omega)).1 h)⟩
  simp only [e72, e88, e46]
theorem text_join (t l : List UInt8) : textTok (l ++ 10 :: t) = textTok l := by
  have hr := run_join (p := isPlain) (by decide) t l
  have hle := run_le isPlain l
  have htk : (l ++ 10 :: t).take (run isPlain l) = l.take (run isPlain l) := List.take_append_of_le_length hle
  unfold textTok
  simp only [hr, htk, get_join (c := 34) (by decide) t l hle]
theorem prefix_join (t : List UInt8) : ∀ (w l : List UInt8), (10 : UInt8) ∉ w → w.isPrefixOf (l ++ 10 :: t) = w.isPrefixOf l
  | [], _, _ => by simp [List.isPrefixOf]
  | x :: w, [], h => by
    have : (x == 10) = false := by rw [beq_eq_false_iff_ne]; intro e; exact h (by simp [e])
    simp [List.isPrefixOf, this]
  | x :: w, c :: l, h => by
    simp only [List.cons_append, List.isPrefixOf]
    rw [prefix_join t w l (fun h2 => h (by simp [h2]))]
theorem sign_no10 : ∀ w ∈ signList, (10 : UInt8) ∉ w := by decide
theorem find_congr {α : Type} {p q : α → Bool} : ∀ (l : List α), (∀ x ∈ l, p x = q x) → l.find? p = l.find? q
  | [], _ => rfl
  | x :: l, h => by
    rw [List.find?_cons, List.find?_cons, h x (by simp), find_congr l (fun y hy => h y (by simp [hy]))]
theorem sign_join (t l : List UInt8) : signTok (l ++ 10 :: t) = signTok l := by
  unfold signTok
  rw [find_congr signList (fun w hw => prefix_join t w l (sign_no10 w hw))]
theorem tok_join (t : List UInt8) (c : UInt8) (l : List UInt8) : tok (c :: (l ++ 10 :: t)) = tok (c :: l) := by
  have hr : run isInside (c :: (l ++ 10 :: t)) = run isInside (c :: l) := run_join (p := isInside) (by decide) t (c :: l)
  have htk : (c :: (l ++ 10 :: t)).take (run isInside (c :: l)) = (c :: l).take (run isInside (c :: l)) := List.take_append_of_le_length (l₁ := c :: l) (l₂ := 10 :: t) (run_le _ _)
  have hn : numTok (c :: (l ++ 10 :: t)) = numTok (c :: l) := num_join t (c :: l)
  have hs : signTok (c :: (l ++ 10 :: t)) = signTok (c :: l) := sign_join t (c :: l)
  have hx := text_join t l
  unfold tok
  simp only [hr, htk, hn, hs, hx]
theorem cmt_other {c : UInt8} {r : List UInt8} (d : Int) (h1 : ¬ (c = 40 ∧ r.head? = some 42)) (h2 : ¬ (c = 42 ∧ r.head? = some 41)) : cmt (c :: r) d = (cmt r d).map (1 + ·) := by
  rw [cmt.eq_def]
  split
  · rename_i e
    simp only [List.cons.injEq] at e
    obtain ⟨rfl, rfl⟩ := e
    exact absurd ⟨rfl, rfl⟩ h1
  · rename_i e
    simp only [List.cons.injEq] at e
    obtain ⟨rfl, rfl⟩ := e
    exact absurd ⟨rfl, rfl⟩ h2
  · rename_i e
    simp only [List.cons.injEq] at e
    obtain ⟨rfl, rfl⟩ := e
    rfl
  · rename_i e; simp at e
theorem cmt_join (t : List UInt8) : ∀ (l : List UInt8) (d : Int) (n : Nat), cmt l d = some n → cmt (l ++ t) d = some n
  | [], d, n, h => by simp [cmt] at h
  | [c], d, n, h => by have := cmt_bound _ _ _ h; simp at this; omega
  | c :: c2 :: r, d, n, h => by
    by_cases h1 : c = 40 ∧ c2 = 42
    · obtain ⟨rfl, rfl⟩ := h1
      have h : (cmt r (d + 1)).map (2 + ·) = some n := h
      obtain ⟨m, hm, rfl⟩ := Option.map_eq_some_iff.1 h
      show (cmt (r ++ t) (d + 1)).map (2 + ·) = _
      rw [cmt_join t _ _ _ hm]; rfl
    · by_cases h2 : c = 42 ∧ c2 = 41
      · obtain ⟨rfl, rfl⟩ := h2
        have h : (if d - 1 = 0 then some 2 else (cmt r (d - 1)).map (2 + ·)) = some n := h
        show (if d - 1 = 0 then some 2 else (cmt (r ++ t) (d - 1)).map (2 + ·)) = _
        split at h
        · rename_i h0; rw [if_pos h0]; exact h
        · rename_i h0
          rw [if_neg h0]
          obtain ⟨m, hm, rfl⟩ := Option.map_eq_some_iff.1 h
          rw [cmt_join t _ _ _ hm]; rfl
      · rw [cmt_other d (by simpa using h1) (by simpa using h2)] at h
        obtain ⟨m, hm, rfl⟩ := Option.map_eq_some_iff.1 h
        show cmt (c :: (c2 :: (r ++ t))) d = _
        rw [cmt_other d (by simpa using h1) (by simpa using h2)]
        have ih : cmt (c2 :: (r ++ t)) d = some m := cmt_join t _ _ _ hm
        rw [ih]; rfl
theorem drop_join (t : List UInt8) (c : UInt8) (r : List UInt8) {n : Nat} (h : n ≤ (c :: r).length) : (c :: (r ++ 10 :: t)).drop n = (c :: r).drop n ++ 10 :: t := by
  have := List.drop_append_of_le_length (l₁ := c :: r) (l₂ := 10 :: t) h
  simpa only [List.cons_append] using this
/-- What is read of the first text with the second behind it. -/
theorem rest_join (t : List UInt8) (N : Nat) : ∀ (l : List UInt8), l.length = N → ∀ (k : Nat) (acc : List Tok) (R R' : Except (Int × Int) (List Tok)), Rest l k acc R → Rest (l ++ 10 :: t) k acc R' →
    (∃ toks, R = .ok toks ∧ Rest (10 :: t) (k + l.length) toks R') ∨ ∃ p e, R = .error (p, e) ∧ (e = 90 ∨ R' = R) := by
  induction N using Nat.strongRecOn with
  | _ N ih =>
    intro l hl k acc R R' h h'
    match l with
    | [] => exact .inl ⟨acc, h.nil, h'⟩
    | c :: r =>
      simp only [List.cons_append] at h'
      have hpre : [40, 42].isPrefixOf (c :: (r ++ 10 :: t)) = [40, 42].isPrefixOf (c :: r) := prefix_join t [40, 42] (c :: r) (by decide)
      simp only [List.length_cons] at hl ⊢
      cases hb : isBlank c with
      | true =>
        have := ih r.length (by omega) r rfl _ _ _ _ (h.blank hb) (h'.blank hb)
        rw [show k + (r.length + 1) = k + 1 + r.length by omega]
        exact this
      | false =>
        cases hp : [40, 42].isPrefixOf (c :: r) with
        | true =>
          rw [hp] at hpre
          cases hc : cmt (c :: r) 0 with
          | none => exact .inr ⟨_, _, h.cmtBad hb hp hc, .inl rfl⟩
          | some m =>
            have hm := cmt_bound _ _ _ hc
            have hc' : cmt (c :: (r ++ 10 :: t)) 0 = some m := cmt_join (10 :: t) _ _ _ hc
            have h2 := h'.cmtOk hb hpre hc'
            rw [drop_join t c r hm.2] at h2
            have e : ((c :: r).drop m).length = r.length + 1 - m := by rw [List.length_drop, List.length_cons]
            simp only [List.length_cons] at hm
            have := ih _ (by rw [e]; omega) _ rfl _ _ _ _ (h.cmtOk hb hp hc) h2
            rw [e, show k + m + (r.length + 1 - m) = k + (r.length + 1) by omega] at this
            exact this
        | false =>
          rw [hp] at hpre
          have ht' := tok_join t c r
          cases ht : tok (c :: r) with
          | error e =>
            rw [ht] at ht'
            exact .inr ⟨_, _, h.bad hb hp ht, .inr (by rw [h.bad hb hp ht, h'.bad hb hpre ht'])⟩
          | ok tn =>
            obtain ⟨x, m⟩ := tn
            rw [ht] at ht'
            have hm := (tok_fine (c :: r)).1 x m ht
            by_cases h6 : acc.length = 6000
            · exact .inr ⟨_, _, h.many hb hp ht h6, .inr (by rw [h.many hb hp ht h6, h'.many hb hpre ht' h6])⟩
            · have h2 := h'.tok hb hpre ht' h6
              rw [drop_join t c r hm.2.1] at h2
              have e : ((c :: r).drop m).length = r.length + 1 - m := by rw [List.length_drop, List.length_cons]
              simp only [List.length_cons] at hm
              have := ih _ (by rw [e]; omega) _ rfl _ _ _ _ (h.tok hb hp ht h6) h2
              rw [e, show k + m + (r.length + 1 - m) = k + (r.length + 1) by omega] at this
              exact this
def shift (d : Nat) (x : Tok) : Tok := { x with at_ := x.at_ + d }
/-- The same text at another place, behind other tokens. -/
theorem rest_shift (d : Nat) (A : List Tok) (N : Nat) : ∀ (l : List UInt8), l.length = N → ∀ (k : Nat) (acc : List Tok) (R R' : Except (Int × Int) (List Tok)), A.length + acc.length + l.length < 6000 → Rest l k acc R → Rest l (k + d) (A ++ acc.map (shift d)) R' →
    (∃ toks, R = .ok toks ∧ R' = .ok (A ++ toks.map (shift d)) ∧ toks.length ≤ acc.length + l.length) ∨ ∃ p e, R = .error (p, e) ∧ R' = .error (p + d, e) := by
  induction N using Nat.strongRecOn with
  | _ N ih =>
    intro l hl k acc R R' hz h h'
    match l with
    | [] => exact .inl ⟨acc, h.nil, h'.nil, by simp⟩
    | c :: r =>
      simp only [List.length_cons] at hl hz ⊢
      cases hb : isBlank c with
      | true =>
        have h2 := h'.blank hb
        rw [show k + d + 1 = k + 1 + d by omega] at h2
        have := ih r.length (by omega) r rfl _ _ _ _ (by omega) (h.blank hb) h2
        rcases this with ⟨toks, h1, h2, h3⟩ | this
        · exact .inl ⟨toks, h1, h2, by omega⟩
        · exact .inr this
      | false =>
        cases hp : [40, 42].isPrefixOf (c :: r) with
        | true =>
          cases hc : cmt (c :: r) 0 with
          | none => exact .inr ⟨_, _, h.cmtBad hb hp hc, by rw [h'.cmtBad hb hp hc]; simp only [Int.natCast_add]⟩
          | some m =>
            have hm := cmt_bound _ _ _ hc
            have h2 := h'.cmtOk hb hp hc
            rw [show k + d + m = k + m + d by omega] at h2
            have e : ((c :: r).drop m).length = r.length + 1 - m := by rw [List.length_drop, List.length_cons]
            simp only [List.length_cons] at hm
            have := ih _ (by rw [e]; omega) _ rfl _ _ _ _ (by rw [e]; omega) (h.cmtOk hb hp hc) h2
            rcases this with ⟨toks, h1, h2, h3⟩ | this
            · exact .inl ⟨toks, h1, h2, by rw [e] at h3; omega⟩
            · exact .inr this
        | false =>
          cases ht : tok (c :: r) with
          | error e => exact .inr ⟨_, _, h.bad hb hp ht, by rw [h'.bad hb hp ht]; simp only [Int.natCast_add]⟩
          | ok tn =>
            obtain ⟨x, m⟩ := tn
            have hm := (tok_fine (c :: r)).1 x m ht
            have h6 : ¬ acc.length = 6000 := by omega
            have h6' : ¬ (A ++ acc.map (shift d)).length = 6000 := by rw [List.length_append, List.length_map]; omega
            have h2 := h'.tok hb hp ht h6'
            rw [show k + d + m = k + m + d by omega, List.append_assoc, show acc.map (shift d) ++ [{ x with at_ := ((k + d : Nat) : Int) }] = (acc ++ [{ x with at_ := (k : Int) }]).map (shift d) by
              rw [List.map_append]; simp only [List.map_cons, List.map_nil, shift, Int.natCast_add]] at h2
            have e : ((c :: r).drop m).length = r.length + 1 - m := by rw [List.length_drop, List.length_cons]
            simp only [List.length_cons] at hm
            have := ih _ (by rw [e]; omega) _ rfl _ _ _ _ (by rw [e, List.length_append]; simp only [List.length_cons, List.length_nil]; omega) (h.tok hb hp ht h6) h2
            rcases this with ⟨toks, h1, h2, h3⟩ | this
            · exact .inl ⟨toks, h1, h2, by rw [e, List.length_append] at h3; simp only [List.length_cons, List.length_nil] at h3; omega⟩
            · exact .inr this
theorem lex_rest {l : List UInt8} (h : l.length ≤ 16384) : Rest l 0 [] (lex l) := by
  unfold Rest lex
  rw [if_neg (by omega)]
/-- Two texts with a line's end between. -/
theorem lex_join (s t : List UInt8) (hst : s.length + t.length ≤ 4000) :
    (∃ p e, lex s = .error (p, e) ∧ (e = 90 ∨ lex (s ++ 10 :: t) = lex s)) ∨
    ∃ l, lex s = .ok l ∧ l.length ≤ s.length ∧ ((∃ p e, lex t = .error (p, e) ∧ lex (s ++ 10 :: t) = .error (p + (s.length + 1 : Nat), e)) ∨
      ∃ k, lex t = .ok k ∧ k.length ≤ t.length ∧ lex (s ++ 10 :: t) = .ok (l ++ k.map (shift (s.length + 1)))) := by
  have hs := lex_rest (l := s) (by omega)
  have ht := lex_rest (l := t) (by omega)
  have hj := lex_rest (l := s ++ 10 :: t) (by rw [List.length_append, List.length_cons]; omega)
  have hs2 : (∃ toks, lex s = .ok toks ∧ lex s = .ok ([] ++ toks.map (shift 0)) ∧ toks.length ≤ 0 + s.length) ∨ ∃ p e, lex s = .error (p, e) ∧ lex s = .error (p + (0 : Nat), e) :=
    rest_shift 0 [] s.length s rfl 0 [] _ _ (by simp only [List.length_nil]; omega) hs hs
  rcases rest_join t s.length s rfl _ _ _ _ hs hj with ⟨l, hl, hr⟩ | h
  · have hll : l.length ≤ s.length := by
      rcases hs2 with ⟨l2, h1, _, h3⟩ | ⟨p, e, h1, _⟩
      · rw [hl] at h1
        simp only [Except.ok.injEq] at h1
        subst h1
        omega
      · rw [hl] at h1; cases h1
    refine .inr ⟨l, hl, hll, ?_⟩
    have h2 := hr.blank (by decide)
    rcases rest_shift (s.length + 1) l t.length t rfl 0 [] _ (lex (s ++ 10 :: t)) (by simp only [List.length_nil]; omega) ht (by simpa [Nat.add_assoc] using h2) with ⟨k, h3, h4, h5⟩ | ⟨p, e, h3, h4⟩
    · exact .inr ⟨k, h3, by simpa using h5, h4⟩
    · exact .inl ⟨p, e, h3, h4⟩
  · obtain ⟨p, e, h1, h2⟩ := h
    exact .inl ⟨p, e, h1, h2⟩
theorem rest_at (B : Nat) (N : Nat) : ∀ (l : List UInt8), l.length = N → ∀ (k : Nat) (acc : List Tok) (toks : List Tok), k + l.length ≤ B → (∀ x ∈ acc, 0 ≤ x.at_ ∧ x.at_ < B) → Rest l k acc (.ok toks) → ∀ x ∈ toks, 0 ≤ x.at_ ∧ x.at_ < B := by
  induction N using Nat.strongRecOn with
  | _ N ih =>
    intro l hl k acc toks hB hacc h
    match l with
    | [] =>
      have := h.nil
      simp only [Except.ok.injEq] at this
      subst this
      exact hacc
    | c :: r =>
      simp only [List.length_cons] at hl hB
      cases hb : isBlank c with
      | true => exact ih r.length (by omega) r rfl _ _ _ (by omega) hacc (h.blank hb)
      | false =>
        cases hp : [40, 42].isPrefixOf (c :: r) with
        | true =>
          cases hc : cmt (c :: r) 0 with
          | none => have := h.cmtBad hb hp hc; cases this
          | some m =>
            have hm := cmt_bound _ _ _ hc
            have e : ((c :: r).drop m).length = r.length + 1 - m := by rw [List.length_drop, List.length_cons]
            simp only [List.length_cons] at hm
            exact ih _ (by rw [e]; omega) _ rfl _ _ _ (by rw [e]; omega) hacc (h.cmtOk hb hp hc)
        | false =>
          cases ht : tok (c :: r) with
          | error e => have := h.bad hb hp ht; cases this
          | ok tn =>
            obtain ⟨x, m⟩ := tn
            have hm := (tok_fine (c :: r)).1 x m ht
            by_cases h6 : acc.length = 6000
            · have := h.many hb hp ht h6; cases this
            · have e : ((c :: r).drop m).length = r.length + 1 - m := by rw [List.length_drop, List.length_cons]
              simp only [List.length_cons] at hm
              refine ih _ (by rw [e]; omega) _ rfl _ _ _ (by rw [e]; omega) ?_ (h.tok hb hp ht h6)
              intro y hy
              rcases List.mem_append.1 hy with hy | hy
              · exact hacc y hy
              · simp only [List.mem_cons, List.not_mem_nil, or_false] at hy
                subst hy
                show 0 ≤ (k : Int) ∧ (k : Int) < B
                omega
theorem lex_at {l : List UInt8} {toks : List Tok} (h : lex l = .ok toks) (i : Nat) (hi : i < toks.length) : 0 ≤ toks[i].at_ ∧ toks[i].at_ < l.length := by
  have hl : l.length ≤ 16384 := by
    unfold lex at h
    split at h
    · cases h
    · omega
  have hr := lex_rest hl
  rw [h] at hr
  exact rest_at l.length _ l rfl 0 [] toks (by omega) (fun x hx => by simp at hx) hr _ (List.getElem_mem hi)
theorem lexF_err_fine : ∀ (f : Nat) (l : List UInt8) (k : Nat) (acc : List Tok) (p e : Int), l.length < f → lexF f l k acc = .error (p, e) → (e = 2 ∨ e = 3 ∨ e = 90 ∨ e = 91) ∧ (k : Int) ≤ p ∧ p < k + l.length
  | 0, l, k, acc, p, e, hf, h => by omega
  | f + 1, [], k, acc, p, e, hf, h => by cases h
  | f + 1, c :: r, k, acc, p, e, hf, h => by
    simp only [List.length_cons] at hf ⊢
    cases hb : isBlank c with
    | true =>
      rw [lexF_blank _ _ _ _ _ hb] at h
      have := lexF_err_fine f r (k + 1) acc p e (by omega) h
      omega
    | false =>
      cases hp : [40, 42].isPrefixOf (c :: r) with
      | true =>
        cases hc : cmt (c :: r) 0 with
        | none =>
          rw [lexF_cmt_bad _ _ _ _ _ hb hp hc] at h
          simp only [Except.error.injEq, Prod.mk.injEq] at h
          omega
        | some m =>
          have hm := cmt_bound _ _ _ hc
          rw [lexF_cmt _ _ _ _ _ _ hb hp hc] at h
          have e1 : ((c :: r).drop m).length = r.length + 1 - m := by rw [List.length_drop, List.length_cons]
          simp only [List.length_cons] at hm
          have := lexF_err_fine f _ _ acc p e (by rw [e1]; omega) h
          rw [e1] at this
          omega
      | false =>
        have hfine := tok_fine (c :: r)
        cases ht : tok (c :: r) with
        | error e' =>
          rw [lexF_err _ _ _ _ _ _ hb hp ht] at h
          have := hfine.2 e' ht
          simp only [Except.error.injEq, Prod.mk.injEq] at h
          omega
        | ok tn =>
          obtain ⟨x, m⟩ := tn
          have hm := hfine.1 x m ht
          by_cases h6 : acc.length = 6000
          · rw [lexF_many _ _ _ _ _ _ _ hb hp ht h6] at h
            simp only [Except.error.injEq, Prod.mk.injEq] at h
            omega
          · rw [lexF_tok _ _ _ _ _ _ _ hb hp ht h6] at h
            have e1 : ((c :: r).drop m).length = r.length + 1 - m := by rw [List.length_drop, List.length_cons]
            simp only [List.length_cons] at hm
            have := lexF_err_fine f _ _ _ p e (by rw [e1]; omega) h
            rw [e1] at this
            omega
theorem lex_err {l : List UInt8} {p e : Int} (h : lex l = .error (p, e)) : (e = 2 ∨ e = 3 ∨ e = 90 ∨ e = 91) ∧ 0 ≤ p ∧ (p < l.length ∨ p = 0) := by
  unfold lex at h
  split at h
  · simp only [Except.error.injEq, Prod.mk.injEq] at h
    omega
  · have := lexF_err_fine _ _ _ _ _ _ (Nat.lt_succ_self _) h
    omega
end Go.Proofs.YtkieeaajhomdoaaDoor
