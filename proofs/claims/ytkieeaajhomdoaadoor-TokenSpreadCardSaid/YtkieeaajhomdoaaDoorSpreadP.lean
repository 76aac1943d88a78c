import Derived.Test.YtkieeaajhomdoaaDoorJoinP
set_option linter.unusedVariables false
set_option linter.unusedSimpArgs false
namespace Go.Proofs.YtkieeaajhomdoaaDoor
/-- What a token never goes on with. -/
def goodZ (z : UInt8) : Prop := z = 9 ∨ z = 10 ∨ z = 13 ∨ z = 32 ∨ z = 40
theorem good_blank {c : UInt8} (h : isBlank c = true) : goodZ c := by
  simp only [isBlank, Bool.or_eq_true, beq_iff_eq] at h
  unfold goodZ
  rcases h with ((h | h) | h) | h
  · exact .inl (UInt8.toNat_inj.1 h)
  · exact .inr (.inl (UInt8.toNat_inj.1 h))
  · exact .inr (.inr (.inl (UInt8.toNat_inj.1 h)))
  · exact .inr (.inr (.inr (.inl (UInt8.toNat_inj.1 h))))
theorem good_inside {z : UInt8} (h : goodZ z) : isInside z = false := by rcases h with rfl | rfl | rfl | rfl | rfl <;> rfl
theorem good_hex {z : UInt8} (h : goodZ z) : isHex z = false := by rcases h with rfl | rfl | rfl | rfl | rfl <;> rfl
theorem good_ne {z : UInt8} (h : goodZ z) (c : UInt8) (hc : c ≠ 9 ∧ c ≠ 10 ∧ c ≠ 13 ∧ c ≠ 32 ∧ c ≠ 40) : z ≠ c := by
  obtain ⟨h1, h2, h3, h4, h5⟩ := hc
  rcases h with rfl | rfl | rfl | rfl | rfl
  · exact h1.symm
  · exact h2.symm
  · exact h3.symm
  · exact h4.symm
  · exact h5.symm
theorem run_cut {p : UInt8 → Bool} (l Z : List UInt8) (n : Nat) (hn : n ≤ l.length) (h : run p l < n ∨ (run p l = n ∧ ∀ z, Z.head? = some z → p z = false)) : run p (l.take n ++ Z) = run p l := by
  have hle : run p l ≤ n := by omega
  have hlen : (l.take n).length = n := List.length_take_of_le hn
  refine run_eq (by rw [List.length_append, hlen]; omega) ?_ ?_
  · intro c hc
    rw [List.take_append_of_le_length (by omega), List.take_take, Nat.min_eq_left hle] at hc
    exact run_take_all c hc
  · intro hlt
    rcases h with h | ⟨h, hz⟩
    · rw [List.getElem_append_left (by omega), List.getElem_take]
      exact run_lt_stop (by omega)
    · rw [List.getElem_append_right (by omega)]
      match Z, hz with
      | [], _ => rw [List.length_append, hlen] at hlt; simp at hlt; omega
      | z :: Z, hz =>
        have : run p l - (l.take n).length = 0 := by omega
        simp only [this, List.getElem_cons_zero]
        exact hz z rfl
theorem get_cut {l Z : List UInt8} {n k : Nat} (hn : n ≤ l.length) (hk : k < n) : (l.take n ++ Z)[k]? = l[k]? := by
  rw [List.getElem?_append_left (by rw [List.length_take_of_le hn]; exact hk), List.getElem?_take_of_lt hk]
theorem get_cut0 {l Z : List UInt8} {z : UInt8} {n : Nat} (hn : n ≤ l.length) : (l.take n ++ z :: Z)[n]? = some z := by
  rw [List.getElem?_append_right (by rw [List.length_take_of_le hn]; omega), List.length_take_of_le hn]
  simp
theorem take_cut {l Z : List UInt8} {n k : Nat} (hn : n ≤ l.length) (hk : k ≤ n) : (l.take n ++ Z).take k = l.take k := by
  rw [List.take_append_of_le_length (by rw [List.length_take_of_le hn]; exact hk), List.take_take, Nat.min_eq_left hk]
theorem num_cut {l Z : List UInt8} {z : UInt8} {x : Tok} {n : Nat} (hz : goodZ z) (hn : n ≤ l.length) (h : numTok l = .ok (x, n)) : numTok (l.take n ++ z :: Z) = .ok (x, n) := by
  have hm := run_le isHex l
  have hzz : ∀ y, (z :: Z).head? = some y → isHex y = false := fun y hy => by simp only [List.head?_cons, Option.some.injEq] at hy; subst hy; exact good_hex hz
  unfold numTok at h
  simp only at h
  split at h
  · rename_i e
    split at h
    · rename_i hv
      simp only [Except.ok.injEq, Prod.mk.injEq] at h
      obtain ⟨rfl, rfl⟩ := h
      have hr := run_cut (p := isHex) l (z :: Z) _ hn (.inl (Nat.lt_succ_self _))
      unfold numTok
      simp only [hr, take_cut hn (Nat.le_succ _), get_cut (Z := z :: Z) hn (Nat.lt_succ_self _)]
      rw [if_pos e, if_pos hv]
    · cases h
  · rename_i e72
    split at h
    · rename_i e
      split at h
      · rename_i hv
        simp only [Except.ok.injEq, Prod.mk.injEq] at h
        obtain ⟨rfl, rfl⟩ := h
        have hr := run_cut (p := isHex) l (z :: Z) _ hn (.inl (Nat.lt_succ_self _))
        unfold numTok
        simp only [hr, take_cut hn (Nat.le_succ _), get_cut (Z := z :: Z) hn (Nat.lt_succ_self _)]
        rw [if_neg e72, if_pos e, if_pos hv]
      · cases h
    · rename_i e88
      split at h
      · cases h
      · rename_i h46
        split at h
        · rename_i hv
          simp only [Except.ok.injEq, Prod.mk.injEq] at h
          obtain ⟨rfl, rfl⟩ := h
          have hr := run_cut (p := isHex) l (z :: Z) _ hn (.inr ⟨rfl, hzz⟩)
          unfold numTok
          simp only [hr, take_cut hn (Nat.le_refl _), get_cut0 (Z := Z) (z := z) hn, Option.some.injEq]
          rw [if_neg (good_ne hz 72 (by decide)), if_neg (good_ne hz 88 (by decide)), if_neg, if_pos hv]
          rintro (h | ⟨h, _⟩)
          · exact h46 (.inl h)
          · exact good_ne hz 46 (by decide) h
        · cases h
theorem text_cut {l Z : List UInt8} {x : Tok} {n : Nat} (hn : n ≤ l.length + 1) (h : textTok l = .ok (x, n)) : 1 ≤ n ∧ textTok (l.take (n - 1) ++ Z) = .ok (x, n) := by
  unfold textTok at h
  simp only at h
  split at h
  · rename_i e
    split at h
    · cases h
    · rename_i hv
      simp only [Except.ok.injEq, Prod.mk.injEq] at h
      obtain ⟨rfl, rfl⟩ := h
      have hn' : run isPlain l + 1 ≤ l.length := by omega
      refine ⟨by omega, ?_⟩
      have hr := run_cut (p := isPlain) l Z (run isPlain l + 1) hn' (.inl (Nat.lt_succ_self _))
      rw [show run isPlain l + 2 - 1 = run isPlain l + 1 by omega]
      unfold textTok
      simp only [hr, take_cut hn' (Nat.le_succ _), get_cut (Z := Z) hn' (Nat.lt_succ_self _)]
      rw [if_pos e, if_neg hv]
  · cases h
theorem sign_small : ∀ w ∈ signList, w.length ≤ 2 ∧ ∀ z ∈ w.drop 1, z ≠ 9 ∧ z ≠ 10 ∧ z ≠ 13 ∧ z ≠ 32 ∧ z ≠ 40 := by decide
theorem find_imp {α : Type} {p q : α → Bool} {w : α} (hw : q w = true) : ∀ (l : List α), (∀ x ∈ l, q x = true → p x = true) → l.find? p = some w → l.find? q = some w
  | [], _, h => by cases h
  | x :: l, hi, h => by
    rw [List.find?_cons] at h ⊢
    cases hp : p x with
    | true =>
      rw [hp] at h
      simp only [Option.some.injEq] at h
      subst h
      rw [hw]
    | false =>
      rw [hp] at h
      have hq : q x = false := by
        cases hq : q x with
        | false => rfl
        | true => rw [hi x (by simp) hq] at hp; cases hp
      rw [hq]
      exact find_imp hw l (fun y hy => hi y (by simp [hy])) h
theorem prefix_cut {l Z : List UInt8} {z : UInt8} {n : Nat} (hz : goodZ z) (h1 : 1 ≤ n) (hn : n ≤ l.length) (w : List UInt8) (hw : w.length ≤ 2 ∧ ∀ z ∈ w.drop 1, z ≠ 9 ∧ z ≠ 10 ∧ z ≠ 13 ∧ z ≠ 32 ∧ z ≠ 40) (h : w.isPrefixOf (l.take n ++ z :: Z) = true) : w.isPrefixOf l = true := by
  rw [List.isPrefixOf_iff_prefix, List.prefix_iff_eq_take] at h ⊢
  by_cases hl : w.length ≤ n
  · rw [take_cut hn hl] at h
    exact h
  · have hn1 : n = 1 := by omega
    have hw2 : w.length = 2 := by omega
    subst hn1
    exfalso
    have hg : w[1]? = some z := by
      rw [h, hw2, List.getElem?_take_of_lt (by omega), get_cut0 hn]
    have hmem : z ∈ w.drop 1 := by
      have : (w.drop 1)[0]? = some z := by rw [List.getElem?_drop]; exact hg
      exact List.mem_of_getElem? this
    have := hw.2 z hmem
    obtain ⟨h1, h2, h3, h4, h5⟩ := this
    rcases hz with h | h | h | h | h
    · exact h1 h
    · exact h2 h
    · exact h3 h
    · exact h4 h
    · exact h5 h
theorem sign_cut {l Z : List UInt8} {z : UInt8} {x : Tok} {n : Nat} (hz : goodZ z) (hn : n ≤ l.length) (h : signTok l = .ok (x, n)) : signTok (l.take n ++ z :: Z) = .ok (x, n) := by
  unfold signTok at h
  split at h
  · rename_i w e
    simp only [Except.ok.injEq, Prod.mk.injEq] at h
    obtain ⟨rfl, rfl⟩ := h
    have hm := List.mem_of_find?_eq_some e
    have hp := List.find?_some e
    have hq : w.isPrefixOf (l.take w.length ++ z :: Z) = true := by
      rw [List.isPrefixOf_iff_prefix, List.prefix_iff_eq_take] at hp ⊢
      rw [take_cut hn (Nat.le_refl _)]
      exact hp
    have := find_imp (p := fun w => w.isPrefixOf l) (q := fun v => v.isPrefixOf (l.take w.length ++ z :: Z)) hq signList (fun v hv hvq => prefix_cut hz (sign_pos w hm) hn v (sign_small v hv) hvq) e
    unfold signTok
    rw [this]
  · cases h
theorem tok_cut {l Z : List UInt8} {z : UInt8} {x : Tok} {n : Nat} (hz : goodZ z) (h : tok l = .ok (x, n)) : tok (l.take n ++ z :: Z) = .ok (x, n) := by
  have hf := (tok_fine l).1 x n h
  match l with
  | [] => cases h
  | c :: r =>
    obtain ⟨m, rfl⟩ : ∃ m, n = m + 1 := ⟨n - 1, by omega⟩
    have hn := hf.2.1
    have hnum := fun h => num_cut (l := c :: r) (Z := Z) (x := x) hz hn h
    have hsgn := fun h => sign_cut (l := c :: r) (Z := Z) (x := x) hz hn h
    have htk : (c :: (r.take m ++ z :: Z)) = (c :: r).take (m + 1) ++ z :: Z := rfl
    show tok (c :: (r.take m ++ z :: Z)) = _
    unfold tok at h ⊢
    simp only at h ⊢
    by_cases h1 : isLetter c = true
    · rw [if_pos h1] at h ⊢
      have hm : m + 1 = run isInside (c :: r) := by
        cases hw : wordTok ((c :: r).take (run isInside (c :: r))) with
        | error e => rw [hw] at h; cases h
        | ok t =>
          rw [hw] at h
          simp only [Except.map, Except.ok.injEq, Prod.mk.injEq] at h
          exact h.2.symm
      have hr := run_cut (p := isInside) (c :: r) (z :: Z) (m + 1) hn (.inr ⟨hm.symm, fun y hy => by simp only [List.head?_cons, Option.some.injEq] at hy; subst hy; exact good_inside hz⟩)
      rw [htk, hr, take_cut hn (by omega)]
      exact h
    · rw [if_neg h1] at h ⊢
      by_cases h2 : isDigit c = true
      · rw [if_pos h2] at h ⊢
        rw [htk]
        exact hnum h
      · rw [if_neg h2] at h ⊢
        by_cases h3 : c = 34
        · rw [if_pos h3] at h ⊢
          have := text_cut (l := r) (Z := z :: Z) (by simpa using hn) h
          exact this.2
        · rw [if_neg h3] at h ⊢
          rw [htk]
          exact hsgn h
theorem cmt_take : ∀ (l : List UInt8) (d : Int) (n : Nat), cmt l d = some n → cmt (l.take n) d = some n
  | [], d, n, h => by simp [cmt] at h
  | [c], d, n, h => by have := cmt_bound _ _ _ h; simp at this; omega
  | c :: c2 :: r, d, n, h => by
    by_cases h1 : c = 40 ∧ c2 = 42
    · obtain ⟨rfl, rfl⟩ := h1
      have h : (cmt r (d + 1)).map (2 + ·) = some n := h
      obtain ⟨m, hm, rfl⟩ := Option.map_eq_some_iff.1 h
      rw [show (2 + m) = m + 1 + 1 by omega, List.take_succ_cons, List.take_succ_cons]
      show (cmt (r.take m) (d + 1)).map (2 + ·) = _
      rw [cmt_take _ _ _ hm, Option.map_some]
      congr 1
      omega
    · by_cases h2 : c = 42 ∧ c2 = 41
      · obtain ⟨rfl, rfl⟩ := h2
        have h : (if d - 1 = 0 then some 2 else (cmt r (d - 1)).map (2 + ·)) = some n := h
        split at h
        · rename_i h0
          simp only [Option.some.injEq] at h
          subst h
          show (if d - 1 = 0 then some 2 else _) = _
          rw [if_pos h0]
        · rename_i h0
          obtain ⟨m, hm, rfl⟩ := Option.map_eq_some_iff.1 h
          rw [show (2 + m) = m + 1 + 1 by omega, List.take_succ_cons, List.take_succ_cons]
          show (if d - 1 = 0 then some 2 else (cmt (r.take m) (d - 1)).map (2 + ·)) = _
          rw [if_neg h0, cmt_take _ _ _ hm, Option.map_some]
          congr 1
          omega
      · rw [cmt_other d (by simpa using h1) (by simpa using h2)] at h
        obtain ⟨m, hm, rfl⟩ := Option.map_eq_some_iff.1 h
        have hb := cmt_bound _ _ _ hm
        have ih := cmt_take (c2 :: r) d m hm
        obtain ⟨m, rfl⟩ : ∃ q, m = q + 1 := ⟨m - 1, by omega⟩
        rw [show 1 + (m + 1) = m + 1 + 1 by omega, List.take_succ_cons, List.take_succ_cons]
        rw [List.take_succ_cons] at ih
        rw [cmt_other d (by simpa using h1) (by simpa using h2), ih, Option.map_some]
        congr 1
        omega
def endC : List UInt8 := [32, 40, 42, 42, 42, 41]
def cmtC : List UInt8 := [40, 42, 32, 120, 32, 40, 42, 32, 42, 41, 32, 34, 32, 42, 41]
/-- The text with B before each token; l: the rest from k on. -/
def sp (B : List UInt8) : List UInt8 → Int → List Tok → List UInt8
  | l, k, [] => l ++ endC
  | l, k, x :: xs => l.take (x.at_ - k).toNat ++ (B ++ sp B (l.drop (x.at_ - k).toNat) x.at_ xs)
def Srt : Int → List Tok → Prop
  | _, [] => True
  | k, x :: xs => k ≤ x.at_ ∧ Srt x.at_ xs
theorem Srt.low {j k : Int} (h : j ≤ k) : ∀ {l : List Tok}, Srt k l → Srt j l
  | [], _ => trivial
  | x :: l, h2 => ⟨by have := h2.1; omega, h2.2⟩
theorem sp_skip (B l : List UInt8) (k n : Nat) (more : List Tok) (hs : Srt (k + n : Nat) more) (hn : n ≤ l.length) : sp B l k more = l.take n ++ sp B (l.drop n) (k + n : Nat) more := by
  match more with
  | [] => simp only [sp]; rw [← List.append_assoc, List.take_append_drop]
  | x :: xs =>
    have h := hs.1
    obtain ⟨a, ha⟩ : ∃ a, (x.at_ - (k + n : Nat)).toNat = a := ⟨_, rfl⟩
    have e : (x.at_ - (k : Int)).toNat = n + a := by omega
    simp only [sp]
    rw [ha, e, ← List.append_assoc (l.take n), List.drop_drop]
    congr 1
    rw [List.take_add]
def strip (x : Tok) : Tok := { x with at_ := 0 }
theorem rest_blanks : ∀ (b : List UInt8) (Z : List UInt8) (k : Nat) (acc : List Tok) (R : Except (Int × Int) (List Tok)), (∀ c ∈ b, isBlank c = true) → Rest (b ++ Z) k acc R → Rest Z (k + b.length) acc R
  | [], Z, k, acc, R, _, h => h
  | c :: b, Z, k, acc, R, hb, h => by
    have := rest_blanks b Z (k + 1) acc R (fun x hx => hb x (by simp [hx])) (Rest.blank h (hb c (by simp)))
    rw [List.length_cons, show k + (b.length + 1) = k + 1 + b.length by omega]
    exact this
theorem rest_comment (C Z : List UInt8) (k : Nat) (acc : List Tok) (R : Except (Int × Int) (List Tok)) (hc : cmt (40 :: 42 :: C) 0 = some (C.length + 2)) (h : Rest (40 :: 42 :: (C ++ Z)) k acc R) : Rest Z (k + (C.length + 2)) acc R := by
  have h2 := Rest.cmtOk h (by decide) (by rfl) (cmt_join Z _ _ _ hc)
  have e : (40 :: 42 :: (C ++ Z)).drop (C.length + 2) = Z := by
    show (C ++ Z).drop C.length = Z
    simp
  rw [e] at h2
  exact h2
theorem spread_sim (bl : List UInt8) (hbl : ∀ c ∈ bl, isBlank c = true) (N : Nat) : ∀ (l : List UInt8), l.length = N → ∀ (k : Nat) (acc toks : List Tok), Rest l k acc (.ok toks) →
    ∃ more, toks = acc ++ more ∧ Srt k more ∧ (∃ z Z, sp (bl ++ cmtC) l k more = z :: Z ∧ goodZ z) ∧
      ∀ (k' : Nat) (acc' : List Tok) (R' : Except (Int × Int) (List Tok)), acc'.map strip = acc.map strip → Rest (sp (bl ++ cmtC) l k more) k' acc' R' → ∃ toks', R' = .ok toks' ∧ toks'.map strip = toks.map strip := by
  induction N using Nat.strongRecOn with
  | _ N ih =>
    intro l hl k acc toks h
    match l with
    | [] =>
      have h0 := h.nil
      simp only [Except.ok.injEq] at h0
      subst h0
      refine ⟨[], by simp, trivial, ⟨32, [40, 42, 42, 42, 41], rfl, by simp [goodZ]⟩, ?_⟩
      intro k' acc' R' hacc h2
      have h3 : Rest ([32] ++ (40 :: 42 :: ([42, 42, 41] ++ []))) k' acc' R' := h2
      have h4 := rest_comment [42, 42, 41] [] _ _ _ (by rfl) (rest_blanks [32] _ _ _ _ (by decide) h3)
      exact ⟨acc', h4.nil, hacc⟩
    | c :: r =>
      simp only [List.length_cons] at hl
      cases hb : isBlank c with
      | true =>
        obtain ⟨more, h1, h2, h3, h4⟩ := ih r.length (by omega) r rfl _ _ _ (h.blank hb)
        have e := sp_skip (bl ++ cmtC) (c :: r) k 1 more h2 (by simp)
        rw [show (c :: r).take 1 = [c] from rfl, show (c :: r).drop 1 = r from rfl] at e
        refine ⟨more, h1, h2.low (by omega), ⟨c, _, e, good_blank hb⟩, ?_⟩
        intro k' acc' R' hacc h5
        rw [e] at h5
        exact h4 _ _ _ hacc (h5.blank hb)
      | false =>
        cases hp : [40, 42].isPrefixOf (c :: r) with
        | true =>
          cases hc : cmt (c :: r) 0 with
          | none => have := h.cmtBad hb hp hc; cases this
          | some m =>
            have hm := cmt_bound _ _ _ hc
            have e1 : ((c :: r).drop m).length = r.length + 1 - m := by rw [List.length_drop, List.length_cons]
            obtain ⟨more, h1, h2, h3, h4⟩ := ih _ (by rw [e1]; omega) _ rfl _ _ _ (h.cmtOk hb hp hc)
            have e := sp_skip (bl ++ cmtC) (c :: r) k m more h2 hm.2
            match r, hp with
            | [], hp => simp [List.isPrefixOf] at hp
            | c2 :: r, hp =>
              have hcc : c = 40 ∧ c2 = 42 := by
                simp [List.isPrefixOf] at hp
                exact ⟨hp.1.symm, hp.2.symm⟩
              obtain ⟨rfl, rfl⟩ := hcc
              obtain ⟨q, rfl⟩ : ∃ q, m = q + 1 + 1 := ⟨m - 2, by omega⟩
              have hct := cmt_take _ _ _ hc
              rw [List.take_succ_cons, List.take_succ_cons] at hct e
              have hq : (r.take q).length = q := List.length_take_of_le (by simp only [List.length_cons] at hm; omega)
              refine ⟨more, h1, h2.low (by omega), ⟨40, _, e, by simp [goodZ]⟩, ?_⟩
              intro k' acc' R' hacc h5
              rw [e] at h5
              have h6 := rest_comment (r.take q) _ _ _ _ (by rw [hq]; exact hct) h5
              exact h4 _ _ _ hacc h6
        | false =>
          cases ht : tok (c :: r) with
          | error e => have := h.bad hb hp ht; cases this
          | ok tn =>
            obtain ⟨x, m⟩ := tn
            have hm := (tok_fine (c :: r)).1 x m ht
            by_cases h6 : acc.length = 6000
            · have := h.many hb hp ht h6; cases this
            · have e1 : ((c :: r).drop m).length = r.length + 1 - m := by rw [List.length_drop, List.length_cons]
              obtain ⟨more, h1, h2, ⟨z, Z, h3, hz⟩, h4⟩ := ih _ (by rw [e1]; omega) _ rfl _ _ _ (h.tok hb hp ht h6)
              have e := sp_skip (bl ++ cmtC) (c :: r) k m more h2 hm.2.1
              have e0 : sp (bl ++ cmtC) (c :: r) k ({ x with at_ := (k : Int) } :: more) = bl ++ (cmtC ++ ((c :: r).take m ++ sp (bl ++ cmtC) ((c :: r).drop m) (k + m : Nat) more)) := by
                rw [← e]
                simp [sp]
              refine ⟨{ x with at_ := (k : Int) } :: more, by rw [h1]; simp, ⟨by simp, h2.low (by simp; omega)⟩, ?_, ?_⟩
              · rw [e0]
                match bl, hbl with
                | [], _ => exact ⟨40, _, rfl, by simp [goodZ]⟩
                | b :: bl, hbl => exact ⟨b, _, rfl, good_blank (hbl b (by simp))⟩
              · intro k' acc' R' hacc h5
                rw [e0] at h5
                have h7 := rest_blanks bl _ _ _ _ hbl h5
                have h8 := rest_comment [32, 120, 32, 40, 42, 32, 42, 41, 32, 34, 32, 42, 41] _ _ _ _ (by rfl) h7
                obtain ⟨q, rfl⟩ : ∃ q, m = q + 1 := ⟨m - 1, by omega⟩
                have htc := tok_cut (Z := Z) hz ht
                rw [h3, List.take_succ_cons] at h8
                have h8 : Rest (c :: (r.take q ++ z :: Z)) _ acc' R' := h8
                rw [List.take_succ_cons] at htc
                have hp' : [40, 42].isPrefixOf (c :: (r.take q ++ z :: Z)) = false := by
                  cases hpp : [40, 42].isPrefixOf (c :: (r.take q ++ z :: Z)) with
                  | false => rfl
                  | true =>
                    have := prefix_cut (l := c :: r) (n := q + 1) (Z := Z) hz (by omega) hm.2.1 [40, 42] (by decide) hpp
                    rw [hp] at this; cases this
                have hlen : acc'.length = acc.length := by have := congrArg List.length hacc; simpa using this
                have h9 := Rest.tok h8 hb hp' htc (by rw [hlen]; exact h6)
                have ed : (c :: (r.take q ++ z :: Z)).drop (q + 1) = z :: Z := by
                  show (r.take q ++ z :: Z).drop q = _
                  rw [List.drop_append_of_le_length (by rw [List.length_take_of_le (by have := hm.2.1; simp only [List.length_cons] at this; omega)]; exact Nat.le_refl _), List.drop_eq_nil_of_le (by rw [List.length_take]; omega)]
                  rfl
                rw [ed, ← h3] at h9
                refine h4 _ _ _ ?_ h9
                rw [List.map_append, List.map_append, hacc]
                rfl
theorem lex_srt {s : List UInt8} {toks : List Tok} (hs : s.length ≤ 16384) (h : lex s = .ok toks) : Srt 0 toks := by
  have hr := lex_rest hs
  rw [h] at hr
  obtain ⟨more, h1, h2, _⟩ := spread_sim [] (by simp) _ s rfl 0 [] toks hr
  simp only [List.nil_append] at h1
  subst h1
  exact h2
/-- Blanks and a comment before each token change nothing but places. -/
theorem lex_spread {s bl : List UInt8} {toks : List Tok} (hbl : ∀ c ∈ bl, isBlank c = true) (hs : s.length ≤ 16384) (h : lex s = .ok toks) (ht : (sp (bl ++ cmtC) s 0 toks).length ≤ 16384) :
    Srt 0 toks ∧ ∃ toks', lex (sp (bl ++ cmtC) s 0 toks) = .ok toks' ∧ toks'.map strip = toks.map strip := by
  have hr := lex_rest hs
  rw [h] at hr
  obtain ⟨more, h1, h2, _, h4⟩ := spread_sim bl hbl _ s rfl 0 [] toks hr
  simp only [List.nil_append] at h1
  subst h1
  exact ⟨h2, h4 0 [] _ rfl (lex_rest ht)⟩
end Go.Proofs.YtkieeaajhomdoaaDoor
