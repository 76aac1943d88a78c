import Derived.Test.YtkieeaajhomdoaaDoorSame
set_option linter.unusedVariables false
set_option linter.unusedSimpArgs false
namespace Go.Proofs.YtkieeaajhomdoaaDoor
open Go.RowKit Go.Maps Go.MapKept
theorem sameL_refl (p : Bool) : ∀ l : List Tok, sameL p l l = true
  | [] => rfl
  | x :: l => by simp only [sameL, sameL_refl p l, Bool.and_true]; simp [sameT]
theorem lexF_len : ∀ (f : Nat) (l : List UInt8) (k : Nat) (acc t : List Tok), acc.length ≤ 6000 → lexF f l k acc = .ok t → t.length ≤ 6000
  | 0, l, k, acc, t, h, e => by cases e
  | f + 1, [], k, acc, t, h, e => by simp only [lexF, Except.ok.injEq] at e; subst e; exact h
  | f + 1, c :: r, k, acc, t, h, e => by
    unfold lexF at e
    simp only at e
    split at e
    · exact lexF_len f _ _ _ _ h e
    · split at e
      · split at e
        · cases e
        · exact lexF_len f _ _ _ _ h e
      · split at e
        · cases e
        · split at e
          · cases e
          · rename_i h6
            exact lexF_len f _ _ _ _ (by simp only [List.length_append, List.length_cons, List.length_nil]; omega) e
theorem lex_len {l : List UInt8} {t : List Tok} (h : lex l = .ok t) : t.length ≤ 6000 := by
  unfold lex at h
  split at h
  · cases h
  · exact lexF_len _ _ _ _ _ (by simp) h
def lexOut : Except (Int × Int) (List Tok) → List Tok × Int × Int
  | .ok l => (l, 0, 0)
  | .error (a, c) => ([], a, c)
theorem AtLex.out {s : List UInt8} {r : Except (Int × Int) (List Tok)} {w w' : World} {e : Ending} (hr : lex s = r) (h : AtLex r w e w') :
    ∃ A C, e = .returned (.tuple #[.slice A (lexOut r).1.length C, .int .i64 (lexOut r).2.1, .int .i64 (lexOut r).2.2]) ∧ ReadsToks w' (.slice A (lexOut r).1.length C) (lexOut r).1 ∧ Below w.heap.size w w' := by
  obtain ⟨hB, h⟩ := h
  cases r with
  | ok l =>
    obtain ⟨v, base, rfl, h1, h2⟩ := h
    have hl := lex_len hr
    have hrd := own_reads h2 (by omega)
    obtain ⟨A, C, hv, h5⟩ := hrd
    subst hv
    exact ⟨A, C, rfl, ⟨A, C, rfl, h5⟩, hB⟩
  | error ac =>
    obtain ⟨a, c⟩ := ac
    exact ⟨none, 0, h, ⟨none, 0, rfl, by simp [lexOut], fun h => by simp [lexOut] at h⟩, hB⟩
def wake1 : List UInt8 := [120, 58, 61, 48, 70, 70, 72, 59, 40, 42, 32, 97, 32, 40, 42, 32, 98, 32, 42, 41, 32, 42, 41]
def wake2 : List UInt8 := [97, 32, 49, 46, 53]
def wakeToks : List Tok := [⟨1, [120], 0, 0⟩, ⟨6, [58, 61], 0, 1⟩, ⟨3, [], 255, 3⟩, ⟨6, [59], 0, 7⟩]
theorem lex_wake1 : lex wake1 = .ok wakeToks := by kernel_rfl
theorem lex_wake2 : lex wake2 = .error (2, 90) := by kernel_rfl
set_option maxRecDepth 100000 in
set_option maxHeartbeats 1600000 in
theorem wakes9_any (w : World) (hv : Vars w) : Calls Tryd.prog 10 #[] w (Gives (.bool true) w) := by
  have HV := Lib.hid hv
  clear hv
  go_enter Tryd.func10, Tryd.ntmps10
  go_wp2_with fail
  refine (Lex_any ⟨wake1.toArray⟩ _ HV.out (by decide) _ lex_wake1).mono ?_
  rintro e w1 h1
  obtain ⟨A, C, rfl, hr, hB⟩ := h1.out lex_wake1
  obtain ⟨A', C', e, hl, hc⟩ := hr
  simp only [Value.slice.injEq] at e
  obtain ⟨rfl, _, rfl⟩ := e
  obtain ⟨b, o, hA, hd⟩ := hc (by decide)
  subst hA
  obtain ⟨_, _, h255, _⟩ := hd 2 (by decide)
  have H255 : Hid (w1.cell? ⟨b, o + 2 * 4 + 2, none⟩ = some (.int .i64 255)) := h255
  clear hd hc h255 hl h1
  rw [show (lexOut (.ok wakeToks)).1.length = 4 from rfl, show (lexOut (.ok wakeToks)).2.1 = 0 from rfl, show (lexOut (.ok wakeToks)).2.2 = 0 from rfl]
  go_wp2_with fail
  refine (Lex_any ⟨wake2.toArray⟩ _ (HV.out.stays hB) (by decide) _ lex_wake2).mono ?_
  rintro e w2 h2
  obtain ⟨hB2, h3⟩ := h2
  simp only at h3
  subst h3
  have h255 : w2.cell? ⟨b, o + 8 + 2, none⟩ = some (.int .i64 255) := cell_keep hB2 H255.out
  go_wp2_with fail
  go_ret
  exact ⟨rfl, bthen hB hB2⟩
set_option maxRecDepth 100000 in
set_option maxHeartbeats 1600000 in
theorem TokenReads_any (s : ByteArray) (w : World) (hv : Vars w) (hs : s.size ≤ 140737488351232) : Calls Tryd.prog 3 #[.string s] w (Gives (.bool true) w) := by
  have HV := Lib.hid hv
  clear hv
  by_cases hlong : (20000 : Int) < s.size
  · go_enter Tryd.func3, Tryd.ntmps3
    go_wp2_with fail
    refine (wakes9_any _ HV.out).mono ?_
    rintro e w1 ⟨rfl, hB⟩
    go_wp2_with fail
    go_ret
    exact ⟨rfl, hB⟩
  · obtain ⟨r, hr⟩ : ∃ r, lex s.data.toList = r := ⟨_, rfl⟩
    have HR := Lib.hid hr
    clear hr
    obtain ⟨toks, a1, c1, ho⟩ : ∃ toks a1 c1, lexOut r = (toks, a1, c1) := ⟨_, _, _, rfl⟩
    go_enter Tryd.func3, Tryd.ntmps3
    go_wp2_with fail
    refine (Lex_any s _ HV.out hs r HR.out).mono ?_
    intro e w1 h1
    obtain ⟨A, C, rfl, hr1, hB1⟩ := h1.out HR.out
    rw [ho] at hr1
    rw [ho]
    have HR1 := Lib.hid hr1
    have HO := Lib.hid ho
    clear h1 hr1 ho
    go_wp2_with fail
    refine (r_Lex s _ hs r HR.out).mono ?_
    intro e w2 h2
    obtain ⟨A2, C2, rfl, hr2, hB2⟩ := h2.out HR.out
    rw [HO.out] at hr2
    rw [HO.out]
    have HR2 := Lib.hid hr2
    clear h2 hr2
    go_wp2_with fail
    refine (r_Same _ _ toks toks true _ (HR1.out.stays hB2) HR2.out).mono ?_
    rw [sameL_refl]
    rintro e w3 ⟨rfl, hB3⟩
    go_wp2_with fail
    refine (wakes9_any _ (HV.out.stays (bthen (bthen hB1 hB2) hB3))).mono ?_
    rintro e w4 ⟨rfl, hB4⟩
    go_wp2_with fail
    go_ret
    exact ⟨rfl, bthen (bthen (bthen hB1 hB2) hB3) hB4⟩
end Go.Proofs.YtkieeaajhomdoaaDoor
