import Derived.Test.YtjjgjadfnongfaaGreatDoorAEi
set_option linter.unusedVariables false
set_option linter.unusedSimpArgs false
namespace Go.Proofs.YtjjgjadfnongfaaGreatDoor
open Go.RowKit
/-! Lines as words: what is said. -/
def wordsG : List UInt8 → List UInt8 → List Int → List Int × Int × Int
  | [], cur, out => if cur = [] then (out, 0, 0) else ([], out.length, 60)
  | c :: r, cur, out => if c = 10 then (if (anyS cur).2 = 0 then wordsG r [] (out ++ [(anyS cur).1]) else ([], out.length, 60)) else wordsG r (cur ++ [c]) out
def wordsS (s : List UInt8) : List Int × Int × Int := wordsG s [] []
theorem wordsG_skip (p q cur : List UInt8) (out : List Int) (h : (10 : UInt8) ∉ p) : wordsG (p ++ q) cur out = wordsG q (cur ++ p) out := by
  induction p generalizing cur with
  | nil => simp
  | cons c p ih =>
    simp only [List.mem_cons, not_or] at h
    rw [List.cons_append, wordsG, if_neg (fun e => h.1 e.symm), ih _ h.2, List.append_assoc]; rfl
theorem wordsG_good {p r : List UInt8} {out : List Int} (h : (10 : UInt8) ∉ p) (hg : (anyS p).2 = 0) : wordsG (p ++ 10 :: r) [] out = wordsG r [] (out ++ [(anyS p).1]) := by
  rw [wordsG_skip _ _ _ _ h, List.nil_append, wordsG, if_pos rfl, if_pos hg]
theorem wordsG_bad {p r : List UInt8} {out : List Int} (h : (10 : UInt8) ∉ p) (hg : (anyS p).2 ≠ 0) : wordsG (p ++ 10 :: r) [] out = ([], (out.length : Int), 60) := by
  rw [wordsG_skip _ _ _ _ h, List.nil_append, wordsG, if_pos rfl, if_neg hg]
theorem wordsG_open {s : List UInt8} {out : List Int} (h : (10 : UInt8) ∉ s) (h0 : s ≠ []) : wordsG s [] out = ([], (out.length : Int), 60) := by
  have := wordsG_skip s [] [] out h
  rw [List.append_nil, List.nil_append] at this
  rw [this, wordsG, if_neg h0]
theorem first_ten (s : List UInt8) (h : (10 : UInt8) ∈ s) : ∃ p r, s = p ++ 10 :: r ∧ (10 : UInt8) ∉ p := by
  induction s with
  | nil => simp at h
  | cons c s ih =>
    by_cases hc : c = 10
    · exact ⟨[], s, by rw [hc]; rfl, by simp⟩
    · obtain ⟨p, r, e, hp⟩ := ih (by simpa [Ne.symm hc] using h)
      exact ⟨c :: p, r, by rw [e]; rfl, by simp [Ne.symm hc, hp]⟩
theorem cut_ten {p r : List UInt8} (h : (10 : UInt8) ∉ p) : Lib.cut (p ++ 10 :: r) [10] = (p, r, true) := cut_at p r [] 10 h
theorem any_range (s : List UInt8) : 0 ≤ (anyS s).1 ∧ (anyS s).1 ≤ 4294967295 ∧ ((anyS s).2 = 0 ∨ (anyS s).2 = 60) := by
  unfold anyS
  split
  · split
    · rename_i v hv
      have : v ≤ 4294967295 := by
        unfold hashS at hv
        split at hv
        · rename_i u hu
          split at hv
          · have : u = v := by simpa using hv
            subst this
            unfold puS at hu
            split at hu
            · cases hu
            · have key : ∀ (l : List UInt8) (acc u : Nat), acc ≤ 4294967295 → puV l acc = some u → u ≤ 4294967295 := by
                intro l
                induction l with
                | nil => intro acc u ha h; simp only [puV, Option.some.injEq] at h; omega
                | cons c l ih =>
                  intro acc u ha h
                  simp only [puV] at h
                  split at h
                  · cases h
                  · split at h
                    · cases h
                    · exact ih _ _ (by omega) h
              exact key _ _ _ (by omega) hu
          · cases hv
        · cases hv
      refine ⟨?_, ?_, .inl rfl⟩
      · show (0 : Int) ≤ (v : Int); omega
      · show (v : Int) ≤ 4294967295; omega
    · simp
  · unfold wordOf
    split
    · simp
    · rename_i _ x _
      split
      · obtain ⟨a, b⟩ := encW_cases (x := x) (a := (encW x).1) (b := (encW x).2) rfl
        exact ⟨a, b.1, .inl rfl⟩
      · simp
theorem NamerAt.stays {base P : Nat} {vn vs : Value} {Bs Bn : Nat} {T : List (Shp × List UInt8)} {w w' : World} (h : NamerAt base P vn vs Bs Bn T w) (hb : Below w.heap.size w w') : NamerAt base P vn vs Bs Bn T w' :=
  ⟨b_below h.str hb, own_below h.names hb, own_below h.shapes hb, b_below h.byS hb, b_below h.byN hb, h.ne, h.lo⟩
theorem namer_stays {w w' : World} {v : Value} (h : IsNamer w v) (hb : Below w.heap.size w w') : IsNamer w' v := by
  obtain ⟨base, P, vn, vs, Bs, Bn, e, h⟩ := h
  exact ⟨base, P, vn, vs, Bs, Bn, e, h.stays hb⟩
theorem info_u32 : (Tryz.prog.info? 23).map (fun i => (i.zero, i.size, i.bytes)) = some (some (.int .u32 0), 1, 4) := by kernel_rfl
def wordsV (l : List Int) : List Value := l.map fun x => Value.int .u32 x
theorem own_reads32 {w : World} {base : Nat} {A : Option Addr} {C : Nat} {l : List Int} (h : w.ownsRow base 23 1 (.slice A l.length C) l.length (wordsV l)) : ReadsWs w (.slice A l.length C) l := by
  refine ⟨A, C, rfl, fun h0 => ?_⟩
  obtain ⟨g, rfl, -, -, hc⟩ := own_some h h0
  exact ⟨g, 0, rfl, fun i hi => by rw [Nat.zero_add]; exact hc i _ (by simp [wordsV, List.getElem?_eq_getElem hi])⟩
end Go.Proofs.YtjjgjadfnongfaaGreatDoor
