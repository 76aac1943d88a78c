import Derived.Test.YtkieeaajhomdoaaDoorRef5
set_option linter.unusedVariables false
set_option linter.unusedSimpArgs false
namespace Go.Proofs.YtkieeaajhomdoaaDoor
open Go.RowKit Go.Maps Go.MapKept
def sameT (p : Bool) (x y : Tok) : Bool := x.kind == y.kind && x.text == y.text && x.n == y.n && (!p || x.at_ == y.at_)
def sameL (p : Bool) : List Tok → List Tok → Bool
  | [], [] => true
  | x :: a, y :: b => sameT p x y && sameL p a b
  | _, _ => false
theorem sameL_len {p : Bool} : ∀ {a b : List Tok}, a.length ≠ b.length → sameL p a b = false
  | [], [], h => by simp at h
  | [], _ :: _, _ => rfl
  | _ :: _, [], _ => rfl
  | x :: a, y :: b, h => by simp only [sameL, sameL_len (p := p) (a := a) (b := b) (by simpa using h), Bool.and_false]
theorem sameL_at {p : Bool} : ∀ {a b : List Tok} (k : Nat) (ha : k < a.length) (hb : k < b.length), sameT p a[k] b[k] = false → sameL p a b = false
  | x :: a, y :: b, 0, _, _, h => by simp only [List.getElem_cons_zero] at h; simp [sameL, h]
  | x :: a, y :: b, k + 1, ha, hb, h => by
    simp only [List.getElem_cons_succ] at h
    simp only [sameL, sameL_at (p := p) k (by simpa using ha) (by simpa using hb) h, Bool.and_false]
theorem sameL_all {p : Bool} : ∀ {a b : List Tok}, a.length = b.length → (∀ k, (ha : k < a.length) → (hb : k < b.length) → sameT p a[k] b[k] = true) → sameL p a b = true
  | [], [], _, _ => rfl
  | [], _ :: _, h, _ => by simp at h
  | _ :: _, [], h, _ => by simp at h
  | x :: a, y :: b, h, hs => by
    have h0 := hs 0 (by simp) (by simp)
    simp only [List.getElem_cons_zero] at h0
    simp only [sameL, h0, Bool.true_and]
    exact sameL_all (by simpa using h) (fun k ha hb => by have := hs (k + 1) (by simpa using ha) (by simpa using hb); simpa using this)
theorem grow2 {w wr : World} (h : Below w.heap.size w wr) (x y : Obj) (z : Nat) : Below w.heap.size w (((wr.alloc x).alloc y).drewN z) := ((h.alloc h.size _).alloc (by have := h.size; simp; omega) _).trans (bdrew _ _ _)
theorem cell_keep {w w1 : World} (h : Below w.heap.size w w1) {a : Addr} {v : Value} (hc : w.cell? a = some v) : w1.cell? a = some v := (h.cell (World.block_lt_of_cell? w a hc)).trans hc
/-- A slice of tokens that is read. -/
def ReadsToks (w : World) (v : Value) (l : List Tok) : Prop := ∃ A c, v = .slice A l.length c ∧ l.length ≤ 3518437208780 ∧ (0 < l.length → ∃ b o, A = some ⟨b, o, none⟩ ∧ ∀ i, (h : i < l.length) →
  w.cell? ⟨b, o + i * 4, none⟩ = some (.int .i64 l[i].kind) ∧ w.cell? ⟨b, o + i * 4 + 1, none⟩ = some (.string ⟨l[i].text.toArray⟩) ∧ w.cell? ⟨b, o + i * 4 + 2, none⟩ = some (.int .i64 l[i].n) ∧ w.cell? ⟨b, o + i * 4 + 3, none⟩ = some (.int .i64 l[i].at_))
theorem ReadsToks.stays {w w' : World} {v : Value} {l : List Tok} (h : ReadsToks w v l) (hb : Below w.heap.size w w') : ReadsToks w' v l := by
  obtain ⟨A, c, rfl, hl, h⟩ := h
  refine ⟨A, c, rfl, hl, fun h0 => ?_⟩
  obtain ⟨b, o, rfl, hc⟩ := h h0
  refine ⟨b, o, rfl, fun i hi => ?_⟩
  obtain ⟨h1, h2, h3, h4⟩ := hc i hi
  exact ⟨(hb.cell (World.block_lt_of_cell? w _ h1)).trans h1, (hb.cell (World.block_lt_of_cell? w _ h2)).trans h2, (hb.cell (World.block_lt_of_cell? w _ h3)).trans h3, (hb.cell (World.block_lt_of_cell? w _ h4)).trans h4⟩
theorem toksCells_at : ∀ (l : List Tok) (i : Nat) (h : i < l.length) (j : Nat), j < 4 → (toksCells l)[i * 4 + j]? = (tokCells l[i])[j]?
  | x :: l, 0, _, j, hj => by
    show (tokCells x ++ toksCells l)[0 * 4 + j]? = _
    rw [List.getElem?_append_left (by simp [tokCells]; omega)]
    simp
  | x :: l, i + 1, h, j, hj => by
    show (tokCells x ++ toksCells l)[(i + 1) * 4 + j]? = _
    rw [List.getElem?_append_right (by simp [tokCells]; omega)]
    have := toksCells_at l i (by simpa using h) j hj
    rw [show (i + 1) * 4 + j - (tokCells x).length = i * 4 + j from by simp [tokCells]; omega]
    simpa using this
theorem own_reads {w : World} {base : Nat} {v : Value} {l : List Tok} (h : w.ownsRow base 34 4 v l.length (toksCells l)) (hl : l.length ≤ 3518437208780) : ReadsToks w v l := by
  obtain ⟨h1, ⟨rfl, h2⟩ | ⟨g, cap, cur, rfl, hg, hh, hn, hc, hs, ht⟩⟩ := h
  · exact ⟨none, 0, by rw [h2], hl, fun h => by omega⟩
  · refine ⟨_, cap, rfl, hl, fun _ => ⟨g, 0, rfl, fun i hi => ?_⟩⟩
    have key : ∀ j, j < 4 → w.cell? ⟨g, 0 + i * 4 + j, none⟩ = (tokCells l[i])[j]? := fun j hj => by
      rw [cell_of_block hh, ← toksCells_at l i hi j hj, ← ht, Nat.zero_add, List.getElem?_take_of_lt (by omega)]
      simp
    exact ⟨key 0 (by omega), key 1 (by omega), key 2 (by omega), key 3 (by omega)⟩
set_option maxRecDepth 100000 in
set_option maxHeartbeats 4000000 in
theorem r_Same (u v : Value) (a b : List Tok) (p : Bool) (w : World) (hu : ReadsToks w u a) (hv : ReadsToks w v b) :
    Calls Tryd.prog 13 #[u, v, .bool p] w (Gives (.bool (sameL p a b)) w) := by
  obtain ⟨A, ca, rfl, hla, hra⟩ := hu
  obtain ⟨B, cb, rfl, hlb, hrb⟩ := hv
  obtain ⟨r, hr⟩ : ∃ r, sameL p a b = r := ⟨_, rfl⟩
  rw [hr]
  have HR := Lib.hid hr
  have HA := Lib.hid hra
  have HB := Lib.hid hrb
  clear hr hra hrb
  by_cases hne : a.length = b.length
  · have hnb : ((a.length : Int) != (b.length : Int)) = false := by rw [bne_eq_false_iff_eq]; omega
    have HNE := Lib.hid hne
    have hlb2 : b.length ≤ a.length := by omega
    have hlb3 : a.length ≤ b.length := by omega
    clear hne
    go_enter Tryd.func13, Tryd.ntmps13
    go_wp2_with fail
    go_loopw [7] (fun i wr => ∃ k : Nat, k ≤ a.length ∧ i = .int .i64 k ∧ Hid (∀ j, (ha : j < a.length) → (hb : j < b.length) → j < k → sameT p a[j] b[j] = true) ∧ Below w.heap.size w wr) (fun i _ => a.length - (intOf i).toNat)
    case atStart => exact ⟨0, by omega, rfl, fun j _ _ h => by omega, Below.refl _ _⟩
    case round =>
      obtain ⟨k, hk, rfl, HS, hB⟩ := hrel
      by_cases hlt : k < a.length
      · have hki : (k : Int) < a.length := by omega
        have hkb : k < b.length := by omega
        have hkbi : (k : Int) < b.length := by omega
        obtain ⟨ba, oa, rfl, hca⟩ := HA.out (by omega)
        obtain ⟨bb, ob, rfl, hcb⟩ := HB.out (by omega)
        obtain ⟨a0, a1, a2, a3⟩ := hca k hlt
        obtain ⟨b0, b1, b2, b3⟩ := hcb k hkb
        obtain ⟨⟨xk, xt, xn, xa⟩, hx⟩ : ∃ x, a[k] = x := ⟨_, rfl⟩
        obtain ⟨⟨yk, yt, yn, ya⟩, hy⟩ : ∃ y, b[k] = y := ⟨_, rfl⟩
        rw [hx] at a0 a1 a2 a3
        rw [hy] at b0 b1 b2 b3
        have a0 := cell_keep hB a0
        have a1 := cell_keep hB a1
        have a2 := cell_keep hB a2
        have a3 := cell_keep hB a3
        have b0 := cell_keep hB b0
        have b1 := cell_keep hB b1
        have b2 := cell_keep hB b2
        have b3 := cell_keep hB b3
        have la := World.block_lt_of_cell? wr _ a0
        have lb := World.block_lt_of_cell? wr _ b0
        simp only at a0 a1 a2 a3 b0 b1 b2 b3 la lb
        have HX := Lib.hid hx
        have HY := Lib.hid hy
        clear hx hy hca hcb
        have hno : sameT p a[k] b[k] = false → r = false := fun h => by rw [← HR.out]; exact sameL_at k hlt hkb h
        have nextS : sameT p a[k] b[k] = true → Hid (∀ j, (ha : j < a.length) → (hb : j < b.length) → j < k + 1 → sameT p a[j] b[j] = true) := fun h j h1 h2 h3 => by
          by_cases e : j = k
          · subst e; exact h
          · exact HS.out j h1 h2 (by omega)
        have HNO := Lib.hid hno
        have NX := Lib.hid nextS
        clear hno nextS
        by_cases c1 : xk = yk
        · subst c1
          by_cases c2 : xt = yt
          · subst c2
            by_cases c3 : xn = yn
            · subst c3
              cases p with
              | false =>
                have HN := NX.out (by rw [HX.out, HY.out]; simp [sameT])
                go_wp2_with fail
                go_region
                all_goals go_wp2_with fail
                all_goals go_roundw
                all_goals first | exact ⟨k + 1, by omega, by go_num, HN, grow2 hB _ _ _⟩ | (simp [intOf]; omega)
              | true =>
                by_cases c4 : xa = ya
                · subst c4
                  have HN := NX.out (by rw [HX.out, HY.out]; simp [sameT])
                  go_wp2_with fail
                  go_region
                  all_goals go_wp2_with fail
                  all_goals go_roundw
                  all_goals first | exact ⟨k + 1, by omega, by go_num, HN, grow2 hB _ _ _⟩ | (simp [intOf]; omega)
                · have FIN := Lib.hid (HNO.out (by rw [HX.out, HY.out]; simp [sameT, c4]))
                  have c4b : (xa != ya) = true := by rw [bne_iff_ne]; exact c4
                  clear c4
                  go_wp2_with fail
                  go_region
                  all_goals go_wp2_with fail
                  all_goals go_ret
                  all_goals exact ⟨by rw [FIN.out]; rfl, grow2 hB _ _ _⟩
            · have FIN := Lib.hid (HNO.out (by rw [HX.out, HY.out]; simp [sameT, c3]))
              have c3b : (xn != yn) = true := by rw [bne_iff_ne]; exact c3
              clear c3
              go_wp2_with fail
              go_region
              all_goals go_wp2_with fail
              all_goals go_ret
              all_goals exact ⟨by rw [FIN.out]; rfl, grow2 hB _ _ _⟩
          · have FIN := Lib.hid (HNO.out (by rw [HX.out, HY.out]; simp [sameT, c2]))
            have c2b : (xt != yt) = true := by rw [bne_iff_ne]; exact c2
            have c2c : (xt == yt) = false := by rw [beq_eq_false_iff_ne]; exact c2
            clear c2
            go_wp2_with fail
            go_region
            all_goals go_wp2_with fail
            all_goals go_ret
            all_goals exact ⟨by rw [FIN.out]; rfl, grow2 hB _ _ _⟩
        · have FIN := Lib.hid (HNO.out (by rw [HX.out, HY.out]; simp [sameT, c1]))
          have c1b : (xk != yk) = true := by rw [bne_iff_ne]; exact c1
          clear c1
          go_wp2_with fail
          go_region
          all_goals go_wp2_with fail
          all_goals go_ret
          all_goals exact ⟨by rw [FIN.out]; rfl, grow2 hB _ _ _⟩
      · have hki : ¬ (k : Int) < a.length := by omega
        have FIN : Hid (r = true) := by show _ = _; rw [← HR.out]; exact sameL_all HNE.out (fun j h1 h2 => HS.out j h1 h2 (by omega))
        go_wp2_with fail
        go_ret
        exact ⟨by rw [FIN.out]; rfl, hB⟩
  · have hnb : ((a.length : Int) != (b.length : Int)) = true := by rw [bne_iff_ne]; omega
    have FIN : Hid (r = false) := by show _ = _; rw [← HR.out]; exact sameL_len hne
    clear hne
    go_enter Tryd.func13, Tryd.ntmps13
    go_wp2_with fail
    go_ret
    exact ⟨by rw [FIN.out]; rfl, Below.refl _ _⟩
end Go.Proofs.YtkieeaajhomdoaaDoor
