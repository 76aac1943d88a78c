import Derived.Test.YtkieeaajhomdoaaDoorReads
import Derived.Test.YtkieeaajhomdoaaDoorJoinP
import Derived.Maps.AppendAt
import Derived.Laws.IdiomStrings
set_option linter.unusedVariables false
set_option linter.unusedSimpArgs false
namespace Go.Proofs.YtkieeaajhomdoaaDoor
open Go.RowKit Go.Maps Go.MapKept
/-- Blocks outside lo..hi are as they were. -/
structure Spares (lo hi : Nat) (w w' : World) : Prop where
  os : w'.os = w.os
  tape : w'.tape = w.tape
  output : w'.output = w.output
  size : w.heap.size ≤ w'.heap.size
  block : ∀ k, k < w.heap.size → ¬ (lo ≤ k ∧ k < hi) → w'.heap[k]? = w.heap[k]?
theorem Spares.refl (lo hi : Nat) (w : World) : Spares lo hi w w := ⟨rfl, rfl, rfl, Nat.le_refl _, fun _ _ _ => rfl⟩
theorem Spares.trans {lo hi : Nat} {a b c : World} (h : Spares lo hi a b) (k : Spares lo hi b c) : Spares lo hi a c :=
  ⟨k.os.trans h.os, k.tape.trans h.tape, k.output.trans h.output, Nat.le_trans h.size k.size, fun i hi hn => (k.block i (Nat.lt_of_lt_of_le hi h.size) hn).trans (h.block i hi hn)⟩
theorem Spares.of_below {lo hi : Nat} {a b : World} (h : Below a.heap.size a b) : Spares lo hi a b := ⟨h.os, h.tape, h.output, h.size, fun i hi _ => h.block i hi⟩
theorem Spares.below {lo hi B : Nat} {a b c : World} (h : Below B a b) (k : Spares lo hi b c) (h1 : B ≤ lo) (h2 : B ≤ b.heap.size) : Below B a c :=
  ⟨k.os.trans h.os, k.tape.trans h.tape, k.output.trans h.output, Nat.le_trans h.size k.size, fun i hi => (k.block i (by omega) (by omega)).trans (h.block i hi)⟩
theorem Spares.own {lo hi : Nat} {w w' : World} {base : Nat} {e : TypeId} {size n : Nat} {v : Value} {xs : List Value} (k : Spares lo hi w w') (h : w.ownsRow base e size v n xs) (hb : hi ≤ base) : w'.ownsRow base e size v n xs := by
  refine ⟨h.1, ?_⟩
  rcases h.2 with h | ⟨g, cap, cur, h1, h2, h3, h4⟩
  · exact .inl h
  · refine .inr ⟨g, cap, cur, h1, h2, ?_, h4⟩
    have hg : g < w.heap.size := by
      rcases Nat.lt_or_ge g w.heap.size with h | h
      · exact h
      · rw [Array.getElem?_eq_none h] at h3; cases h3
    rw [k.block g hg (by omega)]
    exact h3
theorem Spares.grown {lo hi : Nat} {a b c : World} {row : Option Nat} (h : Spares lo hi a b) (hg : b.grownBy c row) (hr : ∀ k, row = some k → (lo ≤ k ∧ k < hi) ∨ a.heap.size ≤ k) : Spares lo hi a c :=
  ⟨hg.os.trans h.os, hg.tape.trans h.tape, hg.output.trans h.output, Nat.le_trans h.size hg.size, fun i hi hn => (hg.block i (Nat.lt_of_lt_of_le hi h.size) (fun e => by
    rcases hr i e.symm with h | h
    · exact hn h
    · omega)).trans (h.block i hi hn)⟩
theorem own_drop {w : World} {base base' : Nat} {e : TypeId} {size n : Nat} {v : Value} {xs : List Value} (h : w.ownsRow base e size v n xs) (hb : base' ≤ base) : w.ownsRow base' e size v n xs := by
  refine ⟨h.1, ?_⟩
  rcases h.2 with h | ⟨g, cap, cur, h1, h2, h3⟩
  · exact .inl h
  · exact .inr ⟨g, cap, cur, h1, by omega, h3⟩
theorem own_lt {w : World} {base : Nat} {e : TypeId} {size n : Nat} {v : Value} {xs : List Value} (h : w.ownsRow base e size v n xs) (k : Nat) (hk : v.ownBlock = some k) : k < w.heap.size := by
  rcases h.2 with ⟨rfl, _⟩ | ⟨g, cap, cur, rfl, hb, h3, _⟩
  · simp [Value.ownBlock] at hk
  · have : g = k := by simpa [Value.ownBlock] using hk
    subst this
    rcases Nat.lt_or_ge g w.heap.size with h | h
    · exact h
    · rw [Array.getElem?_eq_none h] at h3; cases h3
theorem toksCells_len (l : List Tok) : (toksCells l).length = l.length * 4 := by
  induction l with
  | nil => rfl
  | cons x l ih => rw [show toksCells (x :: l) = tokCells x ++ toksCells l from rfl, List.length_append, ih]; simp [tokCells]; omega
theorem cat_list (s t : ByteArray) : (s ++ ⟨#[10]⟩ ++ t).data.toList = s.data.toList ++ 10 :: t.data.toList := by simp [ByteArray.data_append]
set_option maxRecDepth 100000 in
set_option maxHeartbeats 4000000 in
theorem TokenJoins_any (s t : ByteArray) (w : World) (hv : Vars w) (hss : s.size ≤ 140737488351232) (hts : t.size ≤ 140737488351232) : Calls Tryd.prog 6 #[.string s, .string t] w (Gives (.bool true) w) := by
  have HV := Lib.hid hv
  clear hv
  by_cases hlong : (4000 : Int) < (s.size : Int) + t.size
  · go_enter Tryd.func6, Tryd.ntmps6
    go_wp2_with fail
    refine (wakes9_any _ HV.out).mono ?_
    rintro e w1 ⟨rfl, hB⟩
    go_wp2_with fail
    go_ret
    exact ⟨rfl, hB⟩
  · have hlong2 : (s.size : Int) + t.size ≤ 4000 := by omega
    have hsi : (s.size : Int) ≤ 4000 := by omega
    have hti : (t.size : Int) ≤ 4000 := by omega
    have hn1 : ¬ (9223372036854775807 < s.size + 1) := by omega
    have hn2 : ¬ (9223372036854775807 < s.size + 1 + t.size) := by omega
    obtain ⟨S, hS⟩ : ∃ S : ByteArray, s ++ (⟨#[10]⟩ : ByteArray) ++ t = S := ⟨_, rfl⟩
    have hSs : S.size ≤ 140737488351232 := by rw [← hS, ByteArray.size_append, ByteArray.size_append]; show s.size + 1 + t.size ≤ _; omega
    have hSl : S.data.toList = s.data.toList ++ 10 :: t.data.toList := by rw [← hS, cat_list]
    have hj := lex_join s.data.toList t.data.toList (by rw [len_list, len_list]; omega)
    rw [← hSl, len_list, len_list] at hj
    have HSL := Lib.hid hSl
    have HS := Lib.hid hS
    clear hlong hSl hS
    rcases hj with ⟨p, e, h1, h2⟩ | ⟨l, h1, hll, ⟨p, e, h2, h3⟩ | ⟨k, h2, hkl, h3⟩⟩
    · have he := lex_err h1
      have hq1 : ((e != 0) : Bool) = true := by rw [bne_iff_ne]; omega
      have H1 := Lib.hid h1
      have H2 := Lib.hid h2
      clear h1 h2 he
      obtain ⟨r2, hr2⟩ : ∃ r, lex t.data.toList = r := ⟨_, rfl⟩
      obtain ⟨r3, hr3⟩ : ∃ r, lex S.data.toList = r := ⟨_, rfl⟩
      have HR2 := Lib.hid hr2
      have HR3 := Lib.hid hr3
      clear hr2 hr3
      obtain ⟨toks2, a2, c2, ho2⟩ : ∃ toks a1 c1, lexOut r2 = (toks, a1, c1) := ⟨_, _, _, rfl⟩
      have HO2 := Lib.hid ho2
      clear ho2
      go_enter Tryd.func6, Tryd.ntmps6
      go_wp2_with fail
      refine (Lex_any s _ HV.out hss _ H1.out).mono ?_
      rintro e1 w1 ⟨hB1, h1⟩
      simp only at h1
      subst h1
      go_wp2_with fail
      refine (Lex_any t _ (HV.out.stays hB1) hts r2 HR2.out).mono ?_
      intro e w2 h2
      obtain ⟨A2, C2, rfl, _, hB2⟩ := h2.out HR2.out
      rw [HO2.out]
      clear h2
      go_wp2_with fail
      rw [HS.out]
      refine (Lex_any S _ (HV.out.stays (bthen hB1 hB2)) hSs r3 HR3.out).mono ?_
      rintro e3 w3 ⟨hB3, h3⟩
      cases r3 with
      | error pe =>
        obtain ⟨p3, e3'⟩ := pe
        have he3 := lex_err HR3.out
        have hq3 : ((e3' != 0) : Bool) = true := by rw [bne_iff_ne]; omega
        clear he3
        simp only at h3
        subst h3
        go_wp2_with fail
        refine (wakes9_any _ (HV.out.stays (bthen (bthen hB1 hB2) hB3))).mono ?_
        rintro e w4 ⟨rfl, hB4⟩
        go_wp2_with fail
        go_ret
        exact ⟨rfl, bthen (bthen (bthen hB1 hB2) hB3) hB4⟩
      | ok l3 =>
        have he : e = 90 := by
          rcases H2.out with h | h
          · exact h
          · rw [HR3.out, H1.out] at h; cases h
        subst he
        obtain ⟨v3, base3, rfl, _, _⟩ := h3
        go_wp2_with fail
        refine (wakes9_any _ (HV.out.stays (bthen (bthen hB1 hB2) hB3))).mono ?_
        rintro e w4 ⟨rfl, hB4⟩
        go_wp2_with fail
        go_ret
        exact ⟨rfl, bthen (bthen (bthen hB1 hB2) hB3) hB4⟩
    · have he := lex_err h2
      rw [len_list] at he
      have hq1 : ((e != 0) : Bool) = true := by rw [bne_iff_ne]; omega
      have hp0 : 0 ≤ p := he.2.1
      have hp1 : p ≤ 4000 := by omega
      have hpe : p + ((s.size + 1 : Nat) : Int) = p + s.size + 1 := by omega
      rw [hpe] at h3
      have H1 := Lib.hid h1
      have H2 := Lib.hid h2
      have H3 := Lib.hid h3
      clear h1 h2 h3 he hpe
      go_enter Tryd.func6, Tryd.ntmps6
      go_wp2_with fail
      refine (Lex_any s _ HV.out hss _ H1.out).mono ?_
      rintro e1 w1 ⟨hB1, v1, base1, rfl, _, hrow1⟩
      have HROW1 := Lib.hid hrow1
      clear hrow1
      go_wp2_with fail
      refine (Lex_any t _ (HV.out.stays hB1) hts _ H2.out).mono ?_
      rintro e2 w2 ⟨hB2, h2⟩
      simp only at h2
      subst h2
      go_wp2_with fail
      rw [HS.out]
      refine (Lex_any S _ (HV.out.stays (bthen hB1 hB2)) hSs _ H3.out).mono ?_
      rintro e3 w3 ⟨hB3, h3⟩
      simp only at h3
      subst h3
      go_wp2_with fail
      refine (wakes9_any _ (HV.out.stays (bthen (bthen hB1 hB2) hB3))).mono ?_
      rintro e w4 ⟨rfl, hB4⟩
      go_wp2_with fail
      go_ret
      exact ⟨rfl, bthen (bthen (bthen hB1 hB2) hB3) hB4⟩
    · obtain ⟨i0, hi, hz0, hz1, hz2⟩ := info_parts info_tok
      have HI := Lib.hid hi
      have HZ0 := Lib.hid hz0
      have HZ1 := Lib.hid hz1
      have HZ2 := Lib.hid hz2
      clear hi hz0 hz1 hz2
      have hkm : (k.length : Int) ≤ 4000 := by omega
      have hlm : (l.length : Int) ≤ 4000 := by omega
      have hats : ∀ (i : Nat) (h : i < k.length), 0 ≤ k[i].at_ ∧ k[i].at_ ≤ 4000 := by
        intro i h
        have := lex_at h2 i h
        rw [len_list] at this
        omega
      have H1 := Lib.hid h1
      have H2 := Lib.hid h2
      have H3 := Lib.hid h3
      have HAT := Lib.hid hats
      clear h1 h2 h3 hats
      go_enter Tryd.func6, Tryd.ntmps6
      go_wp2_with fail
      refine (Lex_any s _ HV.out hss _ H1.out).mono ?_
      rintro e1 w1 ⟨hB1, v1, base1, rfl, hb1, hrow1⟩
      have HROW1 := Aside.mk hrow1
      obtain ⟨A1, C1, rfl⟩ : ∃ A C, v1 = .slice A l.length C := by
        obtain ⟨A, C, h, _⟩ := own_reads hrow1 (by omega)
        exact ⟨A, C, h⟩
      clear hrow1
      go_wp2_with fail
      refine (Lex_any t _ (HV.out.stays hB1) hts _ H2.out).mono ?_
      rintro e2 w2 ⟨hB2, v2, base2, rfl, hb2, hrow2⟩
      have HROW2 := Aside.mk hrow2
      obtain ⟨A2, C2, rfl, _, hrd2⟩ := own_reads hrow2 (by omega)
      have HRD2 := Lib.hid hrd2
      clear hrow2 hrd2
      go_wp2_with fail
      rw [HS.out]
      refine (Lex_any S _ (HV.out.stays (bthen hB1 hB2)) hSs _ H3.out).mono ?_
      rintro e3 w3 ⟨hB3, v3, base3, rfl, hb3, hrow3⟩
      have hl3 : (l ++ k.map (shift (s.size + 1))).length = l.length + k.length := by rw [List.length_append, List.length_map]
      have HROW3 := Aside.mk hrow3
      obtain ⟨A3, C3, rfl, _, _⟩ := own_reads hrow3 (by rw [hl3]; omega)
      rw [hl3] at HROW3
      rw [hl3]
      have HL3 := Lib.hid hl3
      clear hrow3 hl3
      have s12 := hB1.size
      have s23 := hB2.size
      have s34 := hB3.size
      have HOWN0 : Aside (w3.ownsRow w.heap.size 34 4 (.slice A1 l.length C1) l.length (toksCells l)) := ⟨own_drop (own_below (own_below HROW1.out hB2) hB3) hb1⟩
      have HLO0 : Hid (∀ b, (Value.slice A1 l.length C1).ownBlock = some b → (w.heap.size ≤ b ∧ b < w1.heap.size) ∨ w3.heap.size ≤ b) := fun b hb => .inl ⟨by have := own_base HROW1.out b hb; omega, own_lt HROW1.out b hb⟩
      have HROW2' : Aside (w3.ownsRow base2 34 4 (.slice A2 k.length C2) k.length (toksCells k)) := ⟨own_below HROW2.out hB3⟩
      go_wp2_with fail
      go_loopw [5, 14] (fun v i wr => ∃ (j : Nat) (A : Option Addr) (C : Nat), v = .slice A (l.length + j) C ∧ j ≤ k.length ∧ i = .int .i64 j ∧ Aside (wr.ownsRow w.heap.size 34 4 (.slice A (l.length + j) C) (l.length + j) (toksCells (l ++ (k.take j).map (shift (s.size + 1))))) ∧ Hid (∀ b, (Value.slice A (l.length + j) C).ownBlock = some b → (w.heap.size ≤ b ∧ b < w1.heap.size) ∨ w3.heap.size ≤ b) ∧ Spares w.heap.size w1.heap.size w3 wr) (fun _ i _ => k.length - (intOf i).toNat)
      case atStart => exact ⟨0, A1, C1, rfl, by omega, rfl, ⟨by simpa using HOWN0.out⟩, HLO0, Spares.refl _ _ _⟩
      case round =>
        obtain ⟨j, A, C, rfl, hj, rfl, hown, HLO, hSp⟩ := hrel
        by_cases hlt : j < k.length
        · have hjk : (j : Int) < k.length := by omega
          obtain ⟨b2, o2, rfl, hc2⟩ : ∃ b o, A2 = some ⟨b, o, none⟩ ∧ ∀ i, (h : i < k.length) → wr.cell? ⟨b, o + i * 4, none⟩ = some (.int .i64 k[i].kind) ∧ wr.cell? ⟨b, o + i * 4 + 1, none⟩ = some (.string ⟨k[i].text.toArray⟩) ∧ wr.cell? ⟨b, o + i * 4 + 2, none⟩ = some (.int .i64 k[i].n) ∧ wr.cell? ⟨b, o + i * 4 + 3, none⟩ = some (.int .i64 k[i].at_) := by
            obtain ⟨A', C', e, _, h⟩ := own_reads (hSp.own HROW2'.out hb2) (by omega)
            simp only [Value.slice.injEq] at e
            obtain ⟨rfl, _, rfl⟩ := e
            exact h (by omega)
          obtain ⟨c0, c1, c2, c3⟩ := hc2 j hlt
          have hat := HAT.out j hlt
          obtain ⟨⟨xk, xt, xn, xa⟩, hx⟩ : ∃ x, k[j] = x := ⟨_, rfl⟩
          rw [hx] at c0 c1 c2 c3 hat
          have la := World.block_lt_of_cell? wr _ c0
          simp only at c0 c1 c2 c3 la hat
          obtain ⟨hat0, hat1⟩ := hat
          have HX := Lib.hid hx
          clear hx hc2
          go_wp2_with (at_builtin; refine wpList_append_own_at _ rfl _ _ 23 rfl w.heap.size 34 i0 _ 4 40 Tryd.underlying23 HI.out HZ0.out HZ1.out HZ2.out rfl (by decide) _ (l.length + j) _ rfl ((hown.out.alloc _).alloc _) ⟨wr.heap.size + 1, 0, none⟩ 1 1 (tokCells ⟨xk, xt, xn, xa + (s.size + 1)⟩) rfl rfl ?c1 ?c2 ?c3 ?c4 ?c5 ?_)
          case c1 => exact fun j u hu => new_cells (by simp) (by simpa [tokCells] using hu)
          case c2 => exact tok_one _
          case c3 => unfold maxLen; omega
          case c4 => omega
          case c5 => have := hSp.size; simp; omega
          intro v3 w4 hown3 hgrow hiff hblk
          clear hiff
          have hsp3 : Spares w.heap.size w1.heap.size w3 w4 := by
            refine Spares.grown (hSp.trans (Spares.of_below (((Below.refl _ _).alloc (Nat.le_refl _) _).alloc (by simp) _))) hgrow ?_
            intro b hb
            exact HLO.out b hb
          obtain ⟨g, C3', rfl⟩ : ∃ g C3, v3 = .slice (some g) (l.length + j + 1) C3 := by
            rcases hown3.2 with ⟨_, h⟩ | ⟨g, cap, cur, h, _⟩
            · omega
            · exact ⟨_, _, h⟩
          have hlo3 : Hid (∀ b, (Value.slice (some g) (l.length + j + 1) C3').ownBlock = some b → (w.heap.size ≤ b ∧ b < w1.heap.size) ∨ w3.heap.size ≤ b) := by
            intro b hb
            rcases hblk with h | h
            · exact HLO.out b (by rw [← h]; exact hb)
            · have e := hb.symm.trans h
              simp only [Option.some.injEq] at e
              have := hSp.size
              refine .inr ?_
              rw [e]
              omega
          have hown4 := Aside.mk hown3
          clear hown3 hgrow hown hblk HLO
          go_wp2_with fail
          go_roundw
          case rel =>
            refine ⟨j + 1, some g, C3', rfl, by omega, by go_num, ?_, hlo3, hsp3⟩
            have e : k.take (j + 1) = k.take j ++ [(⟨xk, xt, xn, xa⟩ : Tok)] := by
              rw [List.take_add_one, List.getElem?_eq_getElem hlt, HX.out]; rfl
            rw [e, List.map_append, ← List.append_assoc, List.map_cons, List.map_nil, toksCells_snoc]
            rw [List.map_take]
            exact hown4
          case measure => simp [intOf]; omega
        · have hjk : j = k.length := by omega
          subst hjk
          have hrA : ReadsToks wr (.slice A3 (l.length + k.length) C3) (l ++ k.map (shift (s.size + 1))) := by
            have := own_reads (l := l ++ k.map (shift (s.size + 1))) (by rw [HL3.out]; exact hSp.own HROW3.out (by omega)) (by rw [HL3.out]; omega)
            exact this
          have hrB : ReadsToks wr (.slice A (l.length + k.length) C) (l ++ k.map (shift (s.size + 1))) := by
            have h := hown.out
            rw [List.take_length] at h
            exact own_reads (l := l ++ k.map (shift (s.size + 1))) (by rw [HL3.out]; exact h) (by rw [HL3.out]; omega)
          have HRA := Lib.hid hrA
          have HRB := Lib.hid hrB
          have hBr : Below w.heap.size w wr := (bthen (bthen hB1 hB2) hB3 |> fun h => hSp.below h (Nat.le_refl _) (by omega))
          clear hrA hrB
          go_wp2_with fail
          refine (r_Same _ _ _ _ true _ HRA.out HRB.out).mono ?_
          rw [sameL_refl]
          rintro e w5 ⟨rfl, hB5⟩
          go_wp2_with fail
          refine (wakes9_any _ (HV.out.stays (bthen hBr hB5))).mono ?_
          rintro e w6 ⟨rfl, hB6⟩
          go_wp2_with fail
          go_ret
          exact ⟨rfl, bthen (bthen hBr hB5) hB6⟩
end Go.Proofs.YtkieeaajhomdoaaDoor
