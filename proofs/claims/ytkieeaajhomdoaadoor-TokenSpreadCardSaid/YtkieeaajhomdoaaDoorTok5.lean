import Derived.Test.YtkieeaajhomdoaaDoorTok4
set_option linter.unusedVariables false
set_option linter.unusedSimpArgs false
namespace Go.Proofs.YtkieeaajhomdoaaDoor
open Go.RowKit Go.Maps Go.MapKept
theorem find_first {α : Type} (p : α → Bool) : ∀ (l : List α) (k : Nat) (h : k < l.length), (∀ j, (hj : j < k) → p (l[j]'(Nat.lt_trans hj h)) = false) → p l[k] = true → l.find? p = some l[k]
  | [], k, h, _, _ => by simp at h
  | x :: l, 0, h, _, hp => by simp only [List.getElem_cons_zero] at hp ⊢; rw [List.find?_cons_of_pos hp]
  | x :: l, k + 1, h, hn, hp => by
    have h0 := hn 0 (by omega)
    simp only [List.getElem_cons_zero] at h0
    rw [List.find?_cons_of_neg (by simp [h0])]
    have := find_first p l k (by simpa using h) (fun j hj => by have := hn (j + 1) (by omega); simpa using this) (by simpa using hp)
    simpa using this
theorem find_none' {α : Type} (p : α → Bool) (l : List α) (hn : ∀ j, (hj : j < l.length) → p l[j] = false) : l.find? p = none := by
  rw [List.find?_eq_none]
  intro x hx
  obtain ⟨j, hj, rfl⟩ := List.getElem_of_mem hx
  simp [hn j hj]
theorem IsLexer.stays {w w' : World} {x : Value} (h : IsLexer w x) (hb : Below w.heap.size w w') : IsLexer w' x := by
  obtain ⟨a, b1, b2, b3, b4, m, rfl, ha, i1, i2, i3, i4, hown⟩ := h
  exact ⟨a, b1, b2, b3, b4, m, rfl, below_block hb (block_lt ha) ha, below_block hb (block_lt i1) i1, below_block hb (block_lt i2) i2, below_block hb (block_lt i3) i3, below_block hb (block_lt i4) i4,
    hown.kept (row := none) ⟨hb.os, hb.tape, hb.output, hb.size, fun i hi _ => hb.block i hi⟩ (by simp)⟩
theorem tok_head (s : ByteArray) (h : 0 < s.size) : s.data.toList = s[0] :: s.data.toList.drop 1 := by
  have := drop_cons s 0 h
  simpa using this
set_option maxRecDepth 100000 in
set_option maxHeartbeats 4000000 in
theorem token_any (x : Value) (s : ByteArray) (w : World) (hx : IsLexer w x) (hv : Vars w) (hs : s.size ≤ 140737488351232) (h1 : 0 < s.size) (r : Except Int (Tok × Nat)) (hres : tok s.data.toList = r) :
    Calls Tryd.prog 23 #[x, .string s] w (AtTok r w) := by
  have HX := Lib.hid hx
  obtain ⟨a, b1, b2, b3, b4, m, rfl, ha, i1, i2, i3, i4, hown⟩ := hx
  have hc0 : w.cell? ⟨a, 0, none⟩ = some (.pointer (some ⟨b1, 0, none⟩)) := by rw [cell_of_block ha]; rfl
  have hc1 : w.cell? ⟨a, 1, none⟩ = some (.pointer (some ⟨b2, 0, none⟩)) := by rw [cell_of_block ha]; rfl
  have hc2 : w.cell? ⟨a, 2, none⟩ = some (.pointer (some ⟨b3, 0, none⟩)) := by rw [cell_of_block ha]; rfl
  have hal : a < w.heap.size := block_lt ha
  have hal1 : b1 < w.heap.size := block_lt i1
  have hal3 : b3 < w.heap.size := block_lt i3
  have t1 : w.cell? ⟨b1, s[0].toNat, none⟩ = some (.bool (isLetter s[0])) := by rw [cell_of_block i1, tabA_get _ _ (UInt8.toNat_lt _), tab_letter]
  have t3 : w.cell? ⟨b3, s[0].toNat, none⟩ = some (.bool (isDigit s[0])) := by rw [cell_of_block i3, tabA_get _ _ (UInt8.toNat_lt _), tab_digit]
  have hz0 : (0 : Int) < s.size := by omega
  have hb : ((s[0].toNat : Nat) : Int) < 256 := by have := UInt8.toNat_lt s[0]; omega
  have HRES := Lib.hid hres
  have HV := Lib.hid hv
  have I2 := Lib.hid i2
  have HH := Lib.hid (tok_head s h1)
  clear i1 i2 i3 i4 hown hres hv ha
  by_cases hlet : isLetter s[0] = true
  · rw [hlet] at t1
    have HL := Lib.hid hlet
    clear hlet
    go_enter Tryd.func23, Tryd.ntmps23
    go_wp2_with fail
    refine (run_any s b2 _ isInside tab_inside _ hs (alloc_old I2.out)).mono ?_
    rintro e w1 ⟨rfl, B1⟩
    obtain ⟨n, hn⟩ : ∃ n, run isInside s.data.toList = n := ⟨_, rfl⟩
    have hns : n ≤ s.size := by rw [← hn, ← len_list]; exact run_le _ _
    rw [hn]
    have HN := Lib.hid hn
    clear hn
    have hbel : Below w.heap.size w w1 := ((Below.refl _ _).alloc (Nat.le_refl _) _).trans (B1.mono (by simp))
    have k0 : w1.heap[w.heap.size]? = some (.cells tok0 34 (0, 0)) := below_block B1 (by simp) (alloc_block _ _)
    have K0 := Lib.hid k0
    clear k0 t1 t3
    have hz1 : w.heap.size < w1.heap.size := by have := B1.size; simp at this; omega
    have hd : (s.extract 0 n).data.toList = s.data.toList.take n := by rw [extract_list]; rfl
    obtain ⟨rw, hrw⟩ : ∃ rw, wordTok (s.extract 0 n).data.toList = rw := ⟨_, rfl⟩
    go_wp2_with fail
    refine (word_any _ (s.extract 0 n) _ (HX.out.stays hbel) (by rw [ByteArray.size_extract]; omega) rw hrw).mono ?_
    have hr : r = rw.map fun t => (t, n) := by
      rw [← HRES.out, HH.out, tok]
      simp only [HL.out, if_true]
      rw [← HH.out, HN.out, ← hd, hrw]
    rintro e w2 ⟨B2, hw⟩
    have k0 : w2.heap[w.heap.size]? = some (.cells tok0 34 (0, 0)) := below_block B2 (by omega) K0.out
    have q0 : w2.cell? ⟨w.heap.size, 0, none⟩ = some (.int .i64 0) := by rw [cell_of_block k0]; rfl
    have q1 : w2.cell? ⟨w.heap.size, 1, none⟩ = some (.string ⟨#[]⟩) := by rw [cell_of_block k0]; rfl
    have q2 : w2.cell? ⟨w.heap.size, 2, none⟩ = some (.int .i64 0) := by rw [cell_of_block k0]; rfl
    have q3 : w2.cell? ⟨w.heap.size, 3, none⟩ = some (.int .i64 0) := by rw [cell_of_block k0]; rfl
    have qf : ∀ j, w2.frozen? ⟨w.heap.size, j, none⟩ = false := frozen_of_block k0
    have hz2 : w.heap.size < w2.heap.size := by have := B2.size; omega
    have hbel2 : Below w.heap.size w w2 := bthen hbel B2
    clear k0 hrw
    cases rw with
    | ok t =>
      simp only at hw
      subst hw
      have HR := Lib.hid hr
      clear hr
      obtain ⟨tk, tx, tn, ta⟩ := t
      go_wp2_with fail
      refine bodyPost_ret (v := .tuple #[.agg #[.int .i64 tk, .string ⟨tx.toArray⟩, .int .i64 tn, .int .i64 ta], .int .i64 n, .int .i64 0]) (by simp [results, Tryd.results23, go_sem, q0, q1, q2, q3, hz2, Nat.ne_of_lt hz2]) rfl ⟨((((hbel2.setCell (Nat.le_refl _) _).setCell (Nat.le_refl _) _).setCell (Nat.le_refl _) _).setCell (Nat.le_refl _) _).alloc (by simp; omega) _, ?_⟩
      rw [HR.out]
      rfl
    | error c =>
      simp only at hw
      subst hw
      have HR := Lib.hid hr
      clear hr
      go_wp2_with fail
      refine bodyPost_ret (v := .tuple #[.agg #[.int .i64 0, .string ⟨#[]⟩, .int .i64 0, .int .i64 0], .int .i64 n, .int .i64 c]) (by simp [results, Tryd.results23, go_sem, q0, q1, q2, q3, hz2, Nat.ne_of_lt hz2]) rfl ⟨((((hbel2.setCell (Nat.le_refl _) _).setCell (Nat.le_refl _) _).setCell (Nat.le_refl _) _).setCell (Nat.le_refl _) _).alloc (by simp; omega) _, ?_⟩
      rw [HR.out]
      exact ⟨_, _, _, _, _, rfl⟩
  · have hlet' : isLetter s[0] = false := by simpa using hlet
    rw [hlet'] at t1
    have HL := Lib.hid hlet'
    clear hlet hlet'
    by_cases hdig : isDigit s[0] = true
    · rw [hdig] at t3
      have hr1 : 1 ≤ run isHex s.data.toList := by
        rw [HH.out, run_cons_pos (by simp [isHex, hdig])]; omega
      have hr : numTok s.data.toList = r := by
        rw [← HRES.out, HH.out, tok]
        simp only [HL.out, hdig, Bool.false_eq_true, if_false, if_true]
      have HR := Lib.hid hr
      have HR1 := Lib.hid hr1
      clear hr hr1 hdig
      go_enter Tryd.func23, Tryd.ntmps23
      go_wp2_with fail
      refine (number_any _ s _ (HX.out.stays ((Below.refl _ _).alloc (Nat.le_refl _) _)) (HV.out.stays ((Below.refl _ _).alloc (Nat.le_refl _) _)) hs HR1.out r HR.out).mono ?_
      rintro e w2 ⟨B2, hw⟩
      have k0 : w2.heap[w.heap.size]? = some (.cells tok0 34 (0, 0)) := below_block B2 (by simp) (alloc_block _ _)
      have q0 : w2.cell? ⟨w.heap.size, 0, none⟩ = some (.int .i64 0) := by rw [cell_of_block k0]; rfl
      have q1 : w2.cell? ⟨w.heap.size, 1, none⟩ = some (.string ⟨#[]⟩) := by rw [cell_of_block k0]; rfl
      have q2 : w2.cell? ⟨w.heap.size, 2, none⟩ = some (.int .i64 0) := by rw [cell_of_block k0]; rfl
      have q3 : w2.cell? ⟨w.heap.size, 3, none⟩ = some (.int .i64 0) := by rw [cell_of_block k0]; rfl
      have qf : ∀ j, w2.frozen? ⟨w.heap.size, j, none⟩ = false := frozen_of_block k0
      have hz2 : w.heap.size < w2.heap.size := by have := B2.size; simp at this; omega
      have hbel2 : Below w.heap.size w w2 := ((Below.refl _ _).alloc (Nat.le_refl _) _).trans (B2.mono (by simp))
      clear k0
      cases r with
      | ok tn =>
        obtain ⟨⟨tk, tx, tn, ta⟩, n⟩ := tn
        simp only at hw
        subst hw
        go_wp2_with fail
        refine bodyPost_ret (v := .tuple #[.agg #[.int .i64 tk, .string ⟨tx.toArray⟩, .int .i64 tn, .int .i64 ta], .int .i64 n, .int .i64 0]) (by simp [results, Tryd.results23, go_sem, q0, q1, q2, q3, hz2, Nat.ne_of_lt hz2]) rfl ⟨((((hbel2.setCell (Nat.le_refl _) _).setCell (Nat.le_refl _) _).setCell (Nat.le_refl _) _).setCell (Nat.le_refl _) _), ?_⟩
        rfl
      | error c =>
        obtain ⟨k, y, mm, aa, n, rfl⟩ := hw
        go_wp2_with fail
        refine bodyPost_ret (v := .tuple #[.agg #[.int .i64 k, .string y, .int .i64 mm, .int .i64 aa], .int .i64 n, .int .i64 c]) (by simp [results, Tryd.results23, go_sem, q0, q1, q2, q3, hz2, Nat.ne_of_lt hz2]) rfl ⟨((((hbel2.setCell (Nat.le_refl _) _).setCell (Nat.le_refl _) _).setCell (Nat.le_refl _) _).setCell (Nat.le_refl _) _), ?_⟩
        exact ⟨_, _, _, _, _, rfl⟩
    · have hdig' : isDigit s[0] = false := by simpa using hdig
      rw [hdig'] at t3
      have HD := Lib.hid hdig'
      clear hdig hdig'
      by_cases hq : ((s[0].toNat : Nat) : Int) = 34
      · have hr : textTok (s.data.toList.drop 1) = r := by
          rw [← HRES.out, HH.out, tok]
          simp only [HL.out, HD.out, Bool.false_eq_true, if_false]
          rw [if_pos (UInt8.toNat_inj.1 (by show _ = 34; omega))]
          rfl
        have HR := Lib.hid hr
        have hqb : (((s[0].toNat : Nat) : Int) == 34) = true := by rw [beq_iff_eq]; exact hq
        clear hr hq
        go_enter Tryd.func23, Tryd.ntmps23
        go_wp2_with fail
        refine (text_any s _ hs h1 r HR.out).mono ?_
        rintro e w2 ⟨B2, hw⟩
        have k0 : w2.heap[w.heap.size]? = some (.cells tok0 34 (0, 0)) := below_block B2 (by simp) (alloc_block _ _)
        have q0 : w2.cell? ⟨w.heap.size, 0, none⟩ = some (.int .i64 0) := by rw [cell_of_block k0]; rfl
        have q1 : w2.cell? ⟨w.heap.size, 1, none⟩ = some (.string ⟨#[]⟩) := by rw [cell_of_block k0]; rfl
        have q2 : w2.cell? ⟨w.heap.size, 2, none⟩ = some (.int .i64 0) := by rw [cell_of_block k0]; rfl
        have q3 : w2.cell? ⟨w.heap.size, 3, none⟩ = some (.int .i64 0) := by rw [cell_of_block k0]; rfl
        have qf : ∀ j, w2.frozen? ⟨w.heap.size, j, none⟩ = false := frozen_of_block k0
        have hz2 : w.heap.size < w2.heap.size := by have := B2.size; simp at this; omega
        have hbel2 : Below w.heap.size w w2 := ((Below.refl _ _).alloc (Nat.le_refl _) _).trans (B2.mono (by simp))
        clear k0
        cases r with
        | ok tn =>
          obtain ⟨⟨tk, tx, tn, ta⟩, n⟩ := tn
          simp only at hw
          subst hw
          go_wp2_with fail
          refine bodyPost_ret (v := .tuple #[.agg #[.int .i64 tk, .string ⟨tx.toArray⟩, .int .i64 tn, .int .i64 ta], .int .i64 n, .int .i64 0]) (by simp [results, Tryd.results23, go_sem, q0, q1, q2, q3, hz2, Nat.ne_of_lt hz2]) rfl ⟨((((hbel2.setCell (Nat.le_refl _) _).setCell (Nat.le_refl _) _).setCell (Nat.le_refl _) _).setCell (Nat.le_refl _) _), ?_⟩
          rfl
        | error c =>
          obtain ⟨k, y, mm, aa, n, rfl⟩ := hw
          go_wp2_with fail
          refine bodyPost_ret (v := .tuple #[.agg #[.int .i64 k, .string y, .int .i64 mm, .int .i64 aa], .int .i64 n, .int .i64 c]) (by simp [results, Tryd.results23, go_sem, q0, q1, q2, q3, hz2, Nat.ne_of_lt hz2]) rfl ⟨((((hbel2.setCell (Nat.le_refl _) _).setCell (Nat.le_refl _) _).setCell (Nat.le_refl _) _).setCell (Nat.le_refl _) _), ?_⟩
          exact ⟨_, _, _, _, _, rfl⟩
      · have hqb : (((s[0].toNat : Nat) : Int) == 34) = false := by rw [beq_eq_false_iff_ne]; exact hq
        have hr : signTok s.data.toList = r := by
          rw [← HRES.out, HH.out, tok]
          simp only [HL.out, HD.out, Bool.false_eq_true, if_false]
          rw [if_neg (fun h => hq (by rw [h]; rfl))]
        have HR := Lib.hid hr
        clear hr hq
        go_enter Tryd.func23, Tryd.ntmps23
        go_wp2_with fail
        refine (signs_any _ (HV.out.stays ((Below.refl _ _).alloc (Nat.le_refl _) _)).space).mono ?_
        rintro e w2 ⟨rfl, rfl⟩
        have hrow : ((w.alloc (.cells tok0 34)).alloc (.cells (textsRow signList) 9)).heap[w.heap.size + 1]? = some (.cells (textsRow signList) 9 (0, 0)) := by
          have := alloc_block (w.alloc (.cells tok0 34)) (.cells (textsRow signList) 9)
          simpa using this
        have HROW := Lib.hid hrow
        clear hrow
        go_wp2_with fail
        go_loop [66] (fun i => ∃ k : Nat, k ≤ 26 ∧ i = .int .i64 k ∧ Hid (∀ j, (hj : j < k) → (hj2 : j < signList.length) → (signList[j]).isPrefixOf s.data.toList = false)) (fun i => 26 - (intOf i).toNat)
        case atStart => exact ⟨0, by omega, rfl, fun j hj => by omega⟩
        case round =>
          obtain ⟨k, hk, rfl, HN⟩ := hrel
          by_cases hlt : k < 26
          · obtain ⟨sg, hsg⟩ : ∃ sg, signList[k]'(by rw [signList_len]; exact hlt) = sg := ⟨_, rfl⟩
            have HSG := Lib.hid hsg
            have hcell : (textsRow signList)[k]? = some (.string ⟨sg.toArray⟩) := by
              rw [textsRow_get _ _ (by rw [signList_len]; exact hlt), hsg]
            clear hsg
            go_wp2_with fail
            refine (Tryd.strings_HasPrefix s ⟨sg.toArray⟩ _).mono ?_
            rintro e w3 ⟨rfl, rfl⟩
            obtain ⟨pb, hpb⟩ : ∃ pb, Lib.hasPrefix s.data.toList (⟨sg.toArray⟩ : ByteArray).data.toList = pb := ⟨_, rfl⟩
            rw [hpb]
            have hpb' : sg.isPrefixOf s.data.toList = pb := hpb
            clear hpb
            cases pb with
            | true =>
              have hr : r = .ok (⟨6, sg, 0, 0⟩, sg.length) := by
                rw [← HR.out, signTok, find_first _ signList k (by rw [signList_len]; exact hlt) (fun j hj => HN.out j hj (by rw [signList_len]; omega)) (by rw [HSG.out]; exact hpb'), HSG.out]
              have HR2 := Lib.hid hr
              clear hr hpb'
              go_wp2_with fail
              refine bodyPost_ret (v := .tuple #[.agg #[.int .i64 6, .string ⟨sg.toArray⟩, .int .i64 0, .int .i64 0], .int .i64 sg.length, .int .i64 0]) (by simp [results, Tryd.results23, go_sem]) rfl ⟨((Below.refl _ _).alloc (Nat.le_refl _) _).alloc (by simp) _, ?_⟩
              rw [HR2.out]
            | false =>
              have HPB := Lib.hid hpb'
              clear hpb'
              go_wp2_with fail
              go_round
              case rel =>
                refine ⟨k + 1, by omega, by go_num, fun j hj hj2 => ?_⟩
                by_cases e : j = k
                · subst e; rw [HSG.out]; exact HPB.out
                · exact HN.out j (by omega) hj2
              case measure => simp [intOf]; omega
          · have hr : r = .error 90 := by
              rw [← HR.out, signTok, find_none' _ signList (fun j hj => HN.out j (by rw [signList_len] at hj; omega) hj)]
            have HR2 := Lib.hid hr
            clear hr
            go_wp2_with fail
            refine bodyPost_ret (v := .tuple #[.agg #[.int .i64 0, .string ⟨#[]⟩, .int .i64 0, .int .i64 0], .int .i64 0, .int .i64 90]) (by simp [results, Tryd.results23, go_sem]) rfl ⟨((Below.refl _ _).alloc (Nat.le_refl _) _).alloc (by simp) _, ?_⟩
            rw [HR2.out]
            exact ⟨_, _, _, _, _, rfl⟩
end Go.Proofs.YtkieeaajhomdoaaDoor
