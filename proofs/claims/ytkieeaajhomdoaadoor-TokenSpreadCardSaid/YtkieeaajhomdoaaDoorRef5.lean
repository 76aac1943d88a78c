import Derived.Test.YtkieeaajhomdoaaDoorRef4
set_option linter.unusedVariables false
set_option linter.unusedSimpArgs false
namespace Go.Proofs.YtkieeaajhomdoaaDoor
open Go.RowKit Go.Maps Go.MapKept
set_option maxRecDepth 100000 in
set_option maxHeartbeats 4000000 in
theorem r_Lex (s : ByteArray) (w : World) (hs : s.size ≤ 140737488351232) (r : Except (Int × Int) (List Tok)) (hres : lex s.data.toList = r) :
    Calls Tryd.prog 12 #[.string s] w (AtLex r w) := by
  have HRES := Lib.hid hres
  clear hres
  obtain ⟨i0, hi, hz0, hz1, hz2⟩ := info_parts info_tok
  have HI := Lib.hid hi
  have HZ0 := Lib.hid hz0
  have HZ1 := Lib.hid hz1
  have HZ2 := Lib.hid hz2
  clear hi hz0 hz1 hz2
  by_cases hlong : (16384 : Int) < s.size
  · go_enter Tryd.func12, Tryd.ntmps12
    go_wp2_with fail
    go_ret3
    refine ⟨Below.refl _ _, ?_⟩
    rw [← HRES.out, lex, if_pos (by rw [len_list]; omega)]
    rfl
  · have hrest : Rest s.data.toList 0 [] r := by
      rw [← HRES.out, lex, if_neg (by rw [len_list]; omega)]
      rfl
    have HREST := Lib.hid hrest
    clear hrest
    go_enter Tryd.func12, Tryd.ntmps12
    go_wp2_with fail
    refine (r_skip s 0 _ hs (Nat.zero_le _)).mono ?_
    rintro e w1 ⟨k1, ok1, rfl, rfl, hk1, hk2, hok, hno⟩
    have HOK := Lib.hid hok
    have HNO := Lib.hid hno
    clear hok hno
    go_wp2_with fail
    go_loopw [5, 6, 7] (fun v i o wr => ∃ (k : Nat) (acc : List Tok) (A : Option Addr) (C : Nat) (ok : Bool), v = .slice A acc.length C ∧ k ≤ s.size ∧ i = .int .i64 k ∧ o = .bool ok ∧ acc.length ≤ 6000 ∧ Aside (wr.ownsRow w1.heap.size 34 4 (.slice A acc.length C) acc.length (toksCells acc)) ∧
        Hid (ok = true → Rest (s.data.toList.drop k) k acc r ∧ ∀ h : k < s.size, isBlank s[k] = false ∧ [40, 42].isPrefixOf (s[k] :: s.data.toList.drop (k + 1)) = false) ∧ Hid (ok = false → r = .error (k, 90)) ∧ Below w1.heap.size w1 wr) (fun _ i _ _ => s.size - (intOf i).toNat)
    case atStart => exact ⟨k1, [], none, 0, ok1, rfl, hk2, rfl, rfl, by simp, ⟨by simp [toksCells], .inl ⟨rfl, rfl⟩⟩, fun h => ⟨(HOK.out h).1 [] r (by simpa using HREST.out), (HOK.out h).2⟩, fun h => HNO.out h [] r (by simpa using HREST.out), Below.refl _ _⟩
    case round =>
      obtain ⟨k, acc, A, C, ok, rfl, hk, rfl, rfl, hacc, hown, HR, HN, hB⟩ := hrel
      cases ok with
      | false =>
        have hr := HN.out rfl
        have HRR := Lib.hid hr
        clear hr
        go_wp2_with fail
        go_ret3
        refine ⟨hB, ?_⟩
        rw [HRR.out]
        rfl
      | true =>
        obtain ⟨hrest, hnb⟩ := HR.out rfl
        by_cases hlt : k < s.size
        · have hki : (k : Int) < s.size := by omega
          obtain ⟨hbl, hp⟩ := hnb hlt
          have HDR := Lib.hid (drop_cons s k hlt)
          have HBL := Lib.hid hbl
          have HP := Lib.hid hp
          have hrl : Rest (s[k] :: s.data.toList.drop (k + 1)) k acc r := by rw [← HDR.out]; exact hrest
          have HRL := Lib.hid hrl
          have hlen : (s[k] :: s.data.toList.drop (k + 1)).length = s.size - k := by rw [← HDR.out, List.length_drop, len_list]
          have HLEN := Lib.hid hlen
          obtain ⟨r1, hr1⟩ : ∃ r1, tok (s[k] :: s.data.toList.drop (k + 1)) = r1 := ⟨_, rfl⟩
          have HT := Lib.hid hr1
          have hfine := tok_fine (s[k] :: s.data.toList.drop (k + 1))
          rw [hr1, TokFine, HLEN.out] at hfine
          obtain ⟨hf1, hf2⟩ := hfine
          clear hbl hp hrl hlen hrest hnb hr1
          go_wp2_with fail
          refine (r_one s k _ hs hlt r1 (by rw [HDR.out]; exact HT.out)).mono ?_
          rintro e w2 ⟨B2, hw⟩
          cases r1 with
          | error c =>
            have hc := hf2 c rfl
            have hr := HRL.out.bad HBL.out HP.out HT.out
            have HRR := Lib.hid hr
            have hc0 : (c == 0) = false := by rw [beq_eq_false_iff_ne]; omega
            have hc1 : (c != 0) = true := by rw [bne_iff_ne]; omega
            clear hr hc hf1 hf2
            obtain ⟨kk, y, mm, aa, nn, rfl⟩ := hw
            go_wp2_with fail
            go_ret3
            refine ⟨(bthen hB B2).alloc (bthen hB B2).size _, ?_⟩
            rw [HRR.out]
            rfl
          | ok tn =>
            obtain ⟨⟨tk, tx, tn, ta⟩, n⟩ := tn
            obtain ⟨hn1, hn2, hta⟩ := hf1 _ _ rfl
            clear hf1 hf2
            simp only at hw
            subst hw
            by_cases h6 : acc.length = 6000
            · have hr := HRL.out.many HBL.out HP.out HT.out h6
              have HRR := Lib.hid hr
              have h6b : ((acc.length : Int) == 6000) = true := by rw [beq_iff_eq]; omega
              clear hr h6
              go_wp2_with fail
              go_ret3
              refine ⟨(bthen hB B2).alloc (bthen hB B2).size _, ?_⟩
              rw [HRR.out]
              rfl
            · have hr := HRL.out.tok HBL.out HP.out HT.out h6
              rw [← HDR.out, List.drop_drop] at hr
              have HRR := Lib.hid hr
              have H6 := Lib.hid h6
              have h6b : ((acc.length : Int) == 6000) = false := by rw [beq_eq_false_iff_ne]; omega
              have hown2 : Aside (w2.ownsRow w1.heap.size 34 4 (.slice A acc.length C) acc.length (toksCells acc)) := ⟨own_below hown.out B2⟩
              have hb2 : w1.heap.size ≤ w2.heap.size := (bthen hB B2).size
              have hbel2 : Below w1.heap.size w1 w2 := bthen hB B2
              clear hr h6
              go_wp2_with (at_builtin; refine wpList_append_own _ rfl _ _ 23 rfl w1.heap.size 34 i0 _ 4 40 Tryd.underlying23 HI.out HZ0.out HZ1.out HZ2.out rfl (by decide) _ acc.length _ rfl ((hown2.out.alloc _).alloc _) ⟨w2.heap.size + 1, 0, none⟩ 1 1 (tokCells ⟨tk, tx, tn, k⟩) rfl rfl ?c1 ?c2 ?c3 ?c4 ?c5 ?_)
              case c1 => exact fun j u hu => new_cells (by simp) (by simpa [tokCells] using hu)
              case c2 => exact tok_one _
              case c3 => unfold maxLen; omega
              case c4 => omega
              case c5 => simp; omega
              intro v3 w3 hown3 hgrow hiff
              clear hiff
              have hbel3 : Below w1.heap.size w1 w3 := by
                refine Below.grown ?_ hgrow ?_ (fun b hb => own_base hown2.out b hb)
                · exact (hbel2.alloc hbel2.size _).alloc (by simp; omega) _
                · simp; omega
              obtain ⟨g, C3, rfl⟩ : ∃ g C3, v3 = .slice (some g) (acc.length + 1) C3 := by
                rcases hown3.2 with ⟨_, h⟩ | ⟨g, cap, cur, h, _⟩
                · omega
                · exact ⟨_, _, h⟩
              have hown4 := Aside.mk hown3
              clear hown3 hgrow hown2 hown
              go_wp2_with fail
              refine (r_skip s (k + n) _ hs (by omega)).mono ?_
              rintro e w4 ⟨k4, ok4, rfl, rfl, hk3, hk4, hok, hno⟩
              have HOK4 := Lib.hid hok
              have HNO4 := Lib.hid hno
              clear hok hno
              go_wp2_with fail
              go_roundw
              case rel =>
                have hl : (acc ++ [(⟨tk, tx, tn, k⟩ : Tok)]).length = acc.length + 1 := by simp
                refine ⟨k4, acc ++ [⟨tk, tx, tn, k⟩], some g, C3, ok4, by rw [hl], by omega, rfl, rfl, ?_, ?_, (fun h => ⟨(HOK4.out h).1 _ _ HRR.out, (HOK4.out h).2⟩), (fun h => HNO4.out h _ _ HRR.out), hbel3⟩
                · rw [hl]; have := H6.out; omega
                rw [hl, toksCells_snoc]
                exact hown4
              case measure => simp [intOf]; omega
        · have hki : ¬ (k : Int) < s.size := by omega
          have h0 := hrest
          rw [drop_nil s k (by omega)] at h0
          have HR0 := Lib.hid h0.nil
          clear hrest hnb h0
          go_wp2_with fail
          go_ret3
          refine ⟨hB, ?_⟩
          rw [HR0.out]
          exact ⟨_, _, rfl, Nat.le_refl _, hown.out⟩
end Go.Proofs.YtkieeaajhomdoaaDoor
