import Derived.Test.YtkieeaajhomdoaaDoorReads
import Derived.Test.YtkieeaajhomdoaaDoorSpreadP
import Derived.Laws.IdiomStrings
set_option linter.unusedVariables false
set_option linter.unusedSimpArgs false
namespace Go.Proofs.YtkieeaajhomdoaaDoor
open Go.RowKit Go.Maps Go.MapKept
theorem sameL_strip : ∀ (a b : List Tok), b.map strip = a.map strip → sameL false a b = true
  | [], [], _ => rfl
  | [], _ :: _, h => by simp at h
  | _ :: _, [], h => by simp at h
  | ⟨xk, xt, xn, xa⟩ :: a, ⟨yk, yt, yn, ya⟩ :: b, h => by
    simp only [List.map_cons, List.cons.injEq, strip, Tok.mk.injEq] at h
    obtain ⟨⟨rfl, rfl, rfl, _⟩, h2⟩ := h
    simp only [sameL, sameL_strip a b h2, Bool.and_true]
    simp [sameT]
theorem ext_list (s : ByteArray) (a b : Nat) : (s.extract a b).data.toList = (s.data.toList.drop a).take (b - a) := by
  simp
theorem all_blank {b : ByteArray} (h : ∀ (j : Nat) (hj : j < b.size), isBlank b[j] = true) : ∀ c ∈ b.data.toList, isBlank c = true := by
  intro c hc
  obtain ⟨j, hj, rfl⟩ := List.mem_iff_getElem.1 hc
  have hj' : j < b.size := by simpa [len_list] using hj
  exact h j hj'
theorem blank_cases {x : Int} (h : (((x == 9) || (x == 10)) || (x == 13) || (x == 32)) = true) : x = 9 ∨ x = 10 ∨ x = 13 ∨ x = 32 := by
  simp only [Bool.or_eq_true, beq_iff_eq] at h
  omega
set_option maxRecDepth 100000 in
set_option maxHeartbeats 4000000 in
theorem TokenSpread_any (s b : ByteArray) (w : World) (hv : Vars w) (hss : s.size ≤ 140737488351232) (hbs : b.size ≤ 140737488351232) : Calls Tryd.prog 5 #[.string s, .string b] w (Gives (.bool true) w) := by
  have HV := Lib.hid hv
  clear hv
  by_cases hlong : (800 : Int) < s.size
  · go_enter Tryd.func5, Tryd.ntmps5
    go_wp2_with fail
    refine (wakes9_any _ HV.out).mono ?_
    rintro e w1 ⟨rfl, hB⟩
    go_wp2_with fail
    go_ret
    exact ⟨rfl, hB⟩
  · by_cases hlong2 : (6 : Int) < b.size
    · go_enter Tryd.func5, Tryd.ntmps5
      go_wp2_with fail
      refine (wakes9_any _ HV.out).mono ?_
      rintro e w1 ⟨rfl, hB⟩
      go_wp2_with fail
      go_ret
      exact ⟨rfl, hB⟩
    · have hsi : (s.size : Int) ≤ 800 := by omega
      have hbi : (b.size : Int) ≤ 6 := by omega
      go_enter Tryd.func5, Tryd.ntmps5
      go_wp2_with fail
      go_loopw [5] (fun i wr => ∃ j : Nat, j ≤ b.size ∧ i = .int .i64 j ∧ Hid (∀ (q : Nat) (hq : q < b.size), q < j → isBlank b[q] = true) ∧ Below w.heap.size w wr) (fun i _ => b.size - (intOf i).toNat)
      case atStart => exact ⟨0, by omega, rfl, fun q _ h => by omega, Below.refl _ _⟩
      case round =>
        obtain ⟨j, hj, rfl, HALL, hB⟩ := hrel
        by_cases hlt : j < b.size
        · have hji : (j : Int) < b.size := by omega
          by_cases hbl : isBlank b[j] = true
          · have HN : Hid (∀ (q : Nat) (hq : q < b.size), q < j + 1 → isBlank b[q] = true) := by
              intro q hq h
              by_cases e : q = j
              · subst e; exact hbl
              · exact HALL.out q hq (by omega)
            rw [blank_int] at hbl
            have hbc := blank_cases hbl
            clear hbl
            have e9 : ((((b[j].toNat : Nat) : Int) != 9) = false) ∨ ((((b[j].toNat : Nat) : Int) != 9) = true ∧ (((b[j].toNat : Nat) : Int) != 10) = false) ∨ ((((b[j].toNat : Nat) : Int) != 9) = true ∧ (((b[j].toNat : Nat) : Int) != 10) = true ∧ (((b[j].toNat : Nat) : Int) != 13) = false) ∨ ((((b[j].toNat : Nat) : Int) != 9) = true ∧ (((b[j].toNat : Nat) : Int) != 10) = true ∧ (((b[j].toNat : Nat) : Int) != 13) = true ∧ (((b[j].toNat : Nat) : Int) != 32) = false) := by
              rcases hbc with h | h | h | h <;> rw [h] <;> decide
            clear hbc
            rcases e9 with h1 | ⟨h1, h2⟩ | ⟨h1, h2, h3⟩ | ⟨h1, h2, h3, h4⟩
            all_goals go_wp2_with fail
            all_goals go_roundw
            all_goals first | exact ⟨j + 1, by omega, by go_num, HN, hB⟩ | (simp [intOf]; omega)
          · have hbl' : isBlank b[j] = false := by simpa using hbl
            rw [blank_int] at hbl'
            have h4 : (((b[j].toNat : Nat) : Int) != 9) = true ∧ (((b[j].toNat : Nat) : Int) != 10) = true ∧ (((b[j].toNat : Nat) : Int) != 13) = true ∧ (((b[j].toNat : Nat) : Int) != 32) = true := by
              simp only [Bool.or_eq_false_iff, beq_eq_false_iff_ne] at hbl'
              simp only [bne_iff_ne]
              exact ⟨hbl'.1.1.1, hbl'.1.1.2, hbl'.1.2, hbl'.2⟩
            clear hbl hbl'
            obtain ⟨h1, h2, h3, h4⟩ := h4
            go_wp2_with fail
            refine (wakes9_any _ (HV.out.stays hB)).mono ?_
            rintro e w1 ⟨rfl, hB1⟩
            go_wp2_with fail
            go_ret
            exact ⟨rfl, bthen hB hB1⟩
        · have hjb : j = b.size := by omega
          subst hjb
          have hall := all_blank (b := b) (fun q hq => HALL.out q hq hq)
          have HBL := Lib.hid hall
          clear hall HALL
          obtain ⟨r, hr⟩ : ∃ r, lex s.data.toList = r := ⟨_, rfl⟩
          cases r with
          | error pe =>
            obtain ⟨p, e⟩ := pe
            have he := lex_err hr
            rw [len_list] at he
            have hq1 : ((e != 0) : Bool) = true := by rw [bne_iff_ne]; omega
            have hp0 : 0 ≤ p := he.2.1
            have HR := Lib.hid hr
            have hpp : p < s.size := by
              have := lexF_err_fine (s.data.toList.length + 1) s.data.toList 0 [] p e (Nat.lt_succ_self _) (by
                rw [lex, if_neg (by rw [len_list]; omega)] at hr
                exact hr)
              rw [len_list] at this
              omega
            clear hr he
            go_wp2_with fail
            refine (Lex_any s _ (HV.out.stays hB) hss _ HR.out).mono ?_
            rintro e1 w1 ⟨hB1, h1⟩
            simp only at h1
            subst h1
            go_wp2_with fail
            refine (wakes9_any _ (HV.out.stays (bthen hB hB1))).mono ?_
            rintro e w2 ⟨rfl, hB2⟩
            go_wp2_with fail
            go_ret
            exact ⟨rfl, bthen (bthen hB hB1) hB2⟩
          | ok l =>
            have hll : l.length ≤ 6000 := lex_len hr
            have hli : (l.length : Int) ≤ 6000 := by omega
            have hats := fun i h => lex_at hr i h
            rw [len_list] at hats
            have HATS := Lib.hid hats
            have HR := Lib.hid hr
            clear hats
            go_wp2_with fail
            refine (Lex_any s _ (HV.out.stays hB) hss _ HR.out).mono ?_
            rintro e1 w1 ⟨hB1, v1, base1, rfl, hb1, hrow1⟩
            obtain ⟨A1, C1, rfl, _, hrd1⟩ := own_reads hrow1 (by omega)
            have HRD1 := Lib.hid hrd1
            have hrT : ReadsToks w1 (.slice A1 l.length C1) l := own_reads hrow1 (by omega)
            have HRT := Lib.hid hrT
            have hsrt : Srt 0 l := (lex_srt (by rw [len_list]; omega) hr)
            have HSRT := Lib.hid hsrt
            clear hrow1 hrd1 hr hrT hsrt
            go_wp2_with fail
            go_loopw [9, 10, 11] (fun tv lv i wr => ∃ (j a : Nat) (T : ByteArray), tv = .string T ∧ lv = .int .i64 a ∧ i = .int .i64 j ∧ j ≤ l.length ∧ (a : Int) ≤ s.size ∧ (T.size : Int) ≤ 1000 * j ∧ Hid (Srt a (l.drop j)) ∧ Hid (T.data.toList ++ sp (b.data.toList ++ cmtC) (s.data.toList.drop a) a (l.drop j) = sp (b.data.toList ++ cmtC) s.data.toList 0 l) ∧ Below w1.heap.size w1 wr) (fun _ _ i _ => l.length - (intOf i).toNat)
            case atStart => exact ⟨0, 0, ⟨#[]⟩, rfl, rfl, rfl, by omega, by omega, by show ((0 : Nat) : Int) ≤ _; omega, HSRT, rfl, Below.refl _ _⟩
            case round =>
              obtain ⟨j, a, T, rfl, rfl, rfl, hj, ha, hT, HS, HT, hB2⟩ := hrel
              by_cases hlt : j < l.length
              · have hjl : (j : Int) < l.length := by omega
                obtain ⟨bb, oo, rfl, hcc⟩ := HRD1.out (by omega)
                obtain ⟨_, _, _, c3⟩ := hcc j hlt
                have hd : l.drop j = l[j] :: l.drop (j + 1) := List.drop_eq_getElem_cons hlt
                have h0 := HATS.out j hlt
                have h1 := HS.out
                have h2 := HT.out
                rw [hd] at h1 h2
                obtain ⟨m, hm⟩ : ∃ m : Nat, l[j].at_ = (m : Int) := ⟨l[j].at_.toNat, by omega⟩
                simp only [sp, Srt] at h1 h2
                rw [hm] at c3 h0 h1 h2
                have c3 := cell_keep hB2 c3
                have la := World.block_lt_of_cell? _ _ c3
                simp only at la
                obtain ⟨h11, h12⟩ := h1
                have ham : a ≤ m := by omega
                have hami : (a : Int) ≤ m := h11
                have hmsi : (m : Int) ≤ s.size := by omega
                have hmss : m ≤ s.size := by omega
                have hma : ((m : Int) - a).toNat = m - a := by omega
                rw [hma, List.drop_drop, show a + (m - a) = m by omega, ← ext_list s a m] at h2
                have hn : ¬ (9223372036854775807 < (s.extract a m).size + b.size) := by rw [ByteArray.size_extract]; omega
                have hn2 : ¬ (9223372036854775807 < (s.extract a m).size + b.size + 15) := by rw [ByteArray.size_extract]; omega
                have hn3 : ¬ (9223372036854775807 < T.size + ((s.extract a m).size + b.size + 15)) := by rw [ByteArray.size_extract]; omega
                have HH2 := Lib.hid h2
                have HH1 := Lib.hid h12
                have HD := Lib.hid hd
                clear h2 h12 hd hm hma h11 hcc h0
                go_wp2_with fail
                go_roundw
                case rel =>
                  refine ⟨j + 1, m, T ++ (s.extract a m ++ b ++ ⟨#[40, 42, 32, 120, 32, 40, 42, 32, 42, 41, 32, 34, 32, 42, 41]⟩), rfl, rfl, by go_num, by omega, by omega, ?_, HH1, ?_, hB2⟩
                  · rw [ByteArray.size_append, ByteArray.size_append, ByteArray.size_append, ByteArray.size_extract]
                    show ((T.size + ((min m s.size - a) + b.size + 15) : Nat) : Int) ≤ _
                    omega
                  · rw [← HH2.out]
                    simp only [ByteArray.data_append, Array.toList_append, cmtC, List.append_assoc, Hid]
                case measure => simp [intOf]; omega
              · have hjl : j = l.length := by omega
                subst hjl
                have h2 := HT.out
                rw [List.drop_length] at h2
                simp only [sp] at h2
                obtain ⟨S, hS⟩ : ∃ S : ByteArray, T ++ (s.extract a s.size ++ (⟨#[32, 40, 42, 42, 42, 41]⟩ : ByteArray)) = S := ⟨_, rfl⟩
                have hSz : S.size = T.size + (s.size - a + 6) := by
                  rw [← hS, ByteArray.size_append, ByteArray.size_append, ByteArray.size_extract, Nat.min_self]; rfl
                have hSl : S.data.toList = sp (b.data.toList ++ cmtC) s.data.toList 0 l := by
                  rw [← h2, ← hS]
                  simp only [ByteArray.data_append, Array.toList_append, endC]
                  rw [Lib.extract_to_end]
                have HS1 := Lib.hid hS
                have HSZ := Lib.hid hSz
                have HSL := Lib.hid hSl
                clear h2 hS hSz hSl
                by_cases hbig : (16384 : Int) < T.size + (((s.size - a : Nat) : Int) + 6)
                · go_wp2_with fail
                  refine (wakes9_any _ (HV.out.stays (bthen (bthen hB hB1) hB2))).mono ?_
                  rintro e w2 ⟨rfl, hB3⟩
                  go_wp2_with fail
                  go_ret
                  exact ⟨rfl, bthen (bthen (bthen hB hB1) hB2) hB3⟩
                · have hsz := HSZ.out
                  have hSs : S.size ≤ 140737488351232 := by omega
                  obtain ⟨_, toks', h3, h4⟩ := lex_spread (s := s.data.toList) (bl := b.data.toList) (toks := l) HBL.out (by rw [len_list]; omega) HR.out (by rw [← HSL.out, len_list]; omega)
                  rw [← HSL.out] at h3
                  have hsame := sameL_strip l toks' h4
                  have HL3 := Lib.hid h3
                  have HSM := Lib.hid hsame
                  have hll3 : toks'.length ≤ 6000 := lex_len h3
                  clear h3 h4 hsame hsz
                  go_wp2_with fail
                  rw [HS1.out]
                  refine (Lex_any S _ (HV.out.stays (bthen (bthen hB hB1) hB2)) hSs _ HL3.out).mono ?_
                  rintro e3 w3 ⟨hB3, v3, base3, rfl, hb3, hrow3⟩
                  have hrd3 : ReadsToks w3 v3 toks' := own_reads hrow3 (by omega)
                  have HRD3 := Lib.hid hrd3
                  clear hrow3 hrd3
                  go_wp2_with fail
                  refine (r_Same _ _ l toks' false _ (HRT.out.stays (bthen hB2 hB3)) HRD3.out).mono ?_
                  rw [HSM.out]
                  rintro e w4 ⟨rfl, hB4⟩
                  go_wp2_with fail
                  refine (wakes9_any _ (HV.out.stays (bthen (bthen (bthen (bthen hB hB1) hB2) hB3) hB4))).mono ?_
                  rintro e w5 ⟨rfl, hB5⟩
                  go_wp2_with fail
                  go_ret
                  exact ⟨rfl, bthen (bthen (bthen (bthen (bthen hB hB1) hB2) hB3) hB4) hB5⟩
end Go.Proofs.YtkieeaajhomdoaaDoor
