import Derived.Test.YtkieeaajhomdoaaDoorTok5
import Derived.Test.YtkieeaajhomdoaaDoorSpec2
set_option linter.unusedVariables false
set_option linter.unusedSimpArgs false
namespace Go.Proofs.YtkieeaajhomdoaaDoor
open Go.RowKit Go.Maps Go.MapKept
def tokCells (t : Tok) : List Value := [.int .i64 t.kind, .string ⟨t.text.toArray⟩, .int .i64 t.n, .int .i64 t.at_]
def toksCells (l : List Tok) : List Value := l.flatMap tokCells
theorem toksCells_snoc (l : List Tok) (t : Tok) : toksCells (l ++ [t]) = toksCells l ++ tokCells t := by simp [toksCells]
theorem info_tok : (Tryd.prog.info? 34).map (fun i => (i.zero, i.size, i.bytes)) = some (some (.agg #[.int .i64 0, .string ⟨#[]⟩, .int .i64 0, .int .i64 0]), 4, 40) := by kernel_rfl
def AtLex (r : Except (Int × Int) (List Tok)) (w : World) (e : Ending) (w' : World) : Prop := Below w.heap.size w w' ∧
  match r with
  | .ok l => ∃ v base, e = .returned (.tuple #[v, .int .i64 0, .int .i64 0]) ∧ w.heap.size ≤ base ∧ w'.ownsRow base 34 4 v l.length (toksCells l)
  | .error (a, c) => e = .returned (.tuple #[.slice none 0 0, .int .i64 a, .int .i64 c])
theorem blank_int (c : UInt8) : isBlank c = ((((c.toNat : Nat) : Int) == 9) || (((c.toNat : Nat) : Int) == 10) || (((c.toNat : Nat) : Int) == 13) || (((c.toNat : Nat) : Int) == 32)) := by
  have h : ∀ n : Nat, (c.toNat == n) = (((c.toNat : Nat) : Int) == (n : Int)) := fun n => by
    rw [Bool.eq_iff_iff, beq_iff_eq, beq_iff_eq]; omega
  unfold isBlank
  rw [h 9, h 10, h 13, h 32]; rfl
theorem own_below {w w1 : World} {base : Nat} {e : TypeId} {size n : Nat} {v : Value} {xs : List Value} (h : w.ownsRow base e size v n xs) (hb : Below w.heap.size w w1) : w1.ownsRow base e size v n xs :=
  h.kept (row := none) ⟨hb.os, hb.tape, hb.output, hb.size, fun i hi _ => hb.block i hi⟩ (by cases v.ownBlock <;> simp)
theorem own_base {w : World} {base : Nat} {e : TypeId} {size n : Nat} {v : Value} {xs : List Value} (h : w.ownsRow base e size v n xs) (k : Nat) (hk : v.ownBlock = some k) : base ≤ k := by
  rcases h.2 with ⟨rfl, _⟩ | ⟨g, cap, cur, rfl, hb, _⟩
  · simp [Value.ownBlock] at hk
  · have : g = k := by simpa [Value.ownBlock] using hk
    omega
theorem add_plain (g j : Nat) : (⟨g, 0, none⟩ : Addr).add j = ⟨g, j, none⟩ := by unfold Addr.add; split <;> simp_all
theorem new_cells {W : World} {arr : Array Value} {T : TypeId} {b : Nat} (hb : W.heap.size = b) {j : Nat} {u : Value} (h : arr[j]? = some u) : (W.alloc (.cells arr T)).cell? ((⟨b, 0, none⟩ : Addr).add j) = some u := by
  subst hb
  rw [add_plain, cell_of_block (alloc_block _ _)]; exact h
theorem tok_one (t : Tok) : ∀ u ∈ tokCells t, u.oneCell' = true := by
  intro u hu
  simp only [tokCells, List.mem_cons, List.not_mem_nil, or_false] at hu
  rcases hu with rfl | rfl | rfl | rfl <;> rfl
theorem prefix_bool (s : ByteArray) (k : Nat) (h : k < s.size) : [40, 42].isPrefixOf (s[k] :: s.data.toList.drop (k + 1)) = decide (s.data.toList[k]? = some 40 ∧ s.data.toList[k + 1]? = some 42) := by
  have e0 : s.data.toList[k]? = some s[k] := by rw [List.getElem?_eq_getElem (by rw [len_list]; exact h), get_list s k h]
  have e1 : s.data.toList[k + 1]? = (s.data.toList.drop (k + 1))[0]? := by rw [List.getElem?_drop]
  rw [e0, e1]
  generalize s.data.toList.drop (k + 1) = l
  generalize s[k] = x
  match l with
  | [] => rw [Bool.eq_iff_iff]; simp [List.isPrefixOf]
  | y :: l =>
    show ((40 == x) && ((42 == y) && true)) = decide (some x = some 40 ∧ some y = some 42)
    by_cases h1 : x = 40
    · by_cases h2 : y = 42
      · subst h1; subst h2; rfl
      · have e : ((42 : UInt8) == y) = false := by simpa using fun h => h2 h.symm
        have f : ¬ (some x = some (40 : UInt8) ∧ some y = some (42 : UInt8)) := fun h => h2 (by injection h.2)
        rw [e, decide_eq_false f]; simp
    · have e : ((40 : UInt8) == x) = false := by simpa using fun h => h1 h.symm
      have f : ¬ (some x = some (40 : UInt8) ∧ some y = some (42 : UInt8)) := fun h => h1 (by injection h.1)
      rw [e, decide_eq_false f]; rfl
set_option maxRecDepth 100000 in
set_option maxHeartbeats 4000000 in
theorem Lex_any (s : ByteArray) (w : World) (hv : Vars w) (hs : s.size ≤ 140737488351232) (r : Except (Int × Int) (List Tok)) (hres : lex s.data.toList = r) :
    Calls Tryd.prog 11 #[.string s] w (AtLex r w) := by
  have HV := Lib.hid hv
  have HRES := Lib.hid hres
  clear hv hres
  obtain ⟨i0, hi, hz0, hz1, hz2⟩ := info_parts info_tok
  have HI := Lib.hid hi
  have HZ0 := Lib.hid hz0
  have HZ1 := Lib.hid hz1
  have HZ2 := Lib.hid hz2
  clear hi hz0 hz1 hz2
  by_cases hlong : (16384 : Int) < s.size
  · go_enter Tryd.func11, Tryd.ntmps11
    go_wp2_with fail
    go_ret3
    refine ⟨Below.refl _ _, ?_⟩
    rw [← HRES.out, lex, if_pos (by rw [len_list]; omega)]
    rfl
  · have hrest : Rest s.data.toList 0 [] r := by
      rw [← HRES.out, lex, if_neg (by rw [len_list]; omega)]
      rfl
    have HREST := Lib.hid hrest
    clear hrest
    go_enter Tryd.func11, Tryd.ntmps11
    go_wp2_with fail
    refine (begun_any _ HV.out.space).mono ?_
    rintro e w1 ⟨x, rfl, hx, B1⟩
    have HX := Lib.hid hx
    clear hx
    go_wp2_with fail
    go_loopw [6, 7] (fun v i wr => ∃ (k : Nat) (acc : List Tok) (A : Option Addr) (C : Nat), v = .slice A acc.length C ∧ k ≤ s.size ∧ i = .int .i64 k ∧ acc.length ≤ 6000 ∧ Aside (wr.ownsRow w1.heap.size 34 4 (.slice A acc.length C) acc.length (toksCells acc)) ∧ Hid (Rest (s.data.toList.drop k) k acc r) ∧ Below w1.heap.size w1 wr) (fun _ i _ => s.size - (intOf i).toNat)
    case atStart => exact ⟨0, [], none, 0, rfl, by omega, rfl, by simp, ⟨by simp [toksCells], .inl ⟨rfl, rfl⟩⟩, HREST, Below.refl _ _⟩
    case round =>
      obtain ⟨k, acc, A, C, rfl, hk, rfl, hacc, hown, HR, hB⟩ := hrel
      by_cases hlt : k < s.size
      · have hdr := drop_cons s k hlt
        have HDR := Lib.hid hdr
        clear hdr
        have hcb : ((s[k].toNat : Nat) : Int) < 256 := by have := UInt8.toNat_lt s[k]; omega
        by_cases hbl : isBlank s[k] = true
        · have h0 := HR.out
          rw [HDR.out] at h0
          have HR2 := Lib.hid (h0.blank hbl)
          clear h0
          rw [blank_int] at hbl
          simp only [Bool.or_eq_true] at hbl
          rcases hbl with ((hq | hq) | hq) | hq
          · have hq : (((s[k].toNat : Nat) : Int) == 9) = true := by simpa using hq
            go_wp2_with fail
            go_roundw
            case rel => exact ⟨k + 1, acc, A, C, rfl, by omega, by go_num, hacc, hown, HR2, hB⟩
            case measure => simp [intOf]; omega
          · have hq : (((s[k].toNat : Nat) : Int) == 10) = true := by simpa using hq
            have e9 : (((s[k].toNat : Nat) : Int) == 9) = false := by
              have : ((s[k].toNat : Nat) : Int) = 10 := by simpa using hq
              rw [beq_eq_false_iff_ne]; omega
            go_wp2_with fail
            go_roundw
            case rel => exact ⟨k + 1, acc, A, C, rfl, by omega, by go_num, hacc, hown, HR2, hB⟩
            case measure => simp [intOf]; omega
          · have hq : (((s[k].toNat : Nat) : Int) == 13) = true := by simpa using hq
            have e9 : (((s[k].toNat : Nat) : Int) == 9) = false := by
              have : ((s[k].toNat : Nat) : Int) = 13 := by simpa using hq
              rw [beq_eq_false_iff_ne]; omega
            have e10 : (((s[k].toNat : Nat) : Int) == 10) = false := by
              have : ((s[k].toNat : Nat) : Int) = 13 := by simpa using hq
              rw [beq_eq_false_iff_ne]; omega
            go_wp2_with fail
            go_roundw
            case rel => exact ⟨k + 1, acc, A, C, rfl, by omega, by go_num, hacc, hown, HR2, hB⟩
            case measure => simp [intOf]; omega
          · have hq : (((s[k].toNat : Nat) : Int) == 32) = true := by simpa using hq
            have e9 : (((s[k].toNat : Nat) : Int) == 9) = false := by
              have : ((s[k].toNat : Nat) : Int) = 32 := by simpa using hq
              rw [beq_eq_false_iff_ne]; omega
            have e10 : (((s[k].toNat : Nat) : Int) == 10) = false := by
              have : ((s[k].toNat : Nat) : Int) = 32 := by simpa using hq
              rw [beq_eq_false_iff_ne]; omega
            have e13 : (((s[k].toNat : Nat) : Int) == 13) = false := by
              have : ((s[k].toNat : Nat) : Int) = 32 := by simpa using hq
              rw [beq_eq_false_iff_ne]; omega
            go_wp2_with fail
            go_roundw
            case rel => exact ⟨k + 1, acc, A, C, rfl, by omega, by go_num, hacc, hown, HR2, hB⟩
            case measure => simp [intOf]; omega
        · have hbl' : isBlank s[k] = false := by simpa using hbl
          have HBL := Lib.hid hbl'
          rw [blank_int] at hbl'
          simp only [Bool.or_eq_false_iff] at hbl'
          obtain ⟨⟨⟨e9, e10⟩, e13⟩, e32⟩ := hbl'
          clear hbl
          have hxe : (s.extract k s.size).data.toList = s[k] :: s.data.toList.drop (k + 1) := by rw [Lib.extract_to_end]; exact HDR.out
          have HXE := Lib.hid hxe
          have hxs : (s.extract k s.size).size ≤ 140737488351232 := by rw [ByteArray.size_extract]; omega
          have hxp : 0 < (s.extract k s.size).size := by rw [ByteArray.size_extract]; omega
          have hrl : Rest (s[k] :: s.data.toList.drop (k + 1)) k acc r := by rw [← HDR.out]; exact HR.out
          have HRL := Lib.hid hrl
          have hlen : (s[k] :: s.data.toList.drop (k + 1)).length = s.size - k := by rw [← HDR.out, List.length_drop, len_list]
          have HLEN := Lib.hid hlen
          clear hxe hrl hlen
          go_wp2_with fail
          refine (prefix_two s k 40 42 _).mono ?_
          rintro e w2 ⟨rfl, rfl⟩
          rw [← prefix_bool s k hlt]
          cases hp : [40, 42].isPrefixOf (s[k] :: s.data.toList.drop (k + 1)) with
          | true =>
            have HP := Lib.hid hp
            clear hp
            go_wp2_with fail
            refine (comment_any _ _ hxs).mono ?_
            rintro e w2 ⟨rfl, B2⟩
            rw [HXE.out]
            cases hc : cmt (s[k] :: s.data.toList.drop (k + 1)) 0 with
            | none =>
              have hr := HRL.out.cmtBad HBL.out HP.out hc
              have HRR := Lib.hid hr
              clear hr hc
              rw [show (((none : Option Nat).getD 0 : Nat) : Int) = 0 from rfl]
              go_wp2_with fail
              go_ret3
              refine ⟨bthen (bthen B1 hB) B2, ?_⟩
              rw [HRR.out]
              rfl
            | some n =>
              have hn := cmt_bound _ _ _ hc
              rw [HLEN.out] at hn
              have hr := HRL.out.cmtOk HBL.out HP.out hc
              rw [← HDR.out, List.drop_drop] at hr
              have HRR := Lib.hid hr
              have hn0 : ((n : Int) == 0) = false := by rw [beq_eq_false_iff_ne]; omega
              clear hr hc
              rw [show (((some n : Option Nat).getD 0 : Nat) : Int) = n from rfl]
              go_wp2_with fail
              go_roundw
              case rel => exact ⟨k + n, acc, A, C, rfl, by omega, by go_num, hacc, ⟨own_below hown.out B2⟩, HRR, bthen hB B2⟩
              case measure => simp [intOf]; omega
          | false =>
            have HP := Lib.hid hp
            clear hp
            obtain ⟨r1, hr1⟩ : ∃ r1, tok (s[k] :: s.data.toList.drop (k + 1)) = r1 := ⟨_, rfl⟩
            have HT := Lib.hid hr1
            have hfine := tok_fine (s[k] :: s.data.toList.drop (k + 1))
            rw [hr1, TokFine, HLEN.out] at hfine
            obtain ⟨hf1, hf2⟩ := hfine
            go_wp2_with fail
            refine (token_any x (s.extract k s.size) _ (HX.out.stays hB) (HV.out.stays (bthen B1 hB)) hxs hxp r1 (by rw [HXE.out]; exact hr1)).mono ?_
            clear hr1
            rintro e w2 ⟨B2, hw⟩
            cases r1 with
            | error c =>
              have hc := hf2 c rfl
              have hr := HRL.out.bad HBL.out HP.out HT.out
              have HRR := Lib.hid hr
              have hc0 : (c == 0) = false := by rw [beq_eq_false_iff_ne]; omega
              have hc1 : (c != 0) = true := by rw [bne_iff_ne]; omega
              clear hr hc hf1 hf2
              obtain ⟨kk, y, mm, aa, nn, rfl⟩ := hw
              go_wp2_with fail
              go_ret3
              refine ⟨(bthen (bthen B1 hB) B2).alloc (bthen (bthen B1 hB) B2).size _, ?_⟩
              rw [HRR.out]
              rfl
            | ok tn =>
              obtain ⟨⟨tk, tx, tn, ta⟩, n⟩ := tn
              obtain ⟨hn1, hn2, hta⟩ := hf1 _ _ rfl
              clear hf1 hf2
              simp only at hw
              subst hw
              by_cases h6 : acc.length = 6000
              · have hr := HRL.out.many HBL.out HP.out HT.out h6
                have HRR := Lib.hid hr
                have h6b : ((acc.length : Int) == 6000) = true := by rw [beq_iff_eq]; omega
                have H6 := Lib.hid h6
                clear hr h6
                go_wp2_with fail
                go_ret3
                refine ⟨(bthen (bthen B1 hB) B2).alloc (bthen (bthen B1 hB) B2).size _, ?_⟩
                rw [HRR.out]
                rfl
              · have hr := HRL.out.tok HBL.out HP.out HT.out h6
                rw [← HDR.out, List.drop_drop] at hr
                have HRR := Lib.hid hr
                have h6b : ((acc.length : Int) == 6000) = false := by rw [beq_eq_false_iff_ne]; omega
                have hown2 : Aside (w2.ownsRow w1.heap.size 34 4 (.slice A acc.length C) acc.length (toksCells acc)) := ⟨own_below hown.out B2⟩
                have hb2 : w1.heap.size ≤ w2.heap.size := (bthen hB B2).size
                have hbel2 : Below w1.heap.size w1 w2 := bthen hB B2
                have H6 := Lib.hid h6
                clear hr h6
                go_wp2_with (at_builtin; refine wpList_append_own _ rfl _ _ 23 rfl w1.heap.size 34 i0 _ 4 40 Tryd.underlying23 HI.out HZ0.out HZ1.out HZ2.out rfl (by decide) _ acc.length _ rfl ((hown2.out.alloc _).alloc _) ⟨w2.heap.size + 1, 0, none⟩ 1 1 (tokCells ⟨tk, tx, tn, k⟩) rfl rfl ?c1 ?c2 ?c3 ?c4 ?c5 ?_)
                case c1 => exact fun j u hu => new_cells (by simp) (by simpa [tokCells] using hu)
                case c2 => exact tok_one _
                case c3 => unfold maxLen; omega
                case c4 => omega
                case c5 => simp; omega
                intro v3 w3 hown3 hgrow hiff
                clear hiff
                have hbel3 : Below w1.heap.size w1 w3 := by
                  refine Below.grown ?_ hgrow ?_ (fun b hb => own_base hown2.out b hb)
                  · exact (hbel2.alloc hbel2.size _).alloc (by simp; omega) _
                  · simp; omega
                obtain ⟨g, C3, rfl⟩ : ∃ g C3, v3 = .slice (some g) (acc.length + 1) C3 := by
                  rcases hown3.2 with ⟨_, h⟩ | ⟨g, cap, cur, h, _⟩
                  · omega
                  · exact ⟨_, _, h⟩
                have hown4 := Aside.mk hown3
                clear hown3 hgrow hown2 hown
                go_wp2_with fail
                go_roundw
                case rel =>
                  have hl : (acc ++ [(⟨tk, tx, tn, k⟩ : Tok)]).length = acc.length + 1 := by simp
                  refine ⟨k + n, acc ++ [⟨tk, tx, tn, k⟩], some g, C3, by rw [hl], by omega, by go_num, ?_, ?_, HRR, hbel3⟩
                  · rw [hl]; have := H6.out; omega
                  rw [hl, toksCells_snoc]
                  exact hown4
                case measure => simp [intOf]; omega
      · go_wp2_with fail
        go_ret3
        refine ⟨bthen B1 hB, ?_⟩
        have h0 := HR.out
        rw [drop_nil s k (by omega)] at h0
        rw [h0.nil]
        exact ⟨_, _, rfl, B1.size, hown.out⟩
end Go.Proofs.YtkieeaajhomdoaaDoor
