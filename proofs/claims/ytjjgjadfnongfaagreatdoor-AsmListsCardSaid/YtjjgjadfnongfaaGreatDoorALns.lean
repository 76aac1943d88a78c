import Derived.Test.YtjjgjadfnongfaaGreatDoorALns0
set_option linter.unusedVariables false
set_option linter.unusedSimpArgs false
namespace Go.Proofs.YtjjgjadfnongfaaGreatDoor
open Go.RowKit
/-! asm.Lines. -/
set_option maxHeartbeats 4000000 in
set_option maxRecDepth 100000 in
theorem p_Lines (v : Value) (l : List Int) (w : World) (hr : ReadsWs w v l) (hv : VarsB w) (hl : l.length ≤ 100000) (hx : ∀ x ∈ l, 0 ≤ x ∧ x ≤ 4294967295) :
    Calls Tryz.prog 11 #[v] w (Gives (.string ⟨(linesS l).toArray⟩) w) := by
  have HV := Aside.mk hv
  have HR := Aside.mk hr
  have HX := Aside.mk hx
  clear hv hr hx
  obtain ⟨A, C, rfl, hcs⟩ := HR.out
  obtain ⟨n, hn⟩ : ∃ n, l.length = n := ⟨_, rfl⟩
  rw [hn]
  rw [hn] at hl
  have HCS := Aside.mk hcs
  have HN := Lib.hid hn
  clear hcs hn
  go_enter Tryz.func11, Tryz.ntmps11
  go_wp2_with fail
  refine (named_any _ HV.out.base.space).mono ?_
  rintro e w1 ⟨nv, rfl, hnm, hB1⟩
  obtain ⟨P, Bs, Bn, g1, C1, g2, C2, rfl, hm⟩ := namer_of hnm
  have HM := Aside.mk hm
  have HB1 := Aside.mk hB1
  have HV1 := Aside.mk (HV.out.stays hB1)
  clear hnm hm hB1
  obtain ⟨B, hB⟩ : ∃ B, w1.heap.size = B := ⟨_, rfl⟩
  have hfr := Lib.IsBuilderF.of (Lib.fresh_isBuilder 59 5 w1)
  rw [hB] at hfr
  go_wp2_with fail
  generalize hW : World.alloc _ _ = W2
  have hfr2 : Lib.IsBuilderF 59 5 B B (Lib.byteCells []) W2 := by rw [← hW]; exact hfr
  have hB2 : Below B w1 W2 := by rw [← hW, ← hB]; exact ablow _ _
  have HF := Aside.mk hfr2
  have HB := Lib.hid hB
  have HB2 := Aside.mk hB2
  clear hfr hfr2 hW hB2 hB
  go_loopw [12] (fun i wr => ∃ (k : Nat), k ≤ n ∧ i = .int .i64 k ∧ Aside (Lib.IsBuilderF 59 5 B B (Lib.byteCells (linesS (l.take k))) wr) ∧ Aside (Below B w1 wr)) (fun i _ => n - (intOf i).toNat)
  case atStart => exact ⟨0, by omega, rfl, ⟨HF.out⟩, HB2⟩
  case round =>
    obtain ⟨k, hk, rfl, hbl, hbw⟩ := hrel
    by_cases hlt : k < n
    · obtain ⟨b, o, rfl, hc⟩ := HCS.out (by rw [HN.out]; omega)
      have hlk : k < l.length := by rw [HN.out]; exact hlt
      obtain ⟨x, hxx⟩ : ∃ x, l[k]'hlk = x := ⟨_, rfl⟩
      have hcell0 := hc k hlk
      rw [hxx] at hcell0
      have hbw1 : Below w1.heap.size w1 wr := by rw [HB.out]; exact hbw.out
      have hsub : Below w.heap.size w wr := bthen HB1.out hbw1
      have hcell : wr.cell? ⟨b, o + k, none⟩ = some (.int .u32 x) := (hsub.cell (World.block_lt_of_cell? w _ hcell0)).trans hcell0
      obtain ⟨x0, x1⟩ := HX.out x (by rw [← hxx]; exact List.getElem_mem _)
      have hsn : l.take (k + 1) = l.take k ++ [x] := by
        rw [List.take_succ_eq_append_getElem hlk, hxx]
      have hlen := linesS_len (l.take k) (fun y hy => HX.out y (List.mem_of_mem_take hy))
      rw [List.length_take] at hlen
      have HSN := Lib.hid hsn
      have HLEN := Lib.hid hlen
      have HNm := Aside.mk (HM.out.stays hbw1)
      have HVr := Aside.mk (HV.out.stays hsub)
      have HX0 := Lib.hid x0
      have HX1 := Lib.hid x1
      have hBr : B ≤ wr.heap.size := by rw [← HB.out]; exact hbw1.size
      have HBr := Lib.hid hBr
      clear hxx hcell0 hsub hsn hlen hc hbw1 hBr
      go_wp2_with fail
      refine (p_lineM P Bs Bn g1 C1 g2 C2 x _ HNm.out HVr.out.base HX0.out HX1.out).mono ?_
      rintro e w4 ⟨rfl, hB4⟩
      have hbl4 := Aside.mk (builder_stays hbl.out hB4)
      have hbw4 := Aside.mk (hbw.out.trans (hB4.mono HBr.out))
      have hVr4 := Aside.mk (HVr.out.stays hB4)
      have HBr4 := Lib.hid (Nat.le_trans HBr.out hB4.size)
      clear hB4
      rcases decW_cases x with ⟨hg, -, hlw⟩ | ⟨hg, -, hlw⟩
      · have hls : lineS x = lineI (insOf x) := by unfold lineS; rw [hlw]; rfl
        rw [hlw]
        have HLS := Lib.hid hls
        clear hg hlw hls
        obtain ⟨S, hS⟩ : ∃ S : ByteArray, (⟨(lineI (insOf x)).toArray⟩ : ByteArray) = S := ⟨_, rfl⟩
        rw [hS]
        have HS := Lib.hid hS
        clear hS
        go_wp2_with fail
        have hSz : S.size ≤ 30 := by
          have h1 := lineS_len x (by omega) HX1.out
          rw [HLS.out] at h1
          have h2 := congrArg ByteArray.size HS.out
          simp only [ByteArray.size, List.size_toArray] at h1 h2
          show S.data.size ≤ 30
          omega
        have hlb : (Lib.byteCells (linesS (l.take k))).length + S.size + 1 ≤ 140737488355328 := by
          rw [Lib.byteCells_length]
          have := HLEN.out
          omega
        have HSz := Lib.hid hSz
        have HLB := Lib.hid hlb
        clear hSz hlb
        refine (b_str B B _ S _ hbl4.out (by have := HLB.out; omega) HBr4.out).mono ?_
        rintro e w6 ⟨rfl, hbl6, hB6, hk6⟩
        have HBL6 := Aside.mk hbl6
        have hbw6 := Aside.mk (hbw4.out.trans hB6)
        have HBr6 := Lib.hid (Nat.le_trans HBr4.out hB6.size)
        clear hbl6 hB6 hk6
        go_wp2_with fail
        refine (b_byte B B _ 10 _ (.inr HBL6.out) (by rw [List.length_append, Lib.strCells_length]; exact HLB.out) HBr6.out).mono ?_
        rintro e w7 ⟨rfl, hbl7, hB7, hk7⟩
        have HBL7 := Aside.mk hbl7
        have hbw7 := Aside.mk (hbw6.out.trans hB7)
        clear hbl7 hB7 hk7
        go_wp2_with fail
        go_roundw
        case rel =>
          refine ⟨k + 1, by omega, by go_num, ⟨.inr ?_⟩, hbw7⟩
          have h7 := HBL7.out
          rw [HSN.out, linesS_snoc, HLS.out, Lib.byteCells_append, Lib.byteCells_append, ← byteCells_str, ← byteCells_str _, HS.out, ← List.append_assoc]
          exact h7
        case measure => simp [intOf]; omega
      · obtain ⟨m, rfl⟩ : ∃ m : Nat, x = m := ⟨x.toNat, by omega⟩
        have hls : lineS (m : Int) = rawL m := by unfold lineS; rw [hlw]; rfl
        rw [hlw]
        have HLS := Lib.hid hls
        clear hg hlw hls
        go_wp2_with fail
        refine (raw_any m _ hVr4.out HX1.out).mono ?_
        rintro e w5 ⟨rfl, hB5⟩
        have hbl5 := Aside.mk (builder_stays hbl4.out hB5)
        have hbw5 := Aside.mk (hbw4.out.trans (hB5.mono HBr4.out))
        have HBr5 := Lib.hid (Nat.le_trans HBr4.out hB5.size)
        clear hB5
        obtain ⟨S, hS⟩ : ∃ S : ByteArray, (⟨(rawL m).toArray⟩ : ByteArray) = S := ⟨_, rfl⟩
        rw [hS]
        have HS := Lib.hid hS
        clear hS
        go_wp2_with fail
        have hSz : S.size ≤ 30 := by
          have h1 := lineS_len (m : Int) (by omega) HX1.out
          rw [HLS.out] at h1
          have h2 := congrArg ByteArray.size HS.out
          simp only [ByteArray.size, List.size_toArray] at h1 h2
          show S.data.size ≤ 30
          omega
        have hlb : (Lib.byteCells (linesS (l.take k))).length + S.size + 1 ≤ 140737488355328 := by
          rw [Lib.byteCells_length]
          have := HLEN.out
          omega
        have HSz := Lib.hid hSz
        have HLB := Lib.hid hlb
        clear hSz hlb
        refine (b_str B B _ S _ hbl5.out (by have := HLB.out; omega) HBr5.out).mono ?_
        rintro e w6 ⟨rfl, hbl6, hB6, hk6⟩
        have HBL6 := Aside.mk hbl6
        have hbw6 := Aside.mk (hbw5.out.trans hB6)
        have HBr6 := Lib.hid (Nat.le_trans HBr5.out hB6.size)
        clear hbl6 hB6 hk6
        go_wp2_with fail
        refine (b_byte B B _ 10 _ (.inr HBL6.out) (by rw [List.length_append, Lib.strCells_length]; exact HLB.out) HBr6.out).mono ?_
        rintro e w7 ⟨rfl, hbl7, hB7, hk7⟩
        have HBL7 := Aside.mk hbl7
        have hbw7 := Aside.mk (hbw6.out.trans hB7)
        clear hbl7 hB7 hk7
        go_wp2_with fail
        go_roundw
        case rel =>
          refine ⟨k + 1, by omega, by go_num, ⟨.inr ?_⟩, hbw7⟩
          have h7 := HBL7.out
          rw [HSN.out, linesS_snoc, HLS.out, Lib.byteCells_append, Lib.byteCells_append, ← byteCells_str, ← byteCells_str _, HS.out, ← List.append_assoc]
          exact h7
        case measure => simp [intOf]; omega
    · have hkn : k = n := by omega
      subst hkn
      have htk : l.take k = l := List.take_of_length_le (Nat.le_of_eq HN.out)
      rw [htk] at hbl
      have HBL := Aside.mk hbl.out
      have hbw1 : Below w1.heap.size w1 wr := by rw [HB.out]; exact hbw.out
      have HBr := Lib.hid (show B ≤ wr.heap.size by rw [← HB.out]; exact hbw1.size)
      clear hbl htk
      clear hbw1
      go_wp2_with fail
      refine (Tryz.Builder_String_any_k B B _ _ HBL.out HBr.out).mono ?_
      rintro e w5 ⟨rfl, hbl5, hB5, hk5⟩
      have hbw5 := Aside.mk (hbw.out.trans hB5)
      clear hbl5 hB5 hk5
      go_wp2_with fail
      go_ret
      exact ⟨rfl, bthen HB1.out (by rw [HB.out]; exact hbw5.out)⟩
end Go.Proofs.YtjjgjadfnongfaaGreatDoor
