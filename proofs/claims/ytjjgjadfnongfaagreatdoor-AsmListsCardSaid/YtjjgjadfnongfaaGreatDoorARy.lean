import Derived.Test.YtjjgjadfnongfaaGreatDoorARx
import Derived.Test.YtjjgjadfnongfaaGreatDoorARLine
import Derived.Lib.AppendStr
set_option linter.unusedVariables false
set_option linter.unusedSimpArgs false
namespace Go.Proofs.YtjjgjadfnongfaaGreatDoor
open Go.RowKit
/-! The reference's Lines. -/
set_option maxHeartbeats 4000000 in
set_option maxRecDepth 100000 in
theorem r_Lines (v : Value) (l : List Int) (w : World) (hr : ReadsWs w v l) (hl : l.length ≤ 100000) (hx : ∀ x ∈ l, 0 ≤ x ∧ x ≤ 4294967295) :
    Calls Tryz.prog 12 #[v] w (Gives (.string ⟨(linesS l).toArray⟩) w) := by
  obtain ⟨i0, hi, hz0, hz1, hz2⟩ := info_parts info_u8
  have HI := Lib.hid hi
  have HZ0 := Lib.hid hz0
  have HZ1 := Lib.hid hz1
  have HZ2 := Lib.hid hz2
  clear hi hz0 hz1 hz2
  have HR := Aside.mk hr
  have HX := Aside.mk hx
  clear hr hx
  obtain ⟨A, C, rfl, hcs⟩ := HR.out
  obtain ⟨n, hn⟩ : ∃ n, l.length = n := ⟨_, rfl⟩
  rw [hn]
  rw [hn] at hl
  have HCS := Aside.mk hcs
  have HN := Lib.hid hn
  clear hcs hn
  go_enter Tryz.func12, Tryz.ntmps12
  go_wp2_with fail
  go_loopw [3, 4] (fun v i wr => ∃ (k z : Nat) (R : Option Addr) (D : Nat), k ≤ n ∧ z ≤ 100000000 ∧ v = .slice R z D ∧ i = .int .i64 k ∧ Aside (wr.ownsRow w.heap.size 5 1 (.slice R z D) z (Lib.byteCells (linesS (l.take k)))) ∧ Aside (Below w.heap.size w wr)) (fun _ i _ => n - (intOf i).toNat)
  case atStart => exact ⟨0, 0, none, 0, by omega, by omega, rfl, rfl, ⟨World.ownsRow_nil _ _ _ _⟩, ⟨Below.refl _ _⟩⟩
  case round =>
    obtain ⟨k, z, R, D, hk, hz, rfl, rfl, hown, hbw⟩ := hrel
    by_cases hlt : k < n
    · obtain ⟨b, o, rfl, hc⟩ := HCS.out (by rw [HN.out]; omega)
      have hlk : k < l.length := by rw [HN.out]; exact hlt
      obtain ⟨x, hxx⟩ : ∃ x, l[k]'hlk = x := ⟨_, rfl⟩
      have hcell0 := hc k hlk
      rw [hxx] at hcell0
      have hcell : wr.cell? ⟨b, o + k, none⟩ = some (.int .u32 x) := (hbw.out.cell (World.block_lt_of_cell? w _ hcell0)).trans hcell0
      have HC := Aside.mk hcell
      obtain ⟨x0, x1⟩ := HX.out x (by rw [← hxx]; exact List.getElem_mem _)
      have hsn : l.take (k + 1) = l.take k ++ [x] := by
        rw [List.take_succ_eq_append_getElem hlk, hxx]
      have HSN := Lib.hid hsn
      have hzl : z = (linesS (l.take k)).length := by
        have := hown.out.1
        rw [Lib.byteCells_length] at this
        omega
      have hlen := linesS_len (l.take k) (fun y hy => HX.out y (List.mem_of_mem_take hy))
      rw [List.length_take, ← hzl] at hlen
      have hz2 : z ≤ 3100000 := by omega
      have HX0 := Lib.hid x0
      have HX1 := Lib.hid x1
      clear hxx hcell0 hsn hlen hc hzl hz
      go_wp2_with fail
      refine (rr_Line x _ HX0.out HX1.out).mono ?_
      rintro e w4 ⟨rfl, hB4⟩
      have hown4 : Aside (w4.ownsRow w.heap.size 5 1 (.slice R z D) z (Lib.byteCells (linesS (l.take k)))) := ⟨own_below hown.out hB4⟩
      have hbw4 := Aside.mk (bthen hbw.out hB4)
      have hcell4 : w4.cell? ⟨b, o + k, none⟩ = some (.int .u32 x) := (hB4.cell (World.block_lt_of_cell? wr _ HC.out)).trans HC.out
      clear hB4 hown hbw hcell HC
      rcases decW_cases x with ⟨hg, -, hlw⟩ | ⟨hg, -, hlw⟩
      · have hls : lineS x = lineI (insOf x) := by unfold lineS; rw [hlw]; rfl
        rw [hlw]
        have HLS := Lib.hid hls
        clear hg hlw hls hcell4
        obtain ⟨S, hS⟩ : ∃ S : ByteArray, (⟨(lineI (insOf x)).toArray⟩ : ByteArray) = S := ⟨_, rfl⟩
        rw [hS]
        have HS := Lib.hid hS
        clear hS
        have hsc : Lib.strCells S = Lib.byteCells (lineS x) := by rw [HLS.out, ← byteCells_str, HS.out]
        have HSC := Lib.hid hsc
        clear hsc
        have hSz : S.size ≤ 30 := by
          have h1 := lineS_len _ HX0.out HX1.out
          have h2 := congrArg List.length HSC.out
          rw [Lib.strCells_length, Lib.byteCells_length] at h2
          omega
        go_wp2_with (at_builtin; refine Lib.wpList_append_own_string _ rfl _ _ 57 9 rfl w.heap.size 5 i0 Tryz.underlying57 Tryz.underlying9 HI.out HZ0.out HZ1.out HZ2.out _ z _ rfl hown4.out S rfl ?c3 ?c4 ?c5 ?_)
        case c3 => unfold maxLen; omega
        case c4 => omega
        case c5 => exact hbw4.out.size
        intro v6 w6 hown6 hgrow6 _
        have hbw6 := Aside.mk (Below.grown hbw4.out hgrow6 hbw4.out.size (fun b hb => own_base hown4.out b hb))
        obtain ⟨R6, D6, rfl⟩ := own_slice hown6
        have HOWN6 := Aside.mk hown6
        clear hown6 hgrow6 hown4 hbw4
        go_wp2_with (at_builtin; refine wpList_append_own _ rfl _ _ 57 rfl w.heap.size 5 i0 _ 1 1 Tryz.underlying57 HI.out HZ0.out HZ1.out HZ2.out rfl (by decide) _ (z + S.size) _ rfl (HOWN6.out.alloc _) ⟨w6.heap.size, 0, none⟩ 1 1 [.int .u8 10] rfl rfl ?c1 ?c2 ?c3 ?c4 ?c5 ?_)
        case c1 => exact new_cells rfl
        case c2 => intro u hu; simp at hu; subst hu; rfl
        case c3 => unfold maxLen; omega
        case c4 => omega
        case c5 => have := hbw6.out.size; simp; omega
        intro v7 w7 hown7 hgrow7 _
        have hB7 : Below w.heap.size w w7 := by
          refine Below.grown ?_ hgrow7 ?_ (fun b hb => own_base HOWN6.out b hb)
          · exact hbw6.out.alloc hbw6.out.size _
          · have := hbw6.out.size; simp; omega
        obtain ⟨R7, D7, rfl⟩ := own_slice hown7
        have HOWN7 := Aside.mk hown7
        have HB7 := Aside.mk hB7
        clear hown7 hgrow7 HOWN6 hbw6 hB7
        go_wp2_with fail
        go_roundw
        case rel =>
          refine ⟨k + 1, z + S.size + 1, R7, D7, by omega, by omega, by first | rfl | go_num, by go_num, ⟨?_⟩, HB7⟩
          have h7 := HOWN7.out
          rw [HSC.out] at h7
          rw [HSN.out, linesS_snoc, Lib.byteCells_append, Lib.byteCells_append]
          exact h7
        case measure => simp [intOf]; omega
      · obtain ⟨m, rfl⟩ : ∃ m : Nat, x = m := ⟨x.toNat, by omega⟩
        have hls : lineS (m : Int) = 35 :: hexN 8 m := by
          unfold lineS; rw [hlw]
          exact rawL_hex m (by omega)
        rw [hlw]
        have HLS := Lib.hid hls
        clear hg hlw hls
        go_wp2_with fail
        refine (r_Hex m _ HX1.out).mono ?_
        rintro e w5 ⟨rfl, hB5⟩
        have hown5 : Aside (w5.ownsRow w.heap.size 5 1 (.slice R z D) z (Lib.byteCells (linesS (l.take k)))) := ⟨own_below hown4.out hB5⟩
        have hbw5 := Aside.mk (bthen hbw4.out hB5)
        clear hB5 hcell4 hown4 hbw4
        obtain ⟨H, hH⟩ : ∃ S : ByteArray, (⟨(hexN 8 m).toArray⟩ : ByteArray) = S := ⟨_, rfl⟩
        obtain ⟨S, hS⟩ : ∃ S : ByteArray, (⟨#[35]⟩ : ByteArray) ++ H = S := ⟨_, rfl⟩
        have hHz : H.size = 8 := by rw [← hH]; simp [ByteArray.size, hexN_len]
        have hHz1 : H.size ≤ 8 := Nat.le_of_eq hHz
        rw [hH]
        have hsc : Lib.strCells S = Lib.byteCells (lineS (m : Int)) := by
          rw [HLS.out, ← hS, ← hH]
          simp [Lib.strCells, Lib.byteCells]
        have HSC := Lib.hid hsc
        clear hH hHz hsc
        have hSz : S.size ≤ 30 := by
          have h1 := lineS_len _ HX0.out HX1.out
          have h2 := congrArg List.length HSC.out
          rw [Lib.strCells_length, Lib.byteCells_length] at h2
          omega
        go_wp2_with (at_builtin; refine Lib.wpList_append_own_string _ rfl _ _ 57 9 rfl w.heap.size 5 i0 Tryz.underlying57 Tryz.underlying9 HI.out HZ0.out HZ1.out HZ2.out _ z _ rfl hown5.out S (by first | rfl | exact congrArg Value.string hS) ?c3 ?c4 ?c5 ?_)
        case c3 => unfold maxLen; omega
        case c4 => omega
        case c5 => exact hbw5.out.size
        intro v6 w6 hown6 hgrow6 _
        have hbw6 := Aside.mk (Below.grown hbw5.out hgrow6 hbw5.out.size (fun b hb => own_base hown5.out b hb))
        obtain ⟨R6, D6, rfl⟩ := own_slice hown6
        have HOWN6 := Aside.mk hown6
        clear hown6 hgrow6 hown5 hbw5
        go_wp2_with (at_builtin; refine wpList_append_own _ rfl _ _ 57 rfl w.heap.size 5 i0 _ 1 1 Tryz.underlying57 HI.out HZ0.out HZ1.out HZ2.out rfl (by decide) _ (z + S.size) _ rfl (HOWN6.out.alloc _) ⟨w6.heap.size, 0, none⟩ 1 1 [.int .u8 10] rfl rfl ?c1 ?c2 ?c3 ?c4 ?c5 ?_)
        case c1 => exact new_cells rfl
        case c2 => intro u hu; simp at hu; subst hu; rfl
        case c3 => unfold maxLen; omega
        case c4 => omega
        case c5 => have := hbw6.out.size; simp; omega
        intro v7 w7 hown7 hgrow7 _
        have hB7 : Below w.heap.size w w7 := by
          refine Below.grown ?_ hgrow7 ?_ (fun b hb => own_base HOWN6.out b hb)
          · exact hbw6.out.alloc hbw6.out.size _
          · have := hbw6.out.size; simp; omega
        obtain ⟨R7, D7, rfl⟩ := own_slice hown7
        have HOWN7 := Aside.mk hown7
        have HB7 := Aside.mk hB7
        clear hown7 hgrow7 HOWN6 hbw6 hB7
        go_wp2_with fail
        go_roundw
        case rel =>
          refine ⟨k + 1, z + S.size + 1, R7, D7, by omega, by omega, by first | rfl | go_num, by go_num, ⟨?_⟩, HB7⟩
          have h7 := HOWN7.out
          rw [HSC.out] at h7
          rw [HSN.out, linesS_snoc, Lib.byteCells_append, Lib.byteCells_append]
          exact h7
        case measure => simp [intOf]; omega
    · have hkn : k = n := by omega
      subst hkn
      have htk : l.take k = l := List.take_of_length_le (Nat.le_of_eq HN.out)
      have hcv := own_bytes_string (P := Tryz.prog) (src := 57) (dst := 9) Tryz.underlying57 Tryz.underlying5 Tryz.underlying9 hown.out
      rw [htk] at hcv
      have HB := Aside.mk hbw.out
      clear hown hbw htk
      go_wp2_with fail
      go_ret
      exact ⟨rfl, HB.out⟩
end Go.Proofs.YtjjgjadfnongfaaGreatDoor
