import Derived.Test.YtjjgjadfnongfaaGreatDoorANam1
import Derived.Outline
set_option linter.unusedVariables false
set_option linter.unusedSimpArgs false
namespace Go.Proofs.YtjjgjadfnongfaaGreatDoor
open Go.RowKit Go.Maps Go.MapKept Go.ChangeMaps
/-- The namer, under way, and rows of texts beside it. -/
def Und (base c P Bs Bn : Nat) (L : List (Nat × List (List UInt8))) (n : Nat) (w : World) : Prop :=
  ∃ vn vs, NamerAt base P vn vs Bs Bn (tableP.take n) w ∧ w.heap[c]? = some (.cells #[.pointer (some ⟨P, 0, none⟩)] 40 (0, 0)) ∧
    ∀ q ∈ L, w.heap[q.1]? = some (.cells (textsRow q.2) 9 (0, 0)) ∧ some q.1 ≠ vn.ownBlock ∧ some q.1 ≠ vs.ownBlock
theorem FrP.below {P Bs Bn : Nat} {rn rs : Option Nat} {w w1 : World} {B : Nat} (h : FrP P Bs Bn rn rs w w1) (hz : B ≤ w.heap.size) (h1 : B ≤ P) (h2 : B ≤ Bs) (h3 : B ≤ Bn) (h4 : ∀ k, rn = some k → B ≤ k) (h5 : ∀ k, rs = some k → B ≤ k) : Below B w w1 :=
  ⟨h.os, h.tape, h.output, h.size, fun b hb => h.block b (by omega) (by omega) (by omega) (by omega) (fun e => by have := h4 b e.symm; omega) (fun e => by have := h5 b e.symm; omega)⟩
theorem Und.row {base c P Bs Bn : Nat} {L : List (Nat × List (List UInt8))} {n : Nat} {w : World} (h : Und base c P Bs Bn L n w) {g : Nat} {l : List (List UInt8)} (hq : (g, l) ∈ L) : w.heap[g]? = some (.cells (textsRow l) 9 (0, 0)) := by
  obtain ⟨vn, vs, -, -, h3⟩ := h
  exact (h3 _ hq).1
theorem Und.ptr {base c P Bs Bn : Nat} {L : List (Nat × List (List UInt8))} {n : Nat} {w : World} (h : Und base c P Bs Bn L n w) : w.heap[c]? = some (.cells #[.pointer (some ⟨P, 0, none⟩)] 40 (0, 0)) := by
  obtain ⟨vn, vs, -, h2, -⟩ := h
  exact h2
theorem Und.sub {base c P Bs Bn : Nat} {L L' : List (Nat × List (List UInt8))} {n : Nat} {w : World} (h : Und base c P Bs Bn L n w) (hs : ∀ q ∈ L', q ∈ L) : Und base c P Bs Bn L' n w := by
  obtain ⟨vn, vs, h1, h2, h3⟩ := h
  exact ⟨vn, vs, h1, h2, fun q hq => h3 q (hs q hq)⟩
theorem Und.alloc {base c P Bs Bn : Nat} {L : List (Nat × List (List UInt8))} {n : Nat} {w : World} (h : Und base c P Bs Bn L n w) (l : List (List UInt8)) : Und base c P Bs Bn ((w.heap.size, l) :: L) n (w.alloc (.cells (textsRow l) 9)) := by
  obtain ⟨vn, vs, ⟨a1, a2, a3, a4, a5, a6, a7⟩, h2, h3⟩ := h
  refine ⟨vn, vs, ⟨b_alloc a1 _, a2.alloc _, a3.alloc _, b_alloc a4 _, b_alloc a5 _, a6, a7⟩, b_alloc h2 _, fun q hq => ?_⟩
  rcases List.mem_cons.1 hq with rfl | hq
  · exact ⟨b_new _ _, fun e => by have := (a2.lt _ e.symm).2; simp at this, fun e => by have := (a3.lt _ e.symm).2; simp at this⟩
  · obtain ⟨k1, k2, k3⟩ := h3 q hq
    exact ⟨b_alloc k1 _, k2, k3⟩
def AtUnd (base c P Bs Bn : Nat) (L : List (Nat × List (List UInt8))) (n : Nat) (w : World) (e : Ending) (w' : World) : Prop := e = .returned (.tuple #[]) ∧ Und base c P Bs Bn L n w' ∧ Below base w w'
theorem put_und (base c P Bs Bn : Nat) (L : List (Nat × List (List UInt8))) (n : Nat) (f o : Int) (u v : Bool) (S : ByteArray) (w : World) (hU : Und base c P Bs Bn L n w) (hx : ∃ nm, tableP[n]? = some (⟨f, o, u, v⟩, nm) ∧ S = ⟨nm.toArray⟩) (hb : base ≤ w.heap.size) :
    Calls Tryz.prog 33 #[.agg #[.int .i64 f, .int .i64 o, .bool u, .bool v], .string S, .pointer (some ⟨c, 0, none⟩)] w (AtUnd base c P Bs Bn L (n + 1) w) := by
  obtain ⟨vn, vs, hN, hC, hL⟩ := hU
  obtain ⟨nm, hx, rfl⟩ := hx
  have hlt : n < tableP.length := (List.getElem?_eq_some_iff.1 hx).1
  have hmem : ((⟨f, o, u, v⟩ : Shp), nm) ∈ tableP := List.mem_of_getElem? hx
  have h1 : (⟨f, o, u, v⟩ : Shp) ∉ (tableP.take n).map (·.1) := by
    rw [List.map_take]
    exact nin_take table_nodupS (by rw [List.getElem?_map, hx]; rfl)
  have h2 : nm ∉ (tableP.take n).map (·.2) := by
    rw [List.map_take]
    exact nin_take table_nodupN (by rw [List.getElem?_map, hx]; rfl)
  have hsn : tableP.take (n + 1) = tableP.take n ++ [(⟨f, o, u, v⟩, nm)] := by
    rw [List.take_succ_eq_append_getElem hlt]
    congr 2
    have := (List.getElem?_eq_some_iff.1 hx).2
    exact this
  have hl := table_len
  refine (put_any base c P vn vs Bs Bn (tableP.take n) f o u v nm w hN hC (by rw [List.length_take]; omega) (fun p hp => List.mem_of_mem_take hp) hmem h1 h2).mono ?_
  rintro e w' ⟨he, vn', vs', hN', hF, k1, k2⟩
  have r1 := hN.names.lt
  have r2 := hN.shapes.lt
  refine ⟨he, ⟨vn', vs', by rw [hsn]; exact hN', ?_, fun q hq => ?_⟩, hF.below hb hN.lo.1 hN.lo.2.1 hN.lo.2.2 (fun k hk => (r1 k hk).1) (fun k hk => (r2 k hk).1)⟩
  · rw [hF.block c (block_lt hC) (ne_of_obj hC hN.str (fun e => by cases e)) (ne_of_obj hC hN.byS (fun e => by cases e)) (ne_of_obj hC hN.byN (fun e => by cases e)) (row_ne hN.names hC (by intro cs e; cases e)) (row_ne hN.shapes hC (by intro cs e; cases e))]
    exact hC
  · obtain ⟨q1, q2, q3⟩ := hL q hq
    refine ⟨?_, ?_, ?_⟩
    · rw [hF.block q.1 (block_lt q1) (ne_of_obj q1 hN.str (fun e => by injection e with e1 e2 e3; exact absurd e2 (by decide))) (ne_of_obj q1 hN.byS (fun e => by cases e)) (ne_of_obj q1 hN.byN (fun e => by cases e)) q2 q3]
      exact q1
    · rcases k1 with k1 | ⟨g, k1, k1'⟩
      · rw [k1]; exact q2
      · rw [k1]; intro e; injection e with e; have := block_lt q1; omega
    · rcases k2 with k1 | ⟨g, k1, k1'⟩
      · rw [k1]; exact q3
      · rw [k1]; intro e; injection e with e; have := block_lt q1; omega
/-! ### asm.named -/
def marksT : List (List UInt8) := [[], [39], [34], [39, 34]]
def opsText : List UInt8 := [77, 79, 86, 32, 76, 83, 76, 32, 65, 83, 82, 32, 82, 79, 82, 32, 65, 78, 68, 32, 65, 78, 78, 32, 73, 79, 82, 32, 88, 79, 82, 32, 65, 68, 68, 32, 83, 85, 66, 32, 77, 85, 76, 32, 68, 73, 86]
def condsText : List UInt8 := [77, 73, 32, 69, 81, 32, 67, 83, 32, 86, 83, 32, 76, 83, 32, 76, 84, 32, 76, 69, 32, 84, 32, 80, 76, 32, 78, 69, 32, 67, 67, 32, 86, 67, 32, 72, 73, 32, 71, 69, 32, 71, 84, 32, 70]
set_option maxRecDepth 100000 in
theorem fields_ops : Lib.fields opsText = opsL := by decide +kernel
set_option maxRecDepth 100000 in
theorem fields_conds : Lib.fields condsText = condsL := by decide +kernel
theorem ops_ascii : ∀ b ∈ opsText, b.toNat < 128 := by decide
theorem conds_ascii : ∀ b ∈ condsText, b.toNat < 128 := by decide
def IsNamer (w : World) (v : Value) : Prop := ∃ base P vn vs Bs Bn, v = .pointer (some ⟨P, 0, none⟩) ∧ NamerAt base P vn vs Bs Bn tableP w
def AtNamed (w : World) (e : Ending) (w' : World) : Prop := ∃ v, e = .returned v ∧ IsNamer w' v ∧ Below w.heap.size w w'
theorem tab_reg : ∀ (k : Fin 12) (j : Fin 4), tableP[4 * k.1 + j.1]? = some (⟨0, (k.1 : Int), decide (((j.1 : Nat) : Int) % 2 = 1), decide ((1 : Int) < (j.1 : Nat))⟩, opsL[k.1]! ++ marksT[j.1]!) := by decide +kernel
theorem tab_mem : ∀ (j : Fin 4), tableP[48 + j.1]? = some (⟨2, 0, decide (((j.1 : Nat) : Int) % 2 = 1), decide ((1 : Int) < (j.1 : Nat))⟩, [[76, 68, 82], [83, 84, 82], [76, 68, 66], [83, 84, 66]][j.1]!) := by decide +kernel
theorem tab_jump : ∀ (k : Fin 16), tableP[52 + 2 * k.1]? = some (⟨3, (k.1 : Int), false, false⟩, [66, 46] ++ condsL[k.1]!) ∧ tableP[52 + 2 * k.1 + 1]? = some (⟨3, (k.1 : Int), false, true⟩, [66, 76, 46] ++ condsL[k.1]!) := by decide +kernel
theorem cat_mk {S N : ByteArray} {a b : List UInt8} (h1 : (⟨a.toArray⟩ : ByteArray) = S) (h2 : (⟨b.toArray⟩ : ByteArray) = N) : S ++ N = ⟨(a ++ b).toArray⟩ := by
  rw [← h1, ← h2]
  apply ByteArray.ext
  simp [ByteArray.data_append]
theorem reg_next {k j : Nat} (hk : k < 12) (hj : j < 4) {S N : ByteArray} (h1 : (⟨(opsL[k]!).toArray⟩ : ByteArray) = S) (h2 : (⟨(marksT[j]!).toArray⟩ : ByteArray) = N) :
    ∃ nm, tableP[4 * k + j]? = some (⟨0, k, ((j : Int) % 2 == 1), decide ((1 : Int) < j)⟩, nm) ∧ S ++ N = ⟨nm.toArray⟩ :=
  ⟨_, tab_reg ⟨k, hk⟩ ⟨j, hj⟩, cat_mk h1 h2⟩
def memT : List (List UInt8) := [[76, 68, 82], [83, 84, 82], [76, 68, 66], [83, 84, 66]]
theorem mem_next {j : Nat} (hj : j < 4) {S : ByteArray} (h1 : (⟨(memT[j]!).toArray⟩ : ByteArray) = S) :
    ∃ nm, tableP[48 + j]? = some (⟨2, 0, ((j : Int) % 2 == 1), decide ((1 : Int) < j)⟩, nm) ∧ S = ⟨nm.toArray⟩ :=
  ⟨_, tab_mem ⟨j, hj⟩, h1.symm⟩
theorem jump_next {k : Nat} (hk : k < 16) {S : ByteArray} (h1 : (⟨(condsL[k]!).toArray⟩ : ByteArray) = S) :
    (∃ nm, tableP[52 + 2 * k]? = some (⟨3, k, false, false⟩, nm) ∧ (⟨#[66, 46]⟩ : ByteArray) ++ S = ⟨nm.toArray⟩) ∧ (∃ nm, tableP[52 + 2 * k + 1]? = some (⟨3, k, false, true⟩, nm) ∧ (⟨#[66, 76, 46]⟩ : ByteArray) ++ S = ⟨nm.toArray⟩) :=
  ⟨⟨_, (tab_jump ⟨k, hk⟩).1, cat_mk rfl h1⟩, ⟨_, (tab_jump ⟨k, hk⟩).2, cat_mk rfl h1⟩⟩
set_option maxRecDepth 100000 in
set_option maxHeartbeats 1600000 in
theorem named_any (w : World) (htab : Lib.TabIs Tryz.prog w "strings.asciiSpace" .u8 Lib.asciiSpaceTab) : Calls Tryz.prog 15 #[] w (AtNamed w) := by
  have HT := Lib.hid htab
  clear htab
  have hmm := @run_makeMap Tryz.prog
  go_enter Tryz.func15, Tryz.ntmps15
  go_wp2_with fail
  refine (fields_any opsText opsL fields_ops 12 rfl (by decide) ops_ascii _ (Joins.tab_stays (g := 0) (by kernel_rfl) HT.out (((((Below.refl _ _).alloc (Nat.le_refl _) _).alloc (by simp) _).alloc (by simp; omega) _).alloc (by simp; omega) _) (Nat.le_refl _))).mono ?_
  rintro e w5 ⟨rfl, rfl⟩
  go_wp2_with fail
  obtain ⟨B, hB⟩ : ∃ B, w.heap.size = B := ⟨_, rfl⟩
  have a1 : (w.alloc (.map #[] 0)).heap.size = B + 1 := by simp [hB]
  have a2 : ((w.alloc (.map #[] 0)).alloc (.map #[] 0)).heap.size = B + 1 + 1 := by simp [hB]
  have a3 : (((w.alloc (.map #[] 0)).alloc (.map #[] 0)).alloc (.cells #[.slice none 0 0, .slice none 0 0, .map (some B), .map (some (B + 1))] 72)).heap.size = B + 1 + 1 + 1 := by simp [hB]
  have a4 : ((((w.alloc (.map #[] 0)).alloc (.map #[] 0)).alloc (.cells #[.slice none 0 0, .slice none 0 0, .map (some B), .map (some (B + 1))] 72)).alloc (.cells #[.pointer (some ⟨B + 1 + 1, 0, none⟩)] 40)).heap.size = B + 1 + 1 + 1 + 1 := by simp [hB]
  rw [hB]
  have hU0 : Und B (B + 1 + 1 + 1) (B + 1 + 1) B (B + 1) [(B + 1 + 1 + 1 + 1, opsL)] 0 (((((w.alloc (.map #[] 0)).alloc (.map #[] 0)).alloc (.cells #[.slice none 0 0, .slice none 0 0, .map (some B), .map (some (B + 1))] 72)).alloc (.cells #[.pointer (some ⟨B + 1 + 1, 0, none⟩)] 40)).alloc (.cells (textsRow opsL) 9)) := by
    refine ⟨.slice none 0 0, .slice none 0 0, ⟨b_alloc (b_alloc (b_at a2 _) _) _, World.ownsRow_nil _ _ _ _, World.ownsRow_nil _ _ _ _, b_alloc (b_alloc (b_alloc (b_alloc (b_at hB _) _) _) _) _, b_alloc (b_alloc (b_alloc (b_at a1 _) _) _) _, by omega, by omega, by omega, by omega⟩, b_alloc (b_at a3 _) _, fun q hq => ?_⟩
    rw [List.mem_singleton.1 hq]
    exact ⟨b_at a4 _, by simp [Value.ownBlock], by simp [Value.ownBlock]⟩
  have hB0 : Below B w (((((w.alloc (.map #[] 0)).alloc (.map #[] 0)).alloc (.cells #[.slice none 0 0, .slice none 0 0, .map (some B), .map (some (B + 1))] 72)).alloc (.cells #[.pointer (some ⟨B + 1 + 1, 0, none⟩)] 40)).alloc (.cells (textsRow opsL) 9)) := by
    rw [← hB]
    exact ((((((Below.refl _ _).alloc (Nat.le_refl _) _).alloc (by simp) _).alloc (by simp; omega) _).alloc (by simp; omega) _).alloc (by simp; omega) _)
  generalize hW : World.alloc _ _ = W5 at hU0 hB0 ⊢
  have HB := Lib.hid hB
  have HU0 := Aside.mk hU0
  clear hW hU0 a1 a2 a3 a4 hB hmm
  go_loopw [18] (fun i wr => ∃ k : Nat, k ≤ 12 ∧ i = .int .i64 k ∧ Aside (Und B (B + 1 + 1 + 1) (B + 1 + 1) B (B + 1) [(B + 1 + 1 + 1 + 1, opsL)] (4 * k) wr) ∧ Below B w wr) (fun i _ => 12 - (intOf i).toNat)
  case atStart => exact ⟨0, by omega, rfl, HU0, hB0⟩
  case round =>
    obtain ⟨k, hk, rfl, hU, hBk⟩ := hrel
    clear HU0 hB0
    by_cases hlt : k < 12
    · obtain ⟨S, hS⟩ : ∃ S : ByteArray, (⟨(opsL[k]!).toArray⟩ : ByteArray) = S := ⟨_, rfl⟩
      have hcell : wr.cell? ⟨B + 1 + 1 + 1 + 1, k, none⟩ = some (.string S) := by
        rw [cell_of_block (hU.out.row (l := opsL) (by simp)), textsRow_get opsL k (show k < 12 from hlt), ← hS]
        simp only [getElem!_pos opsL k (show k < 12 from hlt)]
      have hsz : S.size ≤ 3 := by
        rw [← hS]
        have : ∀ k : Fin 12, (opsL[k.1]!).length ≤ 3 := by decide
        have := this ⟨k, hlt⟩
        show (opsL[k]!).toArray.size ≤ 3
        simpa using this
      have HS := Lib.hid hS
      have hdk : decide ((k : Int) < 12) = true := by simp; omega
      clear hS
      go_wp2_with fail
      obtain ⟨M, hMd⟩ : ∃ M, wr.heap.size = M := ⟨_, rfl⟩
      rw [hMd]
      generalize hW : World.alloc _ _ = W6
      have hU1 : Aside (Und B (B + 1 + 1 + 1) (B + 1 + 1) B (B + 1) [(M, marksT), (B + 1 + 1 + 1 + 1, opsL)] (4 * k) W6) := ⟨by rw [← hW, ← hMd]; exact hU.out.alloc marksT⟩
      have hB1 : Below B w W6 := by rw [← hW]; exact hBk.alloc (Nat.le_trans (Nat.le_of_eq HB.out.symm) hBk.size) _
      have HMD := Lib.hid hMd
      clear hW hMd hcell hU
      obtain ⟨wo, rfl⟩ : ∃ wo : World, wo = wr := ⟨_, rfl⟩
      go_loopw [25] (fun i wr => ∃ j : Nat, j ≤ 4 ∧ i = .int .i64 j ∧ Aside (Und B (B + 1 + 1 + 1) (B + 1 + 1) B (B + 1) [(M, marksT), (B + 1 + 1 + 1 + 1, opsL)] (4 * k + j) wr) ∧ Below B w wr) (fun i _ => 4 - (intOf i).toNat)
      case atStart => exact ⟨0, by omega, rfl, hU1, hB1⟩
      case round =>
        obtain ⟨j, hj, rfl, hU, hBj⟩ := hrel
        clear hU1 hB1
        by_cases hjl : j < 4
        · obtain ⟨N, hN⟩ : ∃ S : ByteArray, (⟨(marksT[j]!).toArray⟩ : ByteArray) = S := ⟨_, rfl⟩
          have hcj : wr.cell? ⟨M, j, none⟩ = some (.string N) := by
            rw [cell_of_block (hU.out.row (l := marksT) (by simp)), textsRow_get marksT j (show j < 4 from hjl), ← hN]
            simp only [getElem!_pos marksT j (show j < 4 from hjl)]
          have hnz : N.size ≤ 2 := by
            rw [← hN]
            have : ∀ k : Fin 4, (marksT[k.1]!).length ≤ 2 := by decide
            have := this ⟨j, hjl⟩
            show (marksT[j]!).toArray.size ≤ 2
            simpa using this
          have hsum : ¬ (9223372036854775807 < S.size + N.size) := by omega
          have HN := Lib.hid hN
          clear hN
          have hbs : B ≤ wr.heap.size := Nat.le_trans (Nat.le_of_eq HB.out.symm) hBj.size
          go_wp2_with fail
          refine (put_und B _ _ _ _ _ (4 * k + j) _ _ _ _ _ _ hU.out (reg_next hlt hjl HS.out HN.out) hbs).mono ?_
          rintro e w7 ⟨rfl, hU7, hB7⟩
          have HU7 := Aside.mk hU7
          have HB7 := Aside.mk (hBj.trans hB7)
          clear hU7 hB7 hcj hsum hBj hU
          go_wp2_with fail
          go_roundw
          case rel => exact ⟨j + 1, by omega, by go_num, ⟨by rw [show 4 * k + (j + 1) = 4 * k + j + 1 by omega]; exact HU7.out⟩, HB7.out⟩
          case measure => simp [intOf]; omega
        · go_wp2_with fail
          go_roundw
          case rel => exact ⟨k + 1, by omega, by go_num, ⟨by rw [show 4 * (k + 1) = 4 * k + j by omega]; exact hU.out.sub (by simp)⟩, hBj⟩
          case measure => simp [intOf]; omega
    · have hk12 : k = 12 := by omega
      have hd0 : decide ((k : Int) < 12) = false := by simp; omega
      rw [show 4 * k = 48 by omega] at hU
      clear hk12
      go_wp2_with fail
      obtain ⟨M, hMd⟩ : ∃ M, wr.heap.size = M := ⟨_, rfl⟩
      rw [hMd]
      generalize hW : World.alloc _ _ = W6
      have hU1 : Aside (Und B (B + 1 + 1 + 1) (B + 1 + 1) B (B + 1) [(M, memT), (B + 1 + 1 + 1 + 1, opsL)] 48 W6) := ⟨by rw [← hW, ← hMd]; exact hU.out.alloc memT⟩
      have hB1 : Below B w W6 := by rw [← hW]; exact hBk.alloc (Nat.le_trans (Nat.le_of_eq HB.out.symm) hBk.size) _
      have HMD := Lib.hid hMd
      clear hW hMd hU
      obtain ⟨wo, rfl⟩ : ∃ wo : World, wo = wr := ⟨_, rfl⟩
      go_loopw [46] (fun i wr => ∃ j : Nat, j ≤ 4 ∧ i = .int .i64 j ∧ Aside (Und B (B + 1 + 1 + 1) (B + 1 + 1) B (B + 1) [(M, memT), (B + 1 + 1 + 1 + 1, opsL)] (48 + j) wr) ∧ Below B w wr) (fun i _ => 4 - (intOf i).toNat)
      case atStart => exact ⟨0, by omega, rfl, hU1, hB1⟩
      case round =>
        obtain ⟨j, hj, rfl, hU, hBj⟩ := hrel
        clear hU1 hB1
        have hbs : B ≤ wr.heap.size := Nat.le_trans (Nat.le_of_eq HB.out.symm) hBj.size
        by_cases hjl : j < 4
        · obtain ⟨N, hN⟩ : ∃ S : ByteArray, (⟨(memT[j]!).toArray⟩ : ByteArray) = S := ⟨_, rfl⟩
          have hcj : wr.cell? ⟨M, j, none⟩ = some (.string N) := by
            rw [cell_of_block (hU.out.row (l := memT) (by simp)), textsRow_get memT j (show j < 4 from hjl), ← hN]
            simp only [getElem!_pos memT j (show j < 4 from hjl)]
          have HN := Lib.hid hN
          clear hN
          go_wp2_with fail
          refine (put_und B _ _ _ _ _ (48 + j) _ _ _ _ _ _ hU.out (mem_next hjl HN.out) hbs).mono ?_
          rintro e w7 ⟨rfl, hU7, hB7⟩
          have HU7 := Aside.mk hU7
          have HB7 := Aside.mk (hBj.trans hB7)
          clear hU7 hB7 hcj hBj hU
          go_wp2_with fail
          go_roundw
          case rel => exact ⟨j + 1, by omega, by go_num, ⟨by rw [show 48 + (j + 1) = 48 + j + 1 by omega]; exact HU7.out⟩, HB7.out⟩
          case measure => simp [intOf]; omega
        · have hj4 : j = 4 := by omega
          subst hj4
          have hd4 : decide (((4 : Nat) : Int) < 4) = false := by decide
          have HU := hU
          have HBj := Aside.mk hBj
          clear hU hBj
          go_wp2_with fail
          refine (fields_any condsText condsL fields_conds 16 rfl (by decide) conds_ascii _ (Joins.tab_stays (g := 0) (by kernel_rfl) HT.out HBj.out (Nat.le_of_eq HB.out))).mono ?_
          rintro e w8 ⟨rfl, rfl⟩
          go_wp2_with fail
          obtain ⟨F, hFd⟩ : ∃ M, wr.heap.size = M := ⟨_, rfl⟩
          rw [hFd]
          generalize hW : World.alloc _ _ = W9
          have hU1 : Aside (Und B (B + 1 + 1 + 1) (B + 1 + 1) B (B + 1) [(F, condsL)] 52 W9) := ⟨by rw [← hW, ← hFd]; exact (HU.out.alloc condsL).sub (by simp)⟩
          have hB1 : Below B w W9 := by rw [← hW]; exact HBj.out.alloc (Nat.le_trans (Nat.le_of_eq HB.out.symm) HBj.out.size) _
          clear hW hFd HU HBj hbs
          obtain ⟨wo, rfl⟩ : ∃ wo : World, wo = wr := ⟨_, rfl⟩
          go_loopw [63] (fun i wr => ∃ j : Nat, j ≤ 16 ∧ i = .int .i64 j ∧ Aside (Und B (B + 1 + 1 + 1) (B + 1 + 1) B (B + 1) [(F, condsL)] (52 + 2 * j) wr) ∧ Below B w wr) (fun i _ => 16 - (intOf i).toNat)
          case atStart => exact ⟨0, by omega, rfl, hU1, hB1⟩
          case round =>
            obtain ⟨j, hj, rfl, hU, hBj⟩ := hrel
            clear hU1 hB1
            have hbs : B ≤ wr.heap.size := Nat.le_trans (Nat.le_of_eq HB.out.symm) hBj.size
            by_cases hjl : j < 16
            · obtain ⟨N, hN⟩ : ∃ S : ByteArray, (⟨(condsL[j]!).toArray⟩ : ByteArray) = S := ⟨_, rfl⟩
              have hcj : wr.cell? ⟨F, j, none⟩ = some (.string N) := by
                rw [cell_of_block (hU.out.row (l := condsL) (by simp)), textsRow_get condsL j (show j < 16 from hjl), ← hN]
                simp only [getElem!_pos condsL j (show j < 16 from hjl)]
              have hnz : N.size ≤ 2 := by
                rw [← hN]
                have : ∀ k : Fin 16, (condsL[k.1]!).length ≤ 2 := by decide
                have := this ⟨j, hjl⟩
                show (condsL[j]!).toArray.size ≤ 2
                simpa using this
              have hs1 : ¬ (9223372036854775807 < 2 + N.size) := by omega
              have hs2 : ¬ (9223372036854775807 < 3 + N.size) := by omega
              have HN := Lib.hid hN
              clear hN
              go_wp2_with fail
              refine (put_und B _ _ _ _ _ (52 + 2 * j) _ _ _ _ _ _ hU.out (jump_next hjl HN.out).1 hbs).mono ?_
              rintro e w7 ⟨rfl, hU7, hB7⟩
              have HU7 := Aside.mk hU7
              have HB7 := Aside.mk (hBj.trans hB7)
              have hb7 : B ≤ w7.heap.size := Nat.le_trans hbs hB7.size
              clear hU7 hB7 hcj hBj hU
              go_wp2_with fail
              refine (put_und B _ _ _ _ _ (52 + 2 * j + 1) _ _ _ _ _ _ HU7.out (jump_next hjl HN.out).2 hb7).mono ?_
              rintro e w8 ⟨rfl, hU8, hB8⟩
              have HU8 := Aside.mk hU8
              have HB8 := Aside.mk (HB7.out.trans hB8)
              clear hU8 hB8 HU7 HB7
              go_wp2_with fail
              go_roundw
              case rel => exact ⟨j + 1, by omega, by go_num, ⟨by rw [show 52 + 2 * (j + 1) = 52 + 2 * j + 1 + 1 by omega]; exact HU8.out⟩, HB8.out⟩
              case measure => simp [intOf]; omega
            · have hj16 : j = 16 := by omega
              subst hj16
              obtain ⟨vn, vs, hN, hC, -⟩ := hU.out
              have hc0 : wr.cell? ⟨B + 1 + 1 + 1, 0, none⟩ = some (.pointer (some ⟨B + 1 + 1, 0, none⟩)) := by rw [cell_of_block hC]; rfl
              have HNN := Aside.mk hN
              clear hC hN
              go_wp2_with fail
              go_ret
              have hN := HNN.out
              rw [List.take_of_length_le (by rw [table_len]; omega)] at hN
              exact ⟨.pointer (some ⟨B + 1 + 1, 0, none⟩), rfl, ⟨B, B + 1 + 1, vn, vs, B, B + 1, rfl, hN⟩, by rw [HB.out]; exact hBj⟩
end Go.Proofs.YtjjgjadfnongfaaGreatDoor
