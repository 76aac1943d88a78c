import Derived.Test.YtjjgjadfnongfaaGreatDoorARw2
set_option linter.unusedVariables false
set_option linter.unusedSimpArgs false
namespace Go.Proofs.YtjjgjadfnongfaaGreatDoor
open Go.RowKit Go.Maps Go.MapKept
theorem head_get {s : List UInt8} {S : ByteArray} (h : S.data.toList = s) (hz : 0 < S.size) : s.head? = some S[0] := by
  rw [List.head?_eq_getElem?, ← h, List.getElem?_eq_getElem (by rw [len_list]; exact hz)]
  rfl
set_option maxRecDepth 100000 in
/-- spinetref06.register. -/
theorem r_register (s : List UInt8) (w : World) (hs : s.length ≤ 1000000000) : Calls Tryz.prog 19 #[.string ⟨s.toArray⟩] w (AtNum (regV s) w) := by
  obtain ⟨S, hS⟩ : ∃ S : ByteArray, (⟨s.toArray⟩ : ByteArray) = S := ⟨_, rfl⟩
  have hSl : S.data.toList = s := by rw [← hS]
  obtain ⟨hz0, hz0'⟩ : S.size ≤ s.length ∧ s.length ≤ S.size := by rw [← hS, size_mk]; omega
  have hzm : S.size ≤ 1000000000 := by omega
  rw [hS]
  by_cases h2 : S.size < 2
  · have hr : regV s = (0, false) := by unfold regV; rw [if_pos (.inl (by omega))]
    have HR := Lib.hid hr
    clear hr hS hSl
    go_enter Tryz.func19, Tryz.ntmps19
    go_wp2_with fail
    go_ret2
    exact ⟨by rw [HR.out]; rfl, Below.refl _ _⟩
  · have hb := head_get hSl (by omega)
    by_cases h82 : ((S[0].toNat : Nat) : Int) = 82
    · have hc : s.head? = some 82 := by
        rw [hb]; congr 1; apply UInt8.toNat_inj.1; exact Int.ofNat.inj h82
      obtain ⟨T, hT⟩ : ∃ T : ByteArray, S.extract 1 S.size = T := ⟨_, rfl⟩
      have hTl : T.data.toList = s.drop 1 := by
        rw [← hT, extract_list, hSl, List.take_of_length_le (by rw [List.length_drop]; omega)]
      have hTm : T = ⟨(s.drop 1).toArray⟩ := by rw [← hTl]
      obtain ⟨n, b, hn⟩ : ∃ n b, numV (s.drop 1) = (n, b) := ⟨_, _, rfl⟩
      have hr : regV s = (n, b && (decide (0 ≤ n) && decide (n ≤ 15))) := by
        unfold regV
        rw [if_neg (by rw [hc]; rintro (h | h); omega; exact h rfl), hn]
      have q82 : (((S[0].toNat : Nat) : Int) != 82) = false := by simp [h82]
      have HR := Lib.hid hr
      have HTM := Lib.hid hTm
      have HNN := Lib.hid hn
      have hl : (s.drop 1).length ≤ 1000000000 := by rw [List.length_drop]; omega
      clear hr hS hSl hb hc hTl hTm hn h82
      go_enter Tryz.func19, Tryz.ntmps19
      go_wp2_with fail
      rw [HTM.out]
      refine (r_number _ _ hl).mono ?_
      rintro e w1 ⟨rfl, hB⟩
      rw [HNN.out]
      cases b
      · go_wp2_with fail
        go_ret2
        exact ⟨by rw [HR.out]; rfl, hB⟩
      · by_cases hp : 0 ≤ n
        · go_wp2_with fail
          go_ret2
          refine ⟨?_, hB⟩
          rw [HR.out]
          simp [hp]
        · go_wp2_with fail
          go_ret2
          refine ⟨?_, hB⟩
          rw [HR.out]
          simp [hp]
          intro _; omega
    · have hc : s.head? ≠ some 82 := by
        rw [hb]
        intro e
        have := Option.some.inj e
        exact h82 (by rw [this]; rfl)
      have hr : regV s = (0, false) := by unfold regV; rw [if_pos (.inr hc)]
      have q82 : (((S[0].toNat : Nat) : Int) != 82) = true := by simp [h82]
      have HR := Lib.hid hr
      clear hr hS hSl hb hc h82
      go_enter Tryz.func19, Tryz.ntmps19
      go_wp2_with fail
      go_ret2
      exact ⟨by rw [HR.out]; rfl, Below.refl _ _⟩
def AtParts (s : List UInt8) (w : World) (e : Ending) (w' : World) : Prop := ∃ (x : Ins) (is : Bool), e = .returned (.tuple #[insV x, .bool is]) ∧ partsR s = (if is then some x else none) ∧ Below w.heap.size w w'
theorem idx_range (L : List (List UInt8)) (s : List UInt8) : -1 ≤ idxL L s ∧ idxL L s < L.length := by
  unfold idxL
  split <;> omega
set_option maxRecDepth 100000 in
theorem r_parts_mem (s : List UInt8) (w : World) (hs : s.length ≤ 1000) (m : Int) (hm : idxL memsL s = m) (h0 : 0 ≤ m) : Calls Tryz.prog 18 #[.string ⟨s.toArray⟩] w (AtParts s w) := by
  have hm3 : m < 4 := by rw [← hm]; exact (idx_range _ _).2
  have hp : partsR s = some ⟨2, decide (1 < m), (m % 2 == 1), 0, 0, 0, 0, 0⟩ := by
    unfold partsR
    rw [hm, if_pos h0]
    rfl
  obtain ⟨X, hX⟩ : ∃ b, w.heap.size = b := ⟨_, rfl⟩
  obtain ⟨S, hS⟩ : ∃ S : ByteArray, (⟨s.toArray⟩ : ByteArray) = S := ⟨_, rfl⟩
  have HP := Lib.hid hp
  have HM := Lib.hid hm
  have HX := Lib.hid hX
  have HS := Lib.hid hS
  rw [hS]
  clear hp hm hX hS
  go_enter Tryz.func18, Tryz.ntmps18
  go_wp2_with fail
  rw [← HS.out]
  refine (r_index memsL 4 (w.heap.size + 1) s _ rfl (by omega) (by rw [HX.out]; exact b_at (by simp [HX.out]) _)).mono ?_
  rintro e w1 ⟨rfl, rfl⟩
  rw [HM.out]
  go_wp2_with fail
  refine bodyPost_ret (res_ct rfl _ _ w.heap.size 45 _ (0, 0) _ rfl (b_alloc (b_new _ _) _) Tryz.underlying45 rfl (by kernel_rfl)) rfl ⟨⟨2, decide (1 < m), (m % 2 == 1), 0, 0, 0, 0, 0⟩, true, rfl, HP.out, bthen (ablow _ _) (ablow _ _)⟩
theorem below8 {w w1 : World} {b n : Nat} (h : Below n w w1) (hb : n ≤ b) {v0 v1 v2 v3 v4 v5 v6 v7 : Value} : Below n w ((((((((w1.setCell ⟨b, 0, none⟩ v0).setCell ⟨b, 1, none⟩ v1).setCell ⟨b, 2, none⟩ v2).setCell ⟨b, 3, none⟩ v3).setCell ⟨b, 4, none⟩ v4).setCell ⟨b, 5, none⟩ v5).setCell ⟨b, 6, none⟩ v6).setCell ⟨b, 7, none⟩ v7) :=
  (((((((h.setCell hb _).setCell hb _).setCell hb _).setCell hb _).setCell hb _).setCell hb _).setCell hb _).setCell hb _
theorem cut_lenR (s sep : List UInt8) : (Lib.cut s sep).1.length ≤ s.length ∧ (Lib.cut s sep).2.1.length ≤ s.length := by
  unfold Lib.cut
  split <;> simp <;> omega
set_option maxRecDepth 100000 in
set_option maxHeartbeats 1600000 in
theorem r_parts_jump (s : List UInt8) (w : World) (hs : s.length ≤ 1000) (m : Int) (hm : idxL memsL s = m) (h0 : ¬ 0 ≤ m) (A B : List UInt8) (hc : Lib.cut s [46] = (A, B, true)) : Calls Tryz.prog 18 #[.string ⟨s.toArray⟩] w (AtParts s w) := by
  obtain ⟨c, hci⟩ : ∃ c, idxL condsL B = c := ⟨_, rfl⟩
  have hp : partsR s = (if 0 ≤ c ∧ (A = [66] ∨ A = [66, 76]) then some ⟨3, false, decide (A = [66, 76]), c, 0, 0, 0, 0⟩ else none) := by
    unfold partsR
    rw [hm, if_neg h0, hc]
    simp only [if_true, hci]
  have hcl := cut_lenR s [46]
  rw [hc] at hcl
  obtain ⟨X, hX⟩ : ∃ b, w.heap.size = b := ⟨_, rfl⟩
  obtain ⟨S, hS⟩ : ∃ S : ByteArray, (⟨s.toArray⟩ : ByteArray) = S := ⟨_, rfl⟩
  obtain ⟨SA, hSA⟩ : ∃ S : ByteArray, (⟨A.toArray⟩ : ByteArray) = S := ⟨_, rfl⟩
  have hSl : SA.data.toList = A := by rw [← hSA]
  obtain ⟨SB, hSB⟩ : ∃ S : ByteArray, (⟨B.toArray⟩ : ByteArray) = S := ⟨_, rfl⟩
  have HP := Lib.hid hp
  have HM := Lib.hid hm
  have HX := Lib.hid hX
  have HS := Lib.hid hS
  have HSA := Lib.hid hSA
  have HSB := Lib.hid hSB
  have HC := Lib.hid hc
  have HCI := Lib.hid hci
  have HSL := Lib.hid hSl
  have hBl : B.length ≤ 1000 := by have := hcl.2; simp only at this; omega
  rw [hS]
  clear hp hm hX hS hSA hSB hc hci hcl hSl
  go_enter Tryz.func18, Tryz.ntmps18
  go_wp2_with fail
  rw [← HS.out]
  refine (r_index memsL 4 (w.heap.size + 1) s _ rfl (by omega) (by rw [HX.out]; exact b_at (by simp [HX.out]) _)).mono ?_
  rintro e w1 ⟨rfl, rfl⟩
  rw [HM.out]
  go_wp2_with fail
  refine (r_cut s [46] _ (by omega) (by simp) (by simp)).mono ?_
  rintro e w2 ⟨rfl, hB2⟩
  rw [HC.out]
  simp only []
  rw [HSA.out, HSB.out]
  have fX : w2.heap[w.heap.size]? = some (.cells #[.int .i64 0, .bool false, .bool false, .int .i64 0, .int .i64 0, .int .i64 0, .int .i64 0, .int .i64 0] 45 (0, 0)) := b_below (b_alloc (b_new _ _) _) hB2
  have hB02 : Below w.heap.size w w2 := bthen (bthen (ablow _ _) (ablow _ _)) hB2
  go_wp2_with fail
  refine (a_conds _).mono ?_
  rintro e w3 ⟨g, rfl, hg, -, hB3⟩
  replace fX := b_below fX hB3
  have FX := Lib.hid fX
  have HG := Lib.hid hg
  have HB03 := Aside.mk (bthen hB02 hB3)
  clear fX hB2 hB02 hB3 hg
  go_wp2_with fail
  rw [← HSB.out]
  refine (r_index condsL 16 g B _ rfl (by omega) HG.out).mono ?_
  rintro e w4 ⟨rfl, rfl⟩
  rw [HCI.out]
  obtain ⟨x0, x1, x2, x3, x4, x5, x6, x7⟩ := b_cells8 FX.out
  have z0 := b_free FX.out
  by_cases hA1 : A = [66]
  · have q1 : (SA.toList == [66]) = true := by rw [ByteArray.toList_eq, HSL.out, hA1]; rfl
    have q2 : (SA.toList == [66, 76]) = false := by rw [ByteArray.toList_eq, HSL.out, hA1]; rfl
    have HA := Lib.hid hA1
    clear hA1
    by_cases hcp : 0 ≤ c
    · go_wp2_with fail
      refine bodyPost_ret (res_ct rfl _ _ w.heap.size 45 _ (0, 0) _ rfl (b_set8 FX.out _ _ _ _ _ _ _ _) Tryz.underlying45 rfl (by kernel_rfl)) rfl ⟨⟨3, false, false, c, 0, 0, 0, 0⟩, true, rfl, ?_, ?_⟩
      · rw [HP.out]; rw [HA.out, if_pos ⟨hcp, .inl rfl⟩]; rfl
      · exact below8 HB03.out (Nat.le_refl _)
    · go_wp2_with fail
      refine bodyPost_ret (res_ct rfl _ _ w.heap.size 45 _ (0, 0) _ rfl (b_set8 FX.out _ _ _ _ _ _ _ _) Tryz.underlying45 rfl (by kernel_rfl)) rfl ⟨⟨3, false, false, c, 0, 0, 0, 0⟩, false, rfl, ?_, ?_⟩
      · rw [HP.out]; rw [if_neg (fun h => by have := h.1; omega)]; rfl
      · exact below8 HB03.out (Nat.le_refl _)
  · by_cases hA2 : A = [66, 76]
    · have q1 : (SA.toList == [66]) = false := by rw [ByteArray.toList_eq, HSL.out, hA2]; rfl
      have q2 : (SA.toList == [66, 76]) = true := by rw [ByteArray.toList_eq, HSL.out, hA2]; rfl
      have HA := Lib.hid hA2
      clear hA2 hA1
      by_cases hcp : 0 ≤ c
      · go_wp2_with fail
        refine bodyPost_ret (res_ct rfl _ _ w.heap.size 45 _ (0, 0) _ rfl (b_set8 FX.out _ _ _ _ _ _ _ _) Tryz.underlying45 rfl (by kernel_rfl)) rfl ⟨⟨3, false, true, c, 0, 0, 0, 0⟩, true, rfl, ?_, ?_⟩
        · rw [HP.out]; rw [HA.out, if_pos ⟨hcp, .inr rfl⟩]; rfl
        · exact below8 HB03.out (Nat.le_refl _)
      · go_wp2_with fail
        refine bodyPost_ret (res_ct rfl _ _ w.heap.size 45 _ (0, 0) _ rfl (b_set8 FX.out _ _ _ _ _ _ _ _) Tryz.underlying45 rfl (by kernel_rfl)) rfl ⟨⟨3, false, true, c, 0, 0, 0, 0⟩, false, rfl, ?_, ?_⟩
        · rw [HP.out]; rw [if_neg (fun h => by have := h.1; omega)]; rfl
        · exact below8 HB03.out (Nat.le_refl _)
    · have q1 : (SA.toList == [66]) = false := by rw [ByteArray.toList_eq, HSL.out]; simp [hA1]
      have q2 : (SA.toList == [66, 76]) = false := by rw [ByteArray.toList_eq, HSL.out]; simp [hA2]
      by_cases hcp : 0 ≤ c
      · go_wp2_with fail
        refine bodyPost_ret (res_ct rfl _ _ w.heap.size 45 _ (0, 0) _ rfl (b_set8 FX.out _ _ _ _ _ _ _ _) Tryz.underlying45 rfl (by kernel_rfl)) rfl ⟨⟨3, false, false, c, 0, 0, 0, 0⟩, false, rfl, ?_, ?_⟩
        · rw [HP.out]; rw [if_neg (fun h => h.2.elim hA1 hA2)]; rfl
        · exact below8 HB03.out (Nat.le_refl _)
      · go_wp2_with fail
        refine bodyPost_ret (res_ct rfl _ _ w.heap.size 45 _ (0, 0) _ rfl (b_set8 FX.out _ _ _ _ _ _ _ _) Tryz.underlying45 rfl (by kernel_rfl)) rfl ⟨⟨3, false, false, c, 0, 0, 0, 0⟩, false, rfl, ?_, ?_⟩
        · rw [HP.out]; rw [if_neg (fun h => by have := h.1; omega)]; rfl
        · exact below8 HB03.out (Nat.le_refl _)
theorem true_goes : Goes (fun _ _ => True) := ⟨fun _ => trivial, fun _ _ => trivial⟩
theorem keep_cellR {l : List Nat} {w wl : World} (hL : KeepsBs l w wl) {b i : Nat} (hb : b ∈ l) {v : Value} (h : w.cell? ⟨b, i, none⟩ = some v) : wl.cell? ⟨b, i, none⟩ = some v := (World.cell?_of_block (hL b hb)).trans h
theorem keeps8 {w1 : World} {b n : Nat} (hb : n ≠ b) {v0 v1 v2 v3 v4 v5 v6 v7 : Value} : KeepsBs [n] w1 ((((((((w1.setCell ⟨b, 0, none⟩ v0).setCell ⟨b, 1, none⟩ v1).setCell ⟨b, 2, none⟩ v2).setCell ⟨b, 3, none⟩ v3).setCell ⟨b, 4, none⟩ v4).setCell ⟨b, 5, none⟩ v5).setCell ⟨b, 6, none⟩ v6).setCell ⟨b, 7, none⟩ v7) := by
  intro c hc
  rw [List.mem_singleton.1 hc]
  have key : ∀ (w : World) (i : Nat) (v : Value), (w.setCell ⟨b, i, none⟩ v).heap[n]? = w.heap[n]? := fun w i v => Below.heap_setCell w ⟨b, i, none⟩ v n hb
  rw [key, key, key, key, key, key, key, key]
theorem r_indexB (L : List (List UInt8)) (n g : Nat) (s : List UInt8) (S : ByteArray) (hS : S = ⟨s.toArray⟩) (w : World) (hn : L.length = n) (hz : n ≤ 1000) (hg : w.heap[g]? = some (.cells (textsRow L) 9 (0, 0))) :
    Calls Tryz.prog 38 #[.slice (some ⟨g, 0, none⟩) n n, .string S] w (Is (.int .i64 (idxL L s)) w) := by
  subst hS; exact r_index L n g s w hn hz hg
theorem last_get {s : List UInt8} {S : ByteArray} (h : S.data.toList = s) (hz : 0 < S.size) : s.getLast? = some (S[S.size - 1]'(by omega)) := by
  rw [List.getLast?_eq_getElem?, ← h, len_list, List.getElem?_eq_getElem (by rw [len_list]; omega)]
  rfl
set_option maxRecDepth 100000 in
set_option maxHeartbeats 1600000 in
theorem r_parts_optt (s : List UInt8) (w : World) (hs : s.length ≤ 1000) (m : Int) (hm : idxL memsL s = m) (h0 : ¬ 0 ≤ m) (A B : List UInt8) (hc : Lib.cut s [46] = (A, B, false)) (h1 : s.getLast? = some 34) (hne : s ≠ []) (h2 : (s.dropLast).getLast? = some 39) (hne2 : s.dropLast ≠ []) : Calls Tryz.prog 18 #[.string ⟨s.toArray⟩] w (AtParts s w) := by
  obtain ⟨o, ho⟩ : ∃ o, idxL opsL ((s.dropLast).dropLast) = o := ⟨_, rfl⟩
  have hp : partsR s = (if 0 ≤ o then some ⟨0, true, true, 0, 0, 0, o, 0⟩ else none) := by
    have e1 : strip 34 s = (s.dropLast, true) := by unfold strip; rw [if_pos h1]
    have e2 : strip 39 (s.dropLast) = ((s.dropLast).dropLast, true) := by unfold strip; rw [if_pos h2]
    unfold partsR
    rw [hm, if_neg h0, hc]
    simp only [e1, e2, ho, Bool.false_eq_true, if_false]
  obtain ⟨S, hS⟩ : ∃ S : ByteArray, (⟨s.toArray⟩ : ByteArray) = S := ⟨_, rfl⟩
  have hSl : S.data.toList = s := by rw [← hS]
  have hSz : S.size ≤ 1000 := by rw [← hS, size_mk]; exact hs
  have HSL := Lib.hid hSl
  have hzS : 0 < S.size := by rw [← len_list, hSl]; exact List.length_pos_iff.2 hne
  have q1 : ((((S[S.size - 1]'(by omega)).toNat : Nat) : Int) == 34) = true := by
    have hl := last_get hSl hzS
    rw [hl] at h1
    have := Option.some.inj h1; rw [this]; rfl
  obtain ⟨T, hT⟩ : ∃ T : ByteArray, S.extract 0 (S.size - 1) = T := ⟨_, rfl⟩
  have hTl : T.data.toList = s.dropLast := by
    rw [← hT, extract_list, hSl, List.drop_zero, Nat.sub_zero, ← len_list S, hSl, ← List.dropLast_eq_take]
  have hTz : T.size ≤ 1000 := by rw [← hT]; simp; omega
  have HTL := Lib.hid hTl
  have hzT : 0 < T.size := by rw [← len_list, hTl]; exact List.length_pos_iff.2 hne2
  have q2 : ((((T[T.size - 1]'(by omega)).toNat : Nat) : Int) == 39) = true := by
    have hl := last_get hTl hzT
    rw [hl] at h2
    have := Option.some.inj h2; rw [this]; rfl
  obtain ⟨U, hU⟩ : ∃ Y : ByteArray, T.extract 0 (T.size - 1) = Y := ⟨_, rfl⟩
  have hUl : U.data.toList = (s.dropLast).dropLast := by
    rw [← hU, extract_list, hTl, List.drop_zero, Nat.sub_zero, ← len_list T, hTl, ← List.dropLast_eq_take]
  have hRm : U = ⟨((s.dropLast).dropLast).toArray⟩ := by rw [← hUl]
  have HRM := Lib.hid hRm
  have hrl : ((s.dropLast).dropLast).length ≤ 1000 := by first | omega | (simp only [List.length_dropLast]; omega)
  obtain ⟨X, hX⟩ : ∃ b, w.heap.size = b := ⟨_, rfl⟩
  have HP := Lib.hid hp
  have HM := Lib.hid hm
  have HX := Lib.hid hX
  have HS := Lib.hid hS
  have HC := Lib.hid hc
  have HO := Lib.hid ho
  rw [hS]
  clear hp hm hX hS hc ho hSl hRm h1 h2 hTl hUl
  go_enter Tryz.func18, Tryz.ntmps18
  go_wp2_with fail
  rw [← HS.out]
  refine (r_index memsL 4 (w.heap.size + 1) s _ rfl (by omega) (by rw [HX.out]; exact b_at (by simp [HX.out]) _)).mono ?_
  rintro e w1 ⟨rfl, rfl⟩
  rw [HM.out]
  go_wp2_with fail
  refine (r_cut s [46] _ (by omega) (by simp) (by simp)).mono ?_
  rintro e w2 ⟨rfl, hB2⟩
  rw [HC.out]
  simp only []
  have fX : w2.heap[w.heap.size]? = some (.cells #[.int .i64 0, .bool false, .bool false, .int .i64 0, .int .i64 0, .int .i64 0, .int .i64 0, .int .i64 0] 45 (0, 0)) := b_below (b_alloc (b_new _ _) _) hB2
  have hB02 : Below w.heap.size w w2 := bthen (bthen (ablow _ _) (ablow _ _)) hB2
  have FX := Lib.hid fX
  have HB02 := Aside.mk hB02
  have hlX : w.heap.size < w2.heap.size := block_lt fX
  clear fX hB02 hB2
  rw [HS.out]
  go_wp2_with fail
  refine any_begin true_goes (by kernel_rfl) ?_
  generalize hW : World.drew _ = P0
  have fX : P0.heap[w.heap.size]? = some (.cells #[.int .i64 0, .bool false, .bool false, .int .i64 0, .int .i64 0, .int .i64 0, .int .i64 0, .int .i64 0] 45 (0, 0)) := by rw [← hW]; exact b_alloc FX.out _
  have fX1 : P0.heap[w2.heap.size]? = some (.cells #[.int .i64 0, .bool false, .bool false, .int .i64 0, .int .i64 0, .int .i64 0, .int .i64 0, .int .i64 0] 45 (0, 0)) := by rw [← hW]; exact b_new _ _
  have hBV : Below w.heap.size w P0 := by rw [← hW]; exact (bthen HB02.out (ablow _ _)).drew
  clear hW
  refine any_take true_goes 0 ?_ ?_ (by simp only [List.getElem?_toArray, List.getElem?_cons_succ, List.getElem?_cons_zero]; exact rfl) (by kernel_rfl) (by kernel_rfl) (by kernel_rfl) (fun _ _ _ _ _ h => h) (by rfl) ?_ ?_
  rotate_left
  · intro wl hL
    have wa : IntKind.i64.wrap ((S.size : Int) - 1) = (S.size : Int) - 1 := IntWalk.i64_in _ ⟨by omega, by omega⟩
    have wb : ((S.size : Int) - 1).toNat = S.size - 1 := by omega
    have wd : (1 : Int) ≤ S.size := by omega
    have we : (S.size : Int) - 1 ≤ S.size := by omega
    go_simp
    try with_reducible rfl
  try simp only [Act.put, List.setIfInBounds_toArray, List.set_cons_zero, List.set_cons_succ]
  refine any_take true_goes 1 ?_ ?_ (by simp only [List.getElem?_toArray, List.getElem?_cons_succ, List.getElem?_cons_zero]; exact rfl) (by kernel_rfl) (by kernel_rfl) (by kernel_rfl) (fun _ _ _ _ _ h => h) (by rfl) ?_ ?_
  rotate_left
  · intro wl hL
    have wa : IntKind.i64.wrap ((S.size : Int) - 1) = (S.size : Int) - 1 := IntWalk.i64_in _ ⟨by omega, by omega⟩
    have wb : ((S.size : Int) - 1).toNat = S.size - 1 := by omega
    have wd : (1 : Int) ≤ S.size := by omega
    have we : (S.size : Int) - 1 ≤ S.size := by omega
    go_simp
    try with_reducible rfl
  try simp only [Act.put, List.setIfInBounds_toArray, List.set_cons_zero, List.set_cons_succ]
  refine any_take true_goes 2 ?_ ?_ (by simp only [List.getElem?_toArray, List.getElem?_cons_succ, List.getElem?_cons_zero]; exact rfl) (by kernel_rfl) (by kernel_rfl) (by kernel_rfl) (fun _ _ _ _ _ h => h) (by rfl) ?_ ?_
  rotate_left
  · intro wl hL
    have wa : IntKind.i64.wrap ((S.size : Int) - 1) = (S.size : Int) - 1 := IntWalk.i64_in _ ⟨by omega, by omega⟩
    have wb : ((S.size : Int) - 1).toNat = S.size - 1 := by omega
    have wd : (1 : Int) ≤ S.size := by omega
    have we : (S.size : Int) - 1 ≤ S.size := by omega
    go_simp
    try with_reducible rfl
  try simp only [Act.put, List.setIfInBounds_toArray, List.set_cons_zero, List.set_cons_succ]
  refine any_take true_goes 3 ?_ ?_ (by simp only [List.getElem?_toArray, List.getElem?_cons_succ, List.getElem?_cons_zero]; exact rfl) (by kernel_rfl) (by kernel_rfl) (by kernel_rfl) (fun _ _ _ _ _ h => h) (by rfl) ?_ ?_
  rotate_left
  · intro wl hL
    have wa : IntKind.i64.wrap ((S.size : Int) - 1) = (S.size : Int) - 1 := IntWalk.i64_in _ ⟨by omega, by omega⟩
    have wb : ((S.size : Int) - 1).toNat = S.size - 1 := by omega
    have wd : (1 : Int) ≤ S.size := by omega
    have we : (S.size : Int) - 1 ≤ S.size := by omega
    go_simp
    try with_reducible rfl
  try simp only [Act.put, List.setIfInBounds_toArray, List.set_cons_zero, List.set_cons_succ]
  refine any_take true_goes 4 ?_ ?_ (by simp only [List.getElem?_toArray, List.getElem?_cons_succ, List.getElem?_cons_zero]; exact rfl) (by kernel_rfl) (by kernel_rfl) (by kernel_rfl) (fun _ _ _ _ _ h => h) (by rfl) ?_ ?_
  rotate_left
  · intro wl hL
    have wa : IntKind.i64.wrap ((S.size : Int) - 1) = (S.size : Int) - 1 := IntWalk.i64_in _ ⟨by omega, by omega⟩
    have wb : ((S.size : Int) - 1).toNat = S.size - 1 := by omega
    have wd : (1 : Int) ≤ S.size := by omega
    have we : (S.size : Int) - 1 ≤ S.size := by omega
    go_simp
    try with_reducible rfl
  try simp only [Act.put, List.setIfInBounds_toArray, List.set_cons_zero, List.set_cons_succ]
  have pc := cell_of_block fX1 2
  have pf := frozen_of_block fX1 2
  refine any_one 5 _ (by kernel_rfl) (by simp only [List.getElem?_toArray, List.getElem?_cons_succ, List.getElem?_cons_zero]; exact rfl) (fun K hK => ?_)
  go_simp
  refine hK.out _ _ trivial ?_
  clear hK K pc pf
  try simp only [Act.put, List.setIfInBounds_toArray, List.set_cons_zero, List.set_cons_succ]
  generalize hW : World.setCell _ _ _ = P1
  have FX := Lib.hid (show P1.heap[w.heap.size]? = some _ by rw [← hW]; exact b_far fX (p := ⟨w2.heap.size, 2, none⟩) (by show w.heap.size ≠ w2.heap.size; omega) _)
  have FX1 := Lib.hid (show P1.heap[w2.heap.size]? = some (.cells #[.int .i64 0, .bool false, .bool true, .int .i64 0, .int .i64 0, .int .i64 0, .int .i64 0, .int .i64 0] 45 (0, 0)) by rw [← hW]; exact b_put fX1 2 _ rfl)
  have HBV := Aside.mk (show Below w.heap.size w P1 by rw [← hW]; exact hBV.setCell (by show w.heap.size ≤ w2.heap.size; omega) _)
  clear hW fX fX1 hBV
  refine any_take true_goes 6 ?_ ?_ (by simp only [List.getElem?_toArray, List.getElem?_cons_succ, List.getElem?_cons_zero]; exact rfl) (by kernel_rfl) (by kernel_rfl) (by kernel_rfl) (fun _ _ _ _ _ h => h) (by rfl) ?_ ?_
  rotate_left
  · intro wl hL
    skip
    go_simp
    try with_reducible rfl
  try simp only [Act.put, List.setIfInBounds_toArray, List.set_cons_zero, List.set_cons_succ]
  refine any_done (by kernel_rfl) ?_ _
  go_wp2_with fail
  refine any_begin true_goes (by kernel_rfl) ?_
  generalize hW : World.drew _ = Q0
  have fX : Q0.heap[w.heap.size]? = some (.cells #[.int .i64 0, .bool false, .bool false, .int .i64 0, .int .i64 0, .int .i64 0, .int .i64 0, .int .i64 0] 45 (0, 0)) := by rw [← hW]; exact FX.out
  have fX1 : Q0.heap[w2.heap.size]? = some (.cells #[.int .i64 0, .bool false, .bool true, .int .i64 0, .int .i64 0, .int .i64 0, .int .i64 0, .int .i64 0] 45 (0, 0)) := by rw [← hW]; exact FX1.out
  have hBV : Below w.heap.size w Q0 := by rw [← hW]; exact HBV.out.drew
  clear hW
  refine any_take true_goes 0 ?_ ?_ (by simp only [List.getElem?_toArray, List.getElem?_cons_succ, List.getElem?_cons_zero]; exact rfl) (by kernel_rfl) (by kernel_rfl) (by kernel_rfl) (fun _ _ _ _ _ h => h) (by rfl) ?_ ?_
  rotate_left
  · intro wl hL
    have wa : IntKind.i64.wrap ((T.size : Int) - 1) = (T.size : Int) - 1 := IntWalk.i64_in _ ⟨by omega, by omega⟩
    have wb : ((T.size : Int) - 1).toNat = T.size - 1 := by omega
    have wd : (1 : Int) ≤ T.size := by omega
    have we : (T.size : Int) - 1 ≤ T.size := by omega
    go_simp
    try with_reducible rfl
  try simp only [Act.put, List.setIfInBounds_toArray, List.set_cons_zero, List.set_cons_succ]
  refine any_take true_goes 1 ?_ ?_ (by simp only [List.getElem?_toArray, List.getElem?_cons_succ, List.getElem?_cons_zero]; exact rfl) (by kernel_rfl) (by kernel_rfl) (by kernel_rfl) (fun _ _ _ _ _ h => h) (by rfl) ?_ ?_
  rotate_left
  · intro wl hL
    have wa : IntKind.i64.wrap ((T.size : Int) - 1) = (T.size : Int) - 1 := IntWalk.i64_in _ ⟨by omega, by omega⟩
    have wb : ((T.size : Int) - 1).toNat = T.size - 1 := by omega
    have wd : (1 : Int) ≤ T.size := by omega
    have we : (T.size : Int) - 1 ≤ T.size := by omega
    go_simp
    try with_reducible rfl
  try simp only [Act.put, List.setIfInBounds_toArray, List.set_cons_zero, List.set_cons_succ]
  refine any_take true_goes 2 ?_ ?_ (by simp only [List.getElem?_toArray, List.getElem?_cons_succ, List.getElem?_cons_zero]; exact rfl) (by kernel_rfl) (by kernel_rfl) (by kernel_rfl) (fun _ _ _ _ _ h => h) (by rfl) ?_ ?_
  rotate_left
  · intro wl hL
    have wa : IntKind.i64.wrap ((T.size : Int) - 1) = (T.size : Int) - 1 := IntWalk.i64_in _ ⟨by omega, by omega⟩
    have wb : ((T.size : Int) - 1).toNat = T.size - 1 := by omega
    have wd : (1 : Int) ≤ T.size := by omega
    have we : (T.size : Int) - 1 ≤ T.size := by omega
    go_simp
    try with_reducible rfl
  try simp only [Act.put, List.setIfInBounds_toArray, List.set_cons_zero, List.set_cons_succ]
  refine any_take true_goes 3 ?_ ?_ (by simp only [List.getElem?_toArray, List.getElem?_cons_succ, List.getElem?_cons_zero]; exact rfl) (by kernel_rfl) (by kernel_rfl) (by kernel_rfl) (fun _ _ _ _ _ h => h) (by rfl) ?_ ?_
  rotate_left
  · intro wl hL
    have wa : IntKind.i64.wrap ((T.size : Int) - 1) = (T.size : Int) - 1 := IntWalk.i64_in _ ⟨by omega, by omega⟩
    have wb : ((T.size : Int) - 1).toNat = T.size - 1 := by omega
    have wd : (1 : Int) ≤ T.size := by omega
    have we : (T.size : Int) - 1 ≤ T.size := by omega
    go_simp
    try with_reducible rfl
  try simp only [Act.put, List.setIfInBounds_toArray, List.set_cons_zero, List.set_cons_succ]
  refine any_take true_goes 4 ?_ ?_ (by simp only [List.getElem?_toArray, List.getElem?_cons_succ, List.getElem?_cons_zero]; exact rfl) (by kernel_rfl) (by kernel_rfl) (by kernel_rfl) (fun _ _ _ _ _ h => h) (by rfl) ?_ ?_
  rotate_left
  · intro wl hL
    have wa : IntKind.i64.wrap ((T.size : Int) - 1) = (T.size : Int) - 1 := IntWalk.i64_in _ ⟨by omega, by omega⟩
    have wb : ((T.size : Int) - 1).toNat = T.size - 1 := by omega
    have wd : (1 : Int) ≤ T.size := by omega
    have we : (T.size : Int) - 1 ≤ T.size := by omega
    go_simp
    try with_reducible rfl
  try simp only [Act.put, List.setIfInBounds_toArray, List.set_cons_zero, List.set_cons_succ]
  have pc := cell_of_block fX1 1
  have pf := frozen_of_block fX1 1
  refine any_one 5 _ (by kernel_rfl) (by simp only [List.getElem?_toArray, List.getElem?_cons_succ, List.getElem?_cons_zero]; exact rfl) (fun K hK => ?_)
  go_simp
  refine hK.out _ _ trivial ?_
  clear hK K pc pf
  try simp only [Act.put, List.setIfInBounds_toArray, List.set_cons_zero, List.set_cons_succ]
  generalize hW : World.setCell _ _ _ = Q1
  have FX := Lib.hid (show Q1.heap[w.heap.size]? = some _ by rw [← hW]; exact b_far fX (p := ⟨w2.heap.size, 1, none⟩) (by show w.heap.size ≠ w2.heap.size; omega) _)
  have FX1 := Lib.hid (show Q1.heap[w2.heap.size]? = some (.cells #[.int .i64 0, .bool true, .bool true, .int .i64 0, .int .i64 0, .int .i64 0, .int .i64 0, .int .i64 0] 45 (0, 0)) by rw [← hW]; exact b_put fX1 1 _ rfl)
  have HBV := Aside.mk (show Below w.heap.size w Q1 by rw [← hW]; exact hBV.setCell (by show w.heap.size ≤ w2.heap.size; omega) _)
  clear hW fX fX1 hBV
  refine any_take true_goes 6 ?_ ?_ (by simp only [List.getElem?_toArray, List.getElem?_cons_succ, List.getElem?_cons_zero]; exact rfl) (by kernel_rfl) (by kernel_rfl) (by kernel_rfl) (fun _ _ _ _ _ h => h) (by rfl) ?_ ?_
  rotate_left
  · intro wl hL
    skip
    go_simp
    try with_reducible rfl
  try simp only [Act.put, List.setIfInBounds_toArray, List.set_cons_zero, List.set_cons_succ]
  refine any_done (by kernel_rfl) ?_ _
  go_wp2_with fail
  refine (a_ops _).mono ?_
  rintro e w5 ⟨g, rfl, hg, -, hB5⟩
  have HG := Lib.hid hg
  have FX5 := Lib.hid (b_below FX.out hB5)
  have FX15 := Lib.hid (b_below FX1.out hB5)
  have HB5 := Aside.mk (bthen HBV.out hB5)
  clear hg hB5
  go_wp2_with fail
  refine (r_indexB opsL 12 g ((s.dropLast).dropLast) U HRM.out _ rfl (by omega) HG.out).mono ?_
  rintro e w6 ⟨rfl, rfl⟩
  rw [HO.out]
  have pc := cell_of_block FX15.out 6
  have pf := frozen_of_block FX15.out 6
  go_wp2_with fail
  refine any_begin (keepsBs_goes [w2.heap.size]) (by kernel_rfl) ?_
  generalize hW : World.drew _ = R0
  have fX : R0.heap[w.heap.size]? = some (.cells #[.int .i64 0, .bool false, .bool false, .int .i64 0, .int .i64 0, .int .i64 0, .int .i64 0, .int .i64 0] 45 (0, 0)) := by rw [← hW]; exact b_far FX5.out (p := ⟨w2.heap.size, 6, none⟩) (by show w.heap.size ≠ w2.heap.size; omega) _
  have fX1 : R0.heap[w2.heap.size]? = some (.cells #[.int .i64 0, .bool true, .bool true, .int .i64 0, .int .i64 0, .int .i64 0, .int .i64 o, .int .i64 0] 45 (0, 0)) := by rw [← hW]; exact b_put FX15.out 6 _ rfl
  have hBR : Below w.heap.size w R0 := by rw [← hW]; exact (HB5.out.setCell (by show w.heap.size ≤ w2.heap.size; omega) _).drew
  clear hW pc pf
  obtain ⟨r0, r1, r2, r3, r4, r5, r6, r7⟩ := b_cells8 fX1
  refine any_take (keepsBs_goes [w2.heap.size]) 0 ?_ ?_ (by simp only [List.getElem?_toArray, List.getElem?_cons_succ, List.getElem?_cons_zero]; exact rfl) (by kernel_rfl) (by kernel_rfl) (by kernel_rfl) (fun _ _ _ _ _ h => h) (by rfl) ?_ ?_
  rotate_left
  · intro wl hL
    have l0 := keep_cellR hL (by simp) r0; have l1 := keep_cellR hL (by simp) r1; have l2 := keep_cellR hL (by simp) r2; have l3 := keep_cellR hL (by simp) r3; have l4 := keep_cellR hL (by simp) r4; have l5 := keep_cellR hL (by simp) r5; have l6 := keep_cellR hL (by simp) r6; have l7 := keep_cellR hL (by simp) r7
    go_simp
    try with_reducible rfl
  try simp only [Act.put, List.setIfInBounds_toArray, List.set_cons_zero, List.set_cons_succ]
  refine any_take (keepsBs_goes [w2.heap.size]) 1 ?_ ?_ (by simp only [List.getElem?_toArray, List.getElem?_cons_succ, List.getElem?_cons_zero]; exact rfl) (by kernel_rfl) (by kernel_rfl) (by kernel_rfl) (fun _ _ _ _ _ h => h) (by rfl) ?_ ?_
  rotate_left
  · intro wl hL
    have l0 := keep_cellR hL (by simp) r0; have l1 := keep_cellR hL (by simp) r1; have l2 := keep_cellR hL (by simp) r2; have l3 := keep_cellR hL (by simp) r3; have l4 := keep_cellR hL (by simp) r4; have l5 := keep_cellR hL (by simp) r5; have l6 := keep_cellR hL (by simp) r6; have l7 := keep_cellR hL (by simp) r7
    go_simp
    try with_reducible rfl
  try simp only [Act.put, List.setIfInBounds_toArray, List.set_cons_zero, List.set_cons_succ]
  refine any_take (keepsBs_goes [w2.heap.size]) 2 ?_ ?_ (by simp only [List.getElem?_toArray, List.getElem?_cons_succ, List.getElem?_cons_zero]; exact rfl) (by kernel_rfl) (by kernel_rfl) (by kernel_rfl) (fun _ _ _ _ _ h => h) (by rfl) ?_ ?_
  rotate_left
  · intro wl hL
    have l0 := keep_cellR hL (by simp) r0; have l1 := keep_cellR hL (by simp) r1; have l2 := keep_cellR hL (by simp) r2; have l3 := keep_cellR hL (by simp) r3; have l4 := keep_cellR hL (by simp) r4; have l5 := keep_cellR hL (by simp) r5; have l6 := keep_cellR hL (by simp) r6; have l7 := keep_cellR hL (by simp) r7
    go_simp
    try with_reducible rfl
  try simp only [Act.put, List.setIfInBounds_toArray, List.set_cons_zero, List.set_cons_succ]
  refine any_take (keepsBs_goes [w2.heap.size]) 3 ?_ ?_ (by simp only [List.getElem?_toArray, List.getElem?_cons_succ, List.getElem?_cons_zero]; exact rfl) (by kernel_rfl) (by kernel_rfl) (by kernel_rfl) (fun _ _ _ _ _ h => h) (by rfl) ?_ ?_
  rotate_left
  · intro wl hL
    have l0 := keep_cellR hL (by simp) r0; have l1 := keep_cellR hL (by simp) r1; have l2 := keep_cellR hL (by simp) r2; have l3 := keep_cellR hL (by simp) r3; have l4 := keep_cellR hL (by simp) r4; have l5 := keep_cellR hL (by simp) r5; have l6 := keep_cellR hL (by simp) r6; have l7 := keep_cellR hL (by simp) r7
    go_simp
    try with_reducible rfl
  try simp only [Act.put, List.setIfInBounds_toArray, List.set_cons_zero, List.set_cons_succ]
  obtain ⟨x0, x1, x2, x3, x4, x5, x6, x7⟩ := b_cells8 fX
  have z0 := b_free fX
  have FXR := Lib.hid fX
  have hlXR : w.heap.size < R0.heap.size := block_lt fX
  refine any_one 4 _ (by kernel_rfl) (by simp only [List.getElem?_toArray, List.getElem?_cons_succ, List.getElem?_cons_zero]; exact rfl) (fun K hK => ?_)
  go_simp
  refine hK.out _ _ (keeps8 (by omega)) ?_
  clear hK K
  try simp only [Act.put, List.setIfInBounds_toArray, List.set_cons_zero, List.set_cons_succ]
  refine any_take (keepsBs_goes [w2.heap.size]) 5 ?_ ?_ (by simp only [List.getElem?_toArray, List.getElem?_cons_succ, List.getElem?_cons_zero]; exact rfl) (by kernel_rfl) (by kernel_rfl) (by kernel_rfl) (fun _ _ _ _ _ h => h) (by rfl) ?_ ?_
  rotate_left
  · intro wl hL
    skip
    go_simp
    try with_reducible rfl
  try simp only [Act.put, List.setIfInBounds_toArray, List.set_cons_zero, List.set_cons_succ]
  refine any_done (by kernel_rfl) ?_ _
  go_wp2_with fail
  refine bodyPost_ret (res_ct rfl _ _ w.heap.size 45 _ (0, 0) _ rfl (b_set8 FXR.out _ _ _ _ _ _ _ _) Tryz.underlying45 rfl (by kernel_rfl)) rfl ⟨⟨0, true, true, 0, 0, 0, o, 0⟩, decide (0 ≤ o), rfl, ?_, below8 hBR (Nat.le_refl _)⟩
  rw [HP.out]
  simp only [decide_eq_true_eq]
set_option maxRecDepth 100000 in
set_option maxHeartbeats 1600000 in
theorem r_parts_optf (s : List UInt8) (w : World) (hs : s.length ≤ 1000) (m : Int) (hm : idxL memsL s = m) (h0 : ¬ 0 ≤ m) (A B : List UInt8) (hc : Lib.cut s [46] = (A, B, false)) (h1 : s.getLast? = some 34) (hne : s ≠ []) (h2 : ¬ (s.dropLast).getLast? = some 39) (hne2 : s.dropLast ≠ []) : Calls Tryz.prog 18 #[.string ⟨s.toArray⟩] w (AtParts s w) := by
  obtain ⟨o, ho⟩ : ∃ o, idxL opsL (s.dropLast) = o := ⟨_, rfl⟩
  have hp : partsR s = (if 0 ≤ o then some ⟨0, false, true, 0, 0, 0, o, 0⟩ else none) := by
    have e1 : strip 34 s = (s.dropLast, true) := by unfold strip; rw [if_pos h1]
    have e2 : strip 39 (s.dropLast) = (s.dropLast, false) := by unfold strip; rw [if_neg h2]
    unfold partsR
    rw [hm, if_neg h0, hc]
    simp only [e1, e2, ho, Bool.false_eq_true, if_false]
  obtain ⟨S, hS⟩ : ∃ S : ByteArray, (⟨s.toArray⟩ : ByteArray) = S := ⟨_, rfl⟩
  have hSl : S.data.toList = s := by rw [← hS]
  have hSz : S.size ≤ 1000 := by rw [← hS, size_mk]; exact hs
  have HSL := Lib.hid hSl
  have hzS : 0 < S.size := by rw [← len_list, hSl]; exact List.length_pos_iff.2 hne
  have q1 : ((((S[S.size - 1]'(by omega)).toNat : Nat) : Int) == 34) = true := by
    have hl := last_get hSl hzS
    rw [hl] at h1
    have := Option.some.inj h1; rw [this]; rfl
  obtain ⟨T, hT⟩ : ∃ T : ByteArray, S.extract 0 (S.size - 1) = T := ⟨_, rfl⟩
  have hTl : T.data.toList = s.dropLast := by
    rw [← hT, extract_list, hSl, List.drop_zero, Nat.sub_zero, ← len_list S, hSl, ← List.dropLast_eq_take]
  have hTz : T.size ≤ 1000 := by rw [← hT]; simp; omega
  have HTL := Lib.hid hTl
  have hzT : 0 < T.size := by rw [← len_list, hTl]; exact List.length_pos_iff.2 hne2
  have q2 : ((((T[T.size - 1]'(by omega)).toNat : Nat) : Int) == 39) = false := by
    have hl := last_get hTl hzT
    rw [hl] at h2
    simp only [beq_eq_false_iff_ne, ne_eq]; intro e; exact h2 (by congr 1; apply UInt8.toNat_inj.1; exact Int.ofNat.inj e)
  have hRm : T = ⟨(s.dropLast).toArray⟩ := by rw [← hTl]
  have HRM := Lib.hid hRm
  have hrl : (s.dropLast).length ≤ 1000 := by first | omega | (simp only [List.length_dropLast]; omega)
  obtain ⟨X, hX⟩ : ∃ b, w.heap.size = b := ⟨_, rfl⟩
  have HP := Lib.hid hp
  have HM := Lib.hid hm
  have HX := Lib.hid hX
  have HS := Lib.hid hS
  have HC := Lib.hid hc
  have HO := Lib.hid ho
  rw [hS]
  clear hp hm hX hS hc ho hSl hRm h1 h2 hTl 
  go_enter Tryz.func18, Tryz.ntmps18
  go_wp2_with fail
  rw [← HS.out]
  refine (r_index memsL 4 (w.heap.size + 1) s _ rfl (by omega) (by rw [HX.out]; exact b_at (by simp [HX.out]) _)).mono ?_
  rintro e w1 ⟨rfl, rfl⟩
  rw [HM.out]
  go_wp2_with fail
  refine (r_cut s [46] _ (by omega) (by simp) (by simp)).mono ?_
  rintro e w2 ⟨rfl, hB2⟩
  rw [HC.out]
  simp only []
  have fX : w2.heap[w.heap.size]? = some (.cells #[.int .i64 0, .bool false, .bool false, .int .i64 0, .int .i64 0, .int .i64 0, .int .i64 0, .int .i64 0] 45 (0, 0)) := b_below (b_alloc (b_new _ _) _) hB2
  have hB02 : Below w.heap.size w w2 := bthen (bthen (ablow _ _) (ablow _ _)) hB2
  have FX := Lib.hid fX
  have HB02 := Aside.mk hB02
  have hlX : w.heap.size < w2.heap.size := block_lt fX
  clear fX hB02 hB2
  rw [HS.out]
  go_wp2_with fail
  refine any_begin true_goes (by kernel_rfl) ?_
  generalize hW : World.drew _ = P0
  have fX : P0.heap[w.heap.size]? = some (.cells #[.int .i64 0, .bool false, .bool false, .int .i64 0, .int .i64 0, .int .i64 0, .int .i64 0, .int .i64 0] 45 (0, 0)) := by rw [← hW]; exact b_alloc FX.out _
  have fX1 : P0.heap[w2.heap.size]? = some (.cells #[.int .i64 0, .bool false, .bool false, .int .i64 0, .int .i64 0, .int .i64 0, .int .i64 0, .int .i64 0] 45 (0, 0)) := by rw [← hW]; exact b_new _ _
  have hBV : Below w.heap.size w P0 := by rw [← hW]; exact (bthen HB02.out (ablow _ _)).drew
  clear hW
  refine any_take true_goes 0 ?_ ?_ (by simp only [List.getElem?_toArray, List.getElem?_cons_succ, List.getElem?_cons_zero]; exact rfl) (by kernel_rfl) (by kernel_rfl) (by kernel_rfl) (fun _ _ _ _ _ h => h) (by rfl) ?_ ?_
  rotate_left
  · intro wl hL
    have wa : IntKind.i64.wrap ((S.size : Int) - 1) = (S.size : Int) - 1 := IntWalk.i64_in _ ⟨by omega, by omega⟩
    have wb : ((S.size : Int) - 1).toNat = S.size - 1 := by omega
    have wd : (1 : Int) ≤ S.size := by omega
    have we : (S.size : Int) - 1 ≤ S.size := by omega
    go_simp
    try with_reducible rfl
  try simp only [Act.put, List.setIfInBounds_toArray, List.set_cons_zero, List.set_cons_succ]
  refine any_take true_goes 1 ?_ ?_ (by simp only [List.getElem?_toArray, List.getElem?_cons_succ, List.getElem?_cons_zero]; exact rfl) (by kernel_rfl) (by kernel_rfl) (by kernel_rfl) (fun _ _ _ _ _ h => h) (by rfl) ?_ ?_
  rotate_left
  · intro wl hL
    have wa : IntKind.i64.wrap ((S.size : Int) - 1) = (S.size : Int) - 1 := IntWalk.i64_in _ ⟨by omega, by omega⟩
    have wb : ((S.size : Int) - 1).toNat = S.size - 1 := by omega
    have wd : (1 : Int) ≤ S.size := by omega
    have we : (S.size : Int) - 1 ≤ S.size := by omega
    go_simp
    try with_reducible rfl
  try simp only [Act.put, List.setIfInBounds_toArray, List.set_cons_zero, List.set_cons_succ]
  refine any_take true_goes 2 ?_ ?_ (by simp only [List.getElem?_toArray, List.getElem?_cons_succ, List.getElem?_cons_zero]; exact rfl) (by kernel_rfl) (by kernel_rfl) (by kernel_rfl) (fun _ _ _ _ _ h => h) (by rfl) ?_ ?_
  rotate_left
  · intro wl hL
    have wa : IntKind.i64.wrap ((S.size : Int) - 1) = (S.size : Int) - 1 := IntWalk.i64_in _ ⟨by omega, by omega⟩
    have wb : ((S.size : Int) - 1).toNat = S.size - 1 := by omega
    have wd : (1 : Int) ≤ S.size := by omega
    have we : (S.size : Int) - 1 ≤ S.size := by omega
    go_simp
    try with_reducible rfl
  try simp only [Act.put, List.setIfInBounds_toArray, List.set_cons_zero, List.set_cons_succ]
  refine any_take true_goes 3 ?_ ?_ (by simp only [List.getElem?_toArray, List.getElem?_cons_succ, List.getElem?_cons_zero]; exact rfl) (by kernel_rfl) (by kernel_rfl) (by kernel_rfl) (fun _ _ _ _ _ h => h) (by rfl) ?_ ?_
  rotate_left
  · intro wl hL
    have wa : IntKind.i64.wrap ((S.size : Int) - 1) = (S.size : Int) - 1 := IntWalk.i64_in _ ⟨by omega, by omega⟩
    have wb : ((S.size : Int) - 1).toNat = S.size - 1 := by omega
    have wd : (1 : Int) ≤ S.size := by omega
    have we : (S.size : Int) - 1 ≤ S.size := by omega
    go_simp
    try with_reducible rfl
  try simp only [Act.put, List.setIfInBounds_toArray, List.set_cons_zero, List.set_cons_succ]
  refine any_take true_goes 4 ?_ ?_ (by simp only [List.getElem?_toArray, List.getElem?_cons_succ, List.getElem?_cons_zero]; exact rfl) (by kernel_rfl) (by kernel_rfl) (by kernel_rfl) (fun _ _ _ _ _ h => h) (by rfl) ?_ ?_
  rotate_left
  · intro wl hL
    have wa : IntKind.i64.wrap ((S.size : Int) - 1) = (S.size : Int) - 1 := IntWalk.i64_in _ ⟨by omega, by omega⟩
    have wb : ((S.size : Int) - 1).toNat = S.size - 1 := by omega
    have wd : (1 : Int) ≤ S.size := by omega
    have we : (S.size : Int) - 1 ≤ S.size := by omega
    go_simp
    try with_reducible rfl
  try simp only [Act.put, List.setIfInBounds_toArray, List.set_cons_zero, List.set_cons_succ]
  have pc := cell_of_block fX1 2
  have pf := frozen_of_block fX1 2
  refine any_one 5 _ (by kernel_rfl) (by simp only [List.getElem?_toArray, List.getElem?_cons_succ, List.getElem?_cons_zero]; exact rfl) (fun K hK => ?_)
  go_simp
  refine hK.out _ _ trivial ?_
  clear hK K pc pf
  try simp only [Act.put, List.setIfInBounds_toArray, List.set_cons_zero, List.set_cons_succ]
  generalize hW : World.setCell _ _ _ = P1
  have FX := Lib.hid (show P1.heap[w.heap.size]? = some _ by rw [← hW]; exact b_far fX (p := ⟨w2.heap.size, 2, none⟩) (by show w.heap.size ≠ w2.heap.size; omega) _)
  have FX1 := Lib.hid (show P1.heap[w2.heap.size]? = some (.cells #[.int .i64 0, .bool false, .bool true, .int .i64 0, .int .i64 0, .int .i64 0, .int .i64 0, .int .i64 0] 45 (0, 0)) by rw [← hW]; exact b_put fX1 2 _ rfl)
  have HBV := Aside.mk (show Below w.heap.size w P1 by rw [← hW]; exact hBV.setCell (by show w.heap.size ≤ w2.heap.size; omega) _)
  clear hW fX fX1 hBV
  refine any_take true_goes 6 ?_ ?_ (by simp only [List.getElem?_toArray, List.getElem?_cons_succ, List.getElem?_cons_zero]; exact rfl) (by kernel_rfl) (by kernel_rfl) (by kernel_rfl) (fun _ _ _ _ _ h => h) (by rfl) ?_ ?_
  rotate_left
  · intro wl hL
    skip
    go_simp
    try with_reducible rfl
  try simp only [Act.put, List.setIfInBounds_toArray, List.set_cons_zero, List.set_cons_succ]
  refine any_done (by kernel_rfl) ?_ _
  go_wp2_with fail
  refine (a_ops _).mono ?_
  rintro e w5 ⟨g, rfl, hg, -, hB5⟩
  have HG := Lib.hid hg
  have FX5 := Lib.hid (b_below FX.out hB5)
  have FX15 := Lib.hid (b_below FX1.out hB5)
  have HB5 := Aside.mk (bthen HBV.out hB5)
  clear hg hB5
  go_wp2_with fail
  refine (r_indexB opsL 12 g (s.dropLast) T HRM.out _ rfl (by omega) HG.out).mono ?_
  rintro e w6 ⟨rfl, rfl⟩
  rw [HO.out]
  have pc := cell_of_block FX15.out 6
  have pf := frozen_of_block FX15.out 6
  go_wp2_with fail
  refine any_begin (keepsBs_goes [w2.heap.size]) (by kernel_rfl) ?_
  generalize hW : World.drew _ = R0
  have fX : R0.heap[w.heap.size]? = some (.cells #[.int .i64 0, .bool false, .bool false, .int .i64 0, .int .i64 0, .int .i64 0, .int .i64 0, .int .i64 0] 45 (0, 0)) := by rw [← hW]; exact b_far FX5.out (p := ⟨w2.heap.size, 6, none⟩) (by show w.heap.size ≠ w2.heap.size; omega) _
  have fX1 : R0.heap[w2.heap.size]? = some (.cells #[.int .i64 0, .bool false, .bool true, .int .i64 0, .int .i64 0, .int .i64 0, .int .i64 o, .int .i64 0] 45 (0, 0)) := by rw [← hW]; exact b_put FX15.out 6 _ rfl
  have hBR : Below w.heap.size w R0 := by rw [← hW]; exact (HB5.out.setCell (by show w.heap.size ≤ w2.heap.size; omega) _).drew
  clear hW pc pf
  obtain ⟨r0, r1, r2, r3, r4, r5, r6, r7⟩ := b_cells8 fX1
  refine any_take (keepsBs_goes [w2.heap.size]) 0 ?_ ?_ (by simp only [List.getElem?_toArray, List.getElem?_cons_succ, List.getElem?_cons_zero]; exact rfl) (by kernel_rfl) (by kernel_rfl) (by kernel_rfl) (fun _ _ _ _ _ h => h) (by rfl) ?_ ?_
  rotate_left
  · intro wl hL
    have l0 := keep_cellR hL (by simp) r0; have l1 := keep_cellR hL (by simp) r1; have l2 := keep_cellR hL (by simp) r2; have l3 := keep_cellR hL (by simp) r3; have l4 := keep_cellR hL (by simp) r4; have l5 := keep_cellR hL (by simp) r5; have l6 := keep_cellR hL (by simp) r6; have l7 := keep_cellR hL (by simp) r7
    go_simp
    try with_reducible rfl
  try simp only [Act.put, List.setIfInBounds_toArray, List.set_cons_zero, List.set_cons_succ]
  refine any_take (keepsBs_goes [w2.heap.size]) 1 ?_ ?_ (by simp only [List.getElem?_toArray, List.getElem?_cons_succ, List.getElem?_cons_zero]; exact rfl) (by kernel_rfl) (by kernel_rfl) (by kernel_rfl) (fun _ _ _ _ _ h => h) (by rfl) ?_ ?_
  rotate_left
  · intro wl hL
    have l0 := keep_cellR hL (by simp) r0; have l1 := keep_cellR hL (by simp) r1; have l2 := keep_cellR hL (by simp) r2; have l3 := keep_cellR hL (by simp) r3; have l4 := keep_cellR hL (by simp) r4; have l5 := keep_cellR hL (by simp) r5; have l6 := keep_cellR hL (by simp) r6; have l7 := keep_cellR hL (by simp) r7
    go_simp
    try with_reducible rfl
  try simp only [Act.put, List.setIfInBounds_toArray, List.set_cons_zero, List.set_cons_succ]
  refine any_take (keepsBs_goes [w2.heap.size]) 2 ?_ ?_ (by simp only [List.getElem?_toArray, List.getElem?_cons_succ, List.getElem?_cons_zero]; exact rfl) (by kernel_rfl) (by kernel_rfl) (by kernel_rfl) (fun _ _ _ _ _ h => h) (by rfl) ?_ ?_
  rotate_left
  · intro wl hL
    have l0 := keep_cellR hL (by simp) r0; have l1 := keep_cellR hL (by simp) r1; have l2 := keep_cellR hL (by simp) r2; have l3 := keep_cellR hL (by simp) r3; have l4 := keep_cellR hL (by simp) r4; have l5 := keep_cellR hL (by simp) r5; have l6 := keep_cellR hL (by simp) r6; have l7 := keep_cellR hL (by simp) r7
    go_simp
    try with_reducible rfl
  try simp only [Act.put, List.setIfInBounds_toArray, List.set_cons_zero, List.set_cons_succ]
  refine any_take (keepsBs_goes [w2.heap.size]) 3 ?_ ?_ (by simp only [List.getElem?_toArray, List.getElem?_cons_succ, List.getElem?_cons_zero]; exact rfl) (by kernel_rfl) (by kernel_rfl) (by kernel_rfl) (fun _ _ _ _ _ h => h) (by rfl) ?_ ?_
  rotate_left
  · intro wl hL
    have l0 := keep_cellR hL (by simp) r0; have l1 := keep_cellR hL (by simp) r1; have l2 := keep_cellR hL (by simp) r2; have l3 := keep_cellR hL (by simp) r3; have l4 := keep_cellR hL (by simp) r4; have l5 := keep_cellR hL (by simp) r5; have l6 := keep_cellR hL (by simp) r6; have l7 := keep_cellR hL (by simp) r7
    go_simp
    try with_reducible rfl
  try simp only [Act.put, List.setIfInBounds_toArray, List.set_cons_zero, List.set_cons_succ]
  obtain ⟨x0, x1, x2, x3, x4, x5, x6, x7⟩ := b_cells8 fX
  have z0 := b_free fX
  have FXR := Lib.hid fX
  have hlXR : w.heap.size < R0.heap.size := block_lt fX
  refine any_one 4 _ (by kernel_rfl) (by simp only [List.getElem?_toArray, List.getElem?_cons_succ, List.getElem?_cons_zero]; exact rfl) (fun K hK => ?_)
  go_simp
  refine hK.out _ _ (keeps8 (by omega)) ?_
  clear hK K
  try simp only [Act.put, List.setIfInBounds_toArray, List.set_cons_zero, List.set_cons_succ]
  refine any_take (keepsBs_goes [w2.heap.size]) 5 ?_ ?_ (by simp only [List.getElem?_toArray, List.getElem?_cons_succ, List.getElem?_cons_zero]; exact rfl) (by kernel_rfl) (by kernel_rfl) (by kernel_rfl) (fun _ _ _ _ _ h => h) (by rfl) ?_ ?_
  rotate_left
  · intro wl hL
    skip
    go_simp
    try with_reducible rfl
  try simp only [Act.put, List.setIfInBounds_toArray, List.set_cons_zero, List.set_cons_succ]
  refine any_done (by kernel_rfl) ?_ _
  go_wp2_with fail
  refine bodyPost_ret (res_ct rfl _ _ w.heap.size 45 _ (0, 0) _ rfl (b_set8 FXR.out _ _ _ _ _ _ _ _) Tryz.underlying45 rfl (by kernel_rfl)) rfl ⟨⟨0, false, true, 0, 0, 0, o, 0⟩, decide (0 ≤ o), rfl, ?_, below8 hBR (Nat.le_refl _)⟩
  rw [HP.out]
  simp only [decide_eq_true_eq]
set_option maxRecDepth 100000 in
set_option maxHeartbeats 1600000 in
theorem r_parts_opte (s : List UInt8) (w : World) (hs : s.length ≤ 1000) (m : Int) (hm : idxL memsL s = m) (h0 : ¬ 0 ≤ m) (A B : List UInt8) (hc : Lib.cut s [46] = (A, B, false)) (h1 : s.getLast? = some 34) (hne : s ≠ []) (h2 : s.dropLast = []) : Calls Tryz.prog 18 #[.string ⟨s.toArray⟩] w (AtParts s w) := by
  obtain ⟨o, ho⟩ : ∃ o, idxL opsL (s.dropLast) = o := ⟨_, rfl⟩
  have hp : partsR s = (if 0 ≤ o then some ⟨0, false, true, 0, 0, 0, o, 0⟩ else none) := by
    have e1 : strip 34 s = (s.dropLast, true) := by unfold strip; rw [if_pos h1]
    have e2 : strip 39 (s.dropLast) = (s.dropLast, false) := by unfold strip; rw [h2]; rfl
    unfold partsR
    rw [hm, if_neg h0, hc]
    simp only [e1, e2, ho, Bool.false_eq_true, if_false]
  obtain ⟨S, hS⟩ : ∃ S : ByteArray, (⟨s.toArray⟩ : ByteArray) = S := ⟨_, rfl⟩
  have hSl : S.data.toList = s := by rw [← hS]
  have hSz : S.size ≤ 1000 := by rw [← hS, size_mk]; exact hs
  have HSL := Lib.hid hSl
  have hzS : 0 < S.size := by rw [← len_list, hSl]; exact List.length_pos_iff.2 hne
  have q1 : ((((S[S.size - 1]'(by omega)).toNat : Nat) : Int) == 34) = true := by
    have hl := last_get hSl hzS
    rw [hl] at h1
    have := Option.some.inj h1; rw [this]; rfl
  obtain ⟨T, hT⟩ : ∃ T : ByteArray, S.extract 0 (S.size - 1) = T := ⟨_, rfl⟩
  have hTl : T.data.toList = s.dropLast := by
    rw [← hT, extract_list, hSl, List.drop_zero, Nat.sub_zero, ← len_list S, hSl, ← List.dropLast_eq_take]
  have hTz : T.size ≤ 1000 := by rw [← hT]; simp; omega
  have HTL := Lib.hid hTl
  have hzT : ¬ 0 < T.size := by rw [← len_list, hTl, h2]; simp
  have hRm : T = ⟨(s.dropLast).toArray⟩ := by rw [← hTl]
  have HRM := Lib.hid hRm
  have hrl : (s.dropLast).length ≤ 1000 := by first | omega | (simp only [List.length_dropLast]; omega)
  obtain ⟨X, hX⟩ : ∃ b, w.heap.size = b := ⟨_, rfl⟩
  have HP := Lib.hid hp
  have HM := Lib.hid hm
  have HX := Lib.hid hX
  have HS := Lib.hid hS
  have HC := Lib.hid hc
  have HO := Lib.hid ho
  rw [hS]
  clear hp hm hX hS hc ho hSl hRm h1 h2 hTl 
  go_enter Tryz.func18, Tryz.ntmps18
  go_wp2_with fail
  rw [← HS.out]
  refine (r_index memsL 4 (w.heap.size + 1) s _ rfl (by omega) (by rw [HX.out]; exact b_at (by simp [HX.out]) _)).mono ?_
  rintro e w1 ⟨rfl, rfl⟩
  rw [HM.out]
  go_wp2_with fail
  refine (r_cut s [46] _ (by omega) (by simp) (by simp)).mono ?_
  rintro e w2 ⟨rfl, hB2⟩
  rw [HC.out]
  simp only []
  have fX : w2.heap[w.heap.size]? = some (.cells #[.int .i64 0, .bool false, .bool false, .int .i64 0, .int .i64 0, .int .i64 0, .int .i64 0, .int .i64 0] 45 (0, 0)) := b_below (b_alloc (b_new _ _) _) hB2
  have hB02 : Below w.heap.size w w2 := bthen (bthen (ablow _ _) (ablow _ _)) hB2
  have FX := Lib.hid fX
  have HB02 := Aside.mk hB02
  have hlX : w.heap.size < w2.heap.size := block_lt fX
  clear fX hB02 hB2
  rw [HS.out]
  go_wp2_with fail
  refine any_begin true_goes (by kernel_rfl) ?_
  generalize hW : World.drew _ = P0
  have fX : P0.heap[w.heap.size]? = some (.cells #[.int .i64 0, .bool false, .bool false, .int .i64 0, .int .i64 0, .int .i64 0, .int .i64 0, .int .i64 0] 45 (0, 0)) := by rw [← hW]; exact b_alloc FX.out _
  have fX1 : P0.heap[w2.heap.size]? = some (.cells #[.int .i64 0, .bool false, .bool false, .int .i64 0, .int .i64 0, .int .i64 0, .int .i64 0, .int .i64 0] 45 (0, 0)) := by rw [← hW]; exact b_new _ _
  have hBV : Below w.heap.size w P0 := by rw [← hW]; exact (bthen HB02.out (ablow _ _)).drew
  clear hW
  refine any_take true_goes 0 ?_ ?_ (by simp only [List.getElem?_toArray, List.getElem?_cons_succ, List.getElem?_cons_zero]; exact rfl) (by kernel_rfl) (by kernel_rfl) (by kernel_rfl) (fun _ _ _ _ _ h => h) (by rfl) ?_ ?_
  rotate_left
  · intro wl hL
    have wa : IntKind.i64.wrap ((S.size : Int) - 1) = (S.size : Int) - 1 := IntWalk.i64_in _ ⟨by omega, by omega⟩
    have wb : ((S.size : Int) - 1).toNat = S.size - 1 := by omega
    have wd : (1 : Int) ≤ S.size := by omega
    have we : (S.size : Int) - 1 ≤ S.size := by omega
    go_simp
    try with_reducible rfl
  try simp only [Act.put, List.setIfInBounds_toArray, List.set_cons_zero, List.set_cons_succ]
  refine any_take true_goes 1 ?_ ?_ (by simp only [List.getElem?_toArray, List.getElem?_cons_succ, List.getElem?_cons_zero]; exact rfl) (by kernel_rfl) (by kernel_rfl) (by kernel_rfl) (fun _ _ _ _ _ h => h) (by rfl) ?_ ?_
  rotate_left
  · intro wl hL
    have wa : IntKind.i64.wrap ((S.size : Int) - 1) = (S.size : Int) - 1 := IntWalk.i64_in _ ⟨by omega, by omega⟩
    have wb : ((S.size : Int) - 1).toNat = S.size - 1 := by omega
    have wd : (1 : Int) ≤ S.size := by omega
    have we : (S.size : Int) - 1 ≤ S.size := by omega
    go_simp
    try with_reducible rfl
  try simp only [Act.put, List.setIfInBounds_toArray, List.set_cons_zero, List.set_cons_succ]
  refine any_take true_goes 2 ?_ ?_ (by simp only [List.getElem?_toArray, List.getElem?_cons_succ, List.getElem?_cons_zero]; exact rfl) (by kernel_rfl) (by kernel_rfl) (by kernel_rfl) (fun _ _ _ _ _ h => h) (by rfl) ?_ ?_
  rotate_left
  · intro wl hL
    have wa : IntKind.i64.wrap ((S.size : Int) - 1) = (S.size : Int) - 1 := IntWalk.i64_in _ ⟨by omega, by omega⟩
    have wb : ((S.size : Int) - 1).toNat = S.size - 1 := by omega
    have wd : (1 : Int) ≤ S.size := by omega
    have we : (S.size : Int) - 1 ≤ S.size := by omega
    go_simp
    try with_reducible rfl
  try simp only [Act.put, List.setIfInBounds_toArray, List.set_cons_zero, List.set_cons_succ]
  refine any_take true_goes 3 ?_ ?_ (by simp only [List.getElem?_toArray, List.getElem?_cons_succ, List.getElem?_cons_zero]; exact rfl) (by kernel_rfl) (by kernel_rfl) (by kernel_rfl) (fun _ _ _ _ _ h => h) (by rfl) ?_ ?_
  rotate_left
  · intro wl hL
    have wa : IntKind.i64.wrap ((S.size : Int) - 1) = (S.size : Int) - 1 := IntWalk.i64_in _ ⟨by omega, by omega⟩
    have wb : ((S.size : Int) - 1).toNat = S.size - 1 := by omega
    have wd : (1 : Int) ≤ S.size := by omega
    have we : (S.size : Int) - 1 ≤ S.size := by omega
    go_simp
    try with_reducible rfl
  try simp only [Act.put, List.setIfInBounds_toArray, List.set_cons_zero, List.set_cons_succ]
  refine any_take true_goes 4 ?_ ?_ (by simp only [List.getElem?_toArray, List.getElem?_cons_succ, List.getElem?_cons_zero]; exact rfl) (by kernel_rfl) (by kernel_rfl) (by kernel_rfl) (fun _ _ _ _ _ h => h) (by rfl) ?_ ?_
  rotate_left
  · intro wl hL
    have wa : IntKind.i64.wrap ((S.size : Int) - 1) = (S.size : Int) - 1 := IntWalk.i64_in _ ⟨by omega, by omega⟩
    have wb : ((S.size : Int) - 1).toNat = S.size - 1 := by omega
    have wd : (1 : Int) ≤ S.size := by omega
    have we : (S.size : Int) - 1 ≤ S.size := by omega
    go_simp
    try with_reducible rfl
  try simp only [Act.put, List.setIfInBounds_toArray, List.set_cons_zero, List.set_cons_succ]
  have pc := cell_of_block fX1 2
  have pf := frozen_of_block fX1 2
  refine any_one 5 _ (by kernel_rfl) (by simp only [List.getElem?_toArray, List.getElem?_cons_succ, List.getElem?_cons_zero]; exact rfl) (fun K hK => ?_)
  go_simp
  refine hK.out _ _ trivial ?_
  clear hK K pc pf
  try simp only [Act.put, List.setIfInBounds_toArray, List.set_cons_zero, List.set_cons_succ]
  generalize hW : World.setCell _ _ _ = P1
  have FX := Lib.hid (show P1.heap[w.heap.size]? = some _ by rw [← hW]; exact b_far fX (p := ⟨w2.heap.size, 2, none⟩) (by show w.heap.size ≠ w2.heap.size; omega) _)
  have FX1 := Lib.hid (show P1.heap[w2.heap.size]? = some (.cells #[.int .i64 0, .bool false, .bool true, .int .i64 0, .int .i64 0, .int .i64 0, .int .i64 0, .int .i64 0] 45 (0, 0)) by rw [← hW]; exact b_put fX1 2 _ rfl)
  have HBV := Aside.mk (show Below w.heap.size w P1 by rw [← hW]; exact hBV.setCell (by show w.heap.size ≤ w2.heap.size; omega) _)
  clear hW fX fX1 hBV
  refine any_take true_goes 6 ?_ ?_ (by simp only [List.getElem?_toArray, List.getElem?_cons_succ, List.getElem?_cons_zero]; exact rfl) (by kernel_rfl) (by kernel_rfl) (by kernel_rfl) (fun _ _ _ _ _ h => h) (by rfl) ?_ ?_
  rotate_left
  · intro wl hL
    skip
    go_simp
    try with_reducible rfl
  try simp only [Act.put, List.setIfInBounds_toArray, List.set_cons_zero, List.set_cons_succ]
  refine any_done (by kernel_rfl) ?_ _
  go_wp2_with fail
  refine (a_ops _).mono ?_
  rintro e w5 ⟨g, rfl, hg, -, hB5⟩
  have HG := Lib.hid hg
  have FX5 := Lib.hid (b_below FX.out hB5)
  have FX15 := Lib.hid (b_below FX1.out hB5)
  have HB5 := Aside.mk (bthen HBV.out hB5)
  clear hg hB5
  go_wp2_with fail
  refine (r_indexB opsL 12 g (s.dropLast) T HRM.out _ rfl (by omega) HG.out).mono ?_
  rintro e w6 ⟨rfl, rfl⟩
  rw [HO.out]
  have pc := cell_of_block FX15.out 6
  have pf := frozen_of_block FX15.out 6
  go_wp2_with fail
  refine any_begin (keepsBs_goes [w2.heap.size]) (by kernel_rfl) ?_
  generalize hW : World.drew _ = R0
  have fX : R0.heap[w.heap.size]? = some (.cells #[.int .i64 0, .bool false, .bool false, .int .i64 0, .int .i64 0, .int .i64 0, .int .i64 0, .int .i64 0] 45 (0, 0)) := by rw [← hW]; exact b_far FX5.out (p := ⟨w2.heap.size, 6, none⟩) (by show w.heap.size ≠ w2.heap.size; omega) _
  have fX1 : R0.heap[w2.heap.size]? = some (.cells #[.int .i64 0, .bool false, .bool true, .int .i64 0, .int .i64 0, .int .i64 0, .int .i64 o, .int .i64 0] 45 (0, 0)) := by rw [← hW]; exact b_put FX15.out 6 _ rfl
  have hBR : Below w.heap.size w R0 := by rw [← hW]; exact (HB5.out.setCell (by show w.heap.size ≤ w2.heap.size; omega) _).drew
  clear hW pc pf
  obtain ⟨r0, r1, r2, r3, r4, r5, r6, r7⟩ := b_cells8 fX1
  refine any_take (keepsBs_goes [w2.heap.size]) 0 ?_ ?_ (by simp only [List.getElem?_toArray, List.getElem?_cons_succ, List.getElem?_cons_zero]; exact rfl) (by kernel_rfl) (by kernel_rfl) (by kernel_rfl) (fun _ _ _ _ _ h => h) (by rfl) ?_ ?_
  rotate_left
  · intro wl hL
    have l0 := keep_cellR hL (by simp) r0; have l1 := keep_cellR hL (by simp) r1; have l2 := keep_cellR hL (by simp) r2; have l3 := keep_cellR hL (by simp) r3; have l4 := keep_cellR hL (by simp) r4; have l5 := keep_cellR hL (by simp) r5; have l6 := keep_cellR hL (by simp) r6; have l7 := keep_cellR hL (by simp) r7
    go_simp
    try with_reducible rfl
  try simp only [Act.put, List.setIfInBounds_toArray, List.set_cons_zero, List.set_cons_succ]
  refine any_take (keepsBs_goes [w2.heap.size]) 1 ?_ ?_ (by simp only [List.getElem?_toArray, List.getElem?_cons_succ, List.getElem?_cons_zero]; exact rfl) (by kernel_rfl) (by kernel_rfl) (by kernel_rfl) (fun _ _ _ _ _ h => h) (by rfl) ?_ ?_
  rotate_left
  · intro wl hL
    have l0 := keep_cellR hL (by simp) r0; have l1 := keep_cellR hL (by simp) r1; have l2 := keep_cellR hL (by simp) r2; have l3 := keep_cellR hL (by simp) r3; have l4 := keep_cellR hL (by simp) r4; have l5 := keep_cellR hL (by simp) r5; have l6 := keep_cellR hL (by simp) r6; have l7 := keep_cellR hL (by simp) r7
    go_simp
    try with_reducible rfl
  try simp only [Act.put, List.setIfInBounds_toArray, List.set_cons_zero, List.set_cons_succ]
  refine any_take (keepsBs_goes [w2.heap.size]) 2 ?_ ?_ (by simp only [List.getElem?_toArray, List.getElem?_cons_succ, List.getElem?_cons_zero]; exact rfl) (by kernel_rfl) (by kernel_rfl) (by kernel_rfl) (fun _ _ _ _ _ h => h) (by rfl) ?_ ?_
  rotate_left
  · intro wl hL
    have l0 := keep_cellR hL (by simp) r0; have l1 := keep_cellR hL (by simp) r1; have l2 := keep_cellR hL (by simp) r2; have l3 := keep_cellR hL (by simp) r3; have l4 := keep_cellR hL (by simp) r4; have l5 := keep_cellR hL (by simp) r5; have l6 := keep_cellR hL (by simp) r6; have l7 := keep_cellR hL (by simp) r7
    go_simp
    try with_reducible rfl
  try simp only [Act.put, List.setIfInBounds_toArray, List.set_cons_zero, List.set_cons_succ]
  refine any_take (keepsBs_goes [w2.heap.size]) 3 ?_ ?_ (by simp only [List.getElem?_toArray, List.getElem?_cons_succ, List.getElem?_cons_zero]; exact rfl) (by kernel_rfl) (by kernel_rfl) (by kernel_rfl) (fun _ _ _ _ _ h => h) (by rfl) ?_ ?_
  rotate_left
  · intro wl hL
    have l0 := keep_cellR hL (by simp) r0; have l1 := keep_cellR hL (by simp) r1; have l2 := keep_cellR hL (by simp) r2; have l3 := keep_cellR hL (by simp) r3; have l4 := keep_cellR hL (by simp) r4; have l5 := keep_cellR hL (by simp) r5; have l6 := keep_cellR hL (by simp) r6; have l7 := keep_cellR hL (by simp) r7
    go_simp
    try with_reducible rfl
  try simp only [Act.put, List.setIfInBounds_toArray, List.set_cons_zero, List.set_cons_succ]
  obtain ⟨x0, x1, x2, x3, x4, x5, x6, x7⟩ := b_cells8 fX
  have z0 := b_free fX
  have FXR := Lib.hid fX
  have hlXR : w.heap.size < R0.heap.size := block_lt fX
  refine any_one 4 _ (by kernel_rfl) (by simp only [List.getElem?_toArray, List.getElem?_cons_succ, List.getElem?_cons_zero]; exact rfl) (fun K hK => ?_)
  go_simp
  refine hK.out _ _ (keeps8 (by omega)) ?_
  clear hK K
  try simp only [Act.put, List.setIfInBounds_toArray, List.set_cons_zero, List.set_cons_succ]
  refine any_take (keepsBs_goes [w2.heap.size]) 5 ?_ ?_ (by simp only [List.getElem?_toArray, List.getElem?_cons_succ, List.getElem?_cons_zero]; exact rfl) (by kernel_rfl) (by kernel_rfl) (by kernel_rfl) (fun _ _ _ _ _ h => h) (by rfl) ?_ ?_
  rotate_left
  · intro wl hL
    skip
    go_simp
    try with_reducible rfl
  try simp only [Act.put, List.setIfInBounds_toArray, List.set_cons_zero, List.set_cons_succ]
  refine any_done (by kernel_rfl) ?_ _
  go_wp2_with fail
  refine bodyPost_ret (res_ct rfl _ _ w.heap.size 45 _ (0, 0) _ rfl (b_set8 FXR.out _ _ _ _ _ _ _ _) Tryz.underlying45 rfl (by kernel_rfl)) rfl ⟨⟨0, false, true, 0, 0, 0, o, 0⟩, decide (0 ≤ o), rfl, ?_, below8 hBR (Nat.le_refl _)⟩
  rw [HP.out]
  simp only [decide_eq_true_eq]
set_option maxRecDepth 100000 in
set_option maxHeartbeats 1600000 in
theorem r_parts_opft (s : List UInt8) (w : World) (hs : s.length ≤ 1000) (m : Int) (hm : idxL memsL s = m) (h0 : ¬ 0 ≤ m) (A B : List UInt8) (hc : Lib.cut s [46] = (A, B, false)) (h1 : ¬ s.getLast? = some 34) (hne : s ≠ []) (h2 : (s).getLast? = some 39) (hne2 : s ≠ []) : Calls Tryz.prog 18 #[.string ⟨s.toArray⟩] w (AtParts s w) := by
  obtain ⟨o, ho⟩ : ∃ o, idxL opsL ((s).dropLast) = o := ⟨_, rfl⟩
  have hp : partsR s = (if 0 ≤ o then some ⟨0, true, false, 0, 0, 0, o, 0⟩ else none) := by
    have e1 : strip 34 s = (s, false) := by unfold strip; rw [if_neg h1]
    have e2 : strip 39 (s) = ((s).dropLast, true) := by unfold strip; rw [if_pos h2]
    unfold partsR
    rw [hm, if_neg h0, hc]
    simp only [e1, e2, ho, Bool.false_eq_true, if_false]
  obtain ⟨S, hS⟩ : ∃ S : ByteArray, (⟨s.toArray⟩ : ByteArray) = S := ⟨_, rfl⟩
  have hSl : S.data.toList = s := by rw [← hS]
  have hSz : S.size ≤ 1000 := by rw [← hS, size_mk]; exact hs
  have HSL := Lib.hid hSl
  have hzS : 0 < S.size := by rw [← len_list, hSl]; exact List.length_pos_iff.2 hne
  have q1 : ((((S[S.size - 1]'(by omega)).toNat : Nat) : Int) == 34) = false := by
    have hl := last_get hSl hzS
    rw [hl] at h1
    simp only [beq_eq_false_iff_ne, ne_eq]; intro e; exact h1 (by congr 1; apply UInt8.toNat_inj.1; exact Int.ofNat.inj e)
  have q2 : ((((S[S.size - 1]'(by omega)).toNat : Nat) : Int) == 39) = true := by
    have hl := last_get hSl hzS
    rw [hl] at h2
    have := Option.some.inj h2; rw [this]; rfl
  obtain ⟨U, hU⟩ : ∃ Y : ByteArray, S.extract 0 (S.size - 1) = Y := ⟨_, rfl⟩
  have hUl : U.data.toList = (s).dropLast := by
    rw [← hU, extract_list, hSl, List.drop_zero, Nat.sub_zero, ← len_list S, hSl, ← List.dropLast_eq_take]
  have hRm : U = ⟨((s).dropLast).toArray⟩ := by rw [← hUl]
  have HRM := Lib.hid hRm
  have hrl : ((s).dropLast).length ≤ 1000 := by first | omega | (simp only [List.length_dropLast]; omega)
  obtain ⟨X, hX⟩ : ∃ b, w.heap.size = b := ⟨_, rfl⟩
  have HP := Lib.hid hp
  have HM := Lib.hid hm
  have HX := Lib.hid hX
  have HS := Lib.hid hS
  have HC := Lib.hid hc
  have HO := Lib.hid ho
  rw [hS]
  clear hp hm hX hS hc ho hSl hRm h1 h2  hUl
  go_enter Tryz.func18, Tryz.ntmps18
  go_wp2_with fail
  rw [← HS.out]
  refine (r_index memsL 4 (w.heap.size + 1) s _ rfl (by omega) (by rw [HX.out]; exact b_at (by simp [HX.out]) _)).mono ?_
  rintro e w1 ⟨rfl, rfl⟩
  rw [HM.out]
  go_wp2_with fail
  refine (r_cut s [46] _ (by omega) (by simp) (by simp)).mono ?_
  rintro e w2 ⟨rfl, hB2⟩
  rw [HC.out]
  simp only []
  have fX : w2.heap[w.heap.size]? = some (.cells #[.int .i64 0, .bool false, .bool false, .int .i64 0, .int .i64 0, .int .i64 0, .int .i64 0, .int .i64 0] 45 (0, 0)) := b_below (b_alloc (b_new _ _) _) hB2
  have hB02 : Below w.heap.size w w2 := bthen (bthen (ablow _ _) (ablow _ _)) hB2
  have FX := Lib.hid fX
  have HB02 := Aside.mk hB02
  have hlX : w.heap.size < w2.heap.size := block_lt fX
  clear fX hB02 hB2
  rw [HS.out]
  go_wp2_with fail
  refine any_begin true_goes (by kernel_rfl) ?_
  generalize hW : World.drew _ = Q0
  have fX : Q0.heap[w.heap.size]? = some (.cells #[.int .i64 0, .bool false, .bool false, .int .i64 0, .int .i64 0, .int .i64 0, .int .i64 0, .int .i64 0] 45 (0, 0)) := by rw [← hW]; exact b_alloc FX.out _
  have fX1 : Q0.heap[w2.heap.size]? = some (.cells #[.int .i64 0, .bool false, .bool false, .int .i64 0, .int .i64 0, .int .i64 0, .int .i64 0, .int .i64 0] 45 (0, 0)) := by rw [← hW]; exact b_new _ _
  have hBV : Below w.heap.size w Q0 := by rw [← hW]; exact (bthen HB02.out (ablow _ _)).drew
  clear hW
  refine any_take true_goes 0 ?_ ?_ (by simp only [List.getElem?_toArray, List.getElem?_cons_succ, List.getElem?_cons_zero]; exact rfl) (by kernel_rfl) (by kernel_rfl) (by kernel_rfl) (fun _ _ _ _ _ h => h) (by rfl) ?_ ?_
  rotate_left
  · intro wl hL
    have wa : IntKind.i64.wrap ((S.size : Int) - 1) = (S.size : Int) - 1 := IntWalk.i64_in _ ⟨by omega, by omega⟩
    have wb : ((S.size : Int) - 1).toNat = S.size - 1 := by omega
    have wd : (1 : Int) ≤ S.size := by omega
    have we : (S.size : Int) - 1 ≤ S.size := by omega
    go_simp
    try with_reducible rfl
  try simp only [Act.put, List.setIfInBounds_toArray, List.set_cons_zero, List.set_cons_succ]
  refine any_take true_goes 1 ?_ ?_ (by simp only [List.getElem?_toArray, List.getElem?_cons_succ, List.getElem?_cons_zero]; exact rfl) (by kernel_rfl) (by kernel_rfl) (by kernel_rfl) (fun _ _ _ _ _ h => h) (by rfl) ?_ ?_
  rotate_left
  · intro wl hL
    have wa : IntKind.i64.wrap ((S.size : Int) - 1) = (S.size : Int) - 1 := IntWalk.i64_in _ ⟨by omega, by omega⟩
    have wb : ((S.size : Int) - 1).toNat = S.size - 1 := by omega
    have wd : (1 : Int) ≤ S.size := by omega
    have we : (S.size : Int) - 1 ≤ S.size := by omega
    go_simp
    try with_reducible rfl
  try simp only [Act.put, List.setIfInBounds_toArray, List.set_cons_zero, List.set_cons_succ]
  refine any_take true_goes 2 ?_ ?_ (by simp only [List.getElem?_toArray, List.getElem?_cons_succ, List.getElem?_cons_zero]; exact rfl) (by kernel_rfl) (by kernel_rfl) (by kernel_rfl) (fun _ _ _ _ _ h => h) (by rfl) ?_ ?_
  rotate_left
  · intro wl hL
    have wa : IntKind.i64.wrap ((S.size : Int) - 1) = (S.size : Int) - 1 := IntWalk.i64_in _ ⟨by omega, by omega⟩
    have wb : ((S.size : Int) - 1).toNat = S.size - 1 := by omega
    have wd : (1 : Int) ≤ S.size := by omega
    have we : (S.size : Int) - 1 ≤ S.size := by omega
    go_simp
    try with_reducible rfl
  try simp only [Act.put, List.setIfInBounds_toArray, List.set_cons_zero, List.set_cons_succ]
  refine any_take true_goes 3 ?_ ?_ (by simp only [List.getElem?_toArray, List.getElem?_cons_succ, List.getElem?_cons_zero]; exact rfl) (by kernel_rfl) (by kernel_rfl) (by kernel_rfl) (fun _ _ _ _ _ h => h) (by rfl) ?_ ?_
  rotate_left
  · intro wl hL
    have wa : IntKind.i64.wrap ((S.size : Int) - 1) = (S.size : Int) - 1 := IntWalk.i64_in _ ⟨by omega, by omega⟩
    have wb : ((S.size : Int) - 1).toNat = S.size - 1 := by omega
    have wd : (1 : Int) ≤ S.size := by omega
    have we : (S.size : Int) - 1 ≤ S.size := by omega
    go_simp
    try with_reducible rfl
  try simp only [Act.put, List.setIfInBounds_toArray, List.set_cons_zero, List.set_cons_succ]
  refine any_take true_goes 4 ?_ ?_ (by simp only [List.getElem?_toArray, List.getElem?_cons_succ, List.getElem?_cons_zero]; exact rfl) (by kernel_rfl) (by kernel_rfl) (by kernel_rfl) (fun _ _ _ _ _ h => h) (by rfl) ?_ ?_
  rotate_left
  · intro wl hL
    have wa : IntKind.i64.wrap ((S.size : Int) - 1) = (S.size : Int) - 1 := IntWalk.i64_in _ ⟨by omega, by omega⟩
    have wb : ((S.size : Int) - 1).toNat = S.size - 1 := by omega
    have wd : (1 : Int) ≤ S.size := by omega
    have we : (S.size : Int) - 1 ≤ S.size := by omega
    go_simp
    try with_reducible rfl
  try simp only [Act.put, List.setIfInBounds_toArray, List.set_cons_zero, List.set_cons_succ]
  have pc := cell_of_block fX1 1
  have pf := frozen_of_block fX1 1
  refine any_one 5 _ (by kernel_rfl) (by simp only [List.getElem?_toArray, List.getElem?_cons_succ, List.getElem?_cons_zero]; exact rfl) (fun K hK => ?_)
  go_simp
  refine hK.out _ _ trivial ?_
  clear hK K pc pf
  try simp only [Act.put, List.setIfInBounds_toArray, List.set_cons_zero, List.set_cons_succ]
  generalize hW : World.setCell _ _ _ = Q1
  have FX := Lib.hid (show Q1.heap[w.heap.size]? = some _ by rw [← hW]; exact b_far fX (p := ⟨w2.heap.size, 1, none⟩) (by show w.heap.size ≠ w2.heap.size; omega) _)
  have FX1 := Lib.hid (show Q1.heap[w2.heap.size]? = some (.cells #[.int .i64 0, .bool true, .bool false, .int .i64 0, .int .i64 0, .int .i64 0, .int .i64 0, .int .i64 0] 45 (0, 0)) by rw [← hW]; exact b_put fX1 1 _ rfl)
  have HBV := Aside.mk (show Below w.heap.size w Q1 by rw [← hW]; exact hBV.setCell (by show w.heap.size ≤ w2.heap.size; omega) _)
  clear hW fX fX1 hBV
  refine any_take true_goes 6 ?_ ?_ (by simp only [List.getElem?_toArray, List.getElem?_cons_succ, List.getElem?_cons_zero]; exact rfl) (by kernel_rfl) (by kernel_rfl) (by kernel_rfl) (fun _ _ _ _ _ h => h) (by rfl) ?_ ?_
  rotate_left
  · intro wl hL
    skip
    go_simp
    try with_reducible rfl
  try simp only [Act.put, List.setIfInBounds_toArray, List.set_cons_zero, List.set_cons_succ]
  refine any_done (by kernel_rfl) ?_ _
  go_wp2_with fail
  refine (a_ops _).mono ?_
  rintro e w5 ⟨g, rfl, hg, -, hB5⟩
  have HG := Lib.hid hg
  have FX5 := Lib.hid (b_below FX.out hB5)
  have FX15 := Lib.hid (b_below FX1.out hB5)
  have HB5 := Aside.mk (bthen HBV.out hB5)
  clear hg hB5
  go_wp2_with fail
  refine (r_indexB opsL 12 g ((s).dropLast) U HRM.out _ rfl (by omega) HG.out).mono ?_
  rintro e w6 ⟨rfl, rfl⟩
  rw [HO.out]
  have pc := cell_of_block FX15.out 6
  have pf := frozen_of_block FX15.out 6
  go_wp2_with fail
  refine any_begin (keepsBs_goes [w2.heap.size]) (by kernel_rfl) ?_
  generalize hW : World.drew _ = R0
  have fX : R0.heap[w.heap.size]? = some (.cells #[.int .i64 0, .bool false, .bool false, .int .i64 0, .int .i64 0, .int .i64 0, .int .i64 0, .int .i64 0] 45 (0, 0)) := by rw [← hW]; exact b_far FX5.out (p := ⟨w2.heap.size, 6, none⟩) (by show w.heap.size ≠ w2.heap.size; omega) _
  have fX1 : R0.heap[w2.heap.size]? = some (.cells #[.int .i64 0, .bool true, .bool false, .int .i64 0, .int .i64 0, .int .i64 0, .int .i64 o, .int .i64 0] 45 (0, 0)) := by rw [← hW]; exact b_put FX15.out 6 _ rfl
  have hBR : Below w.heap.size w R0 := by rw [← hW]; exact (HB5.out.setCell (by show w.heap.size ≤ w2.heap.size; omega) _).drew
  clear hW pc pf
  obtain ⟨r0, r1, r2, r3, r4, r5, r6, r7⟩ := b_cells8 fX1
  refine any_take (keepsBs_goes [w2.heap.size]) 0 ?_ ?_ (by simp only [List.getElem?_toArray, List.getElem?_cons_succ, List.getElem?_cons_zero]; exact rfl) (by kernel_rfl) (by kernel_rfl) (by kernel_rfl) (fun _ _ _ _ _ h => h) (by rfl) ?_ ?_
  rotate_left
  · intro wl hL
    have l0 := keep_cellR hL (by simp) r0; have l1 := keep_cellR hL (by simp) r1; have l2 := keep_cellR hL (by simp) r2; have l3 := keep_cellR hL (by simp) r3; have l4 := keep_cellR hL (by simp) r4; have l5 := keep_cellR hL (by simp) r5; have l6 := keep_cellR hL (by simp) r6; have l7 := keep_cellR hL (by simp) r7
    go_simp
    try with_reducible rfl
  try simp only [Act.put, List.setIfInBounds_toArray, List.set_cons_zero, List.set_cons_succ]
  refine any_take (keepsBs_goes [w2.heap.size]) 1 ?_ ?_ (by simp only [List.getElem?_toArray, List.getElem?_cons_succ, List.getElem?_cons_zero]; exact rfl) (by kernel_rfl) (by kernel_rfl) (by kernel_rfl) (fun _ _ _ _ _ h => h) (by rfl) ?_ ?_
  rotate_left
  · intro wl hL
    have l0 := keep_cellR hL (by simp) r0; have l1 := keep_cellR hL (by simp) r1; have l2 := keep_cellR hL (by simp) r2; have l3 := keep_cellR hL (by simp) r3; have l4 := keep_cellR hL (by simp) r4; have l5 := keep_cellR hL (by simp) r5; have l6 := keep_cellR hL (by simp) r6; have l7 := keep_cellR hL (by simp) r7
    go_simp
    try with_reducible rfl
  try simp only [Act.put, List.setIfInBounds_toArray, List.set_cons_zero, List.set_cons_succ]
  refine any_take (keepsBs_goes [w2.heap.size]) 2 ?_ ?_ (by simp only [List.getElem?_toArray, List.getElem?_cons_succ, List.getElem?_cons_zero]; exact rfl) (by kernel_rfl) (by kernel_rfl) (by kernel_rfl) (fun _ _ _ _ _ h => h) (by rfl) ?_ ?_
  rotate_left
  · intro wl hL
    have l0 := keep_cellR hL (by simp) r0; have l1 := keep_cellR hL (by simp) r1; have l2 := keep_cellR hL (by simp) r2; have l3 := keep_cellR hL (by simp) r3; have l4 := keep_cellR hL (by simp) r4; have l5 := keep_cellR hL (by simp) r5; have l6 := keep_cellR hL (by simp) r6; have l7 := keep_cellR hL (by simp) r7
    go_simp
    try with_reducible rfl
  try simp only [Act.put, List.setIfInBounds_toArray, List.set_cons_zero, List.set_cons_succ]
  refine any_take (keepsBs_goes [w2.heap.size]) 3 ?_ ?_ (by simp only [List.getElem?_toArray, List.getElem?_cons_succ, List.getElem?_cons_zero]; exact rfl) (by kernel_rfl) (by kernel_rfl) (by kernel_rfl) (fun _ _ _ _ _ h => h) (by rfl) ?_ ?_
  rotate_left
  · intro wl hL
    have l0 := keep_cellR hL (by simp) r0; have l1 := keep_cellR hL (by simp) r1; have l2 := keep_cellR hL (by simp) r2; have l3 := keep_cellR hL (by simp) r3; have l4 := keep_cellR hL (by simp) r4; have l5 := keep_cellR hL (by simp) r5; have l6 := keep_cellR hL (by simp) r6; have l7 := keep_cellR hL (by simp) r7
    go_simp
    try with_reducible rfl
  try simp only [Act.put, List.setIfInBounds_toArray, List.set_cons_zero, List.set_cons_succ]
  obtain ⟨x0, x1, x2, x3, x4, x5, x6, x7⟩ := b_cells8 fX
  have z0 := b_free fX
  have FXR := Lib.hid fX
  have hlXR : w.heap.size < R0.heap.size := block_lt fX
  refine any_one 4 _ (by kernel_rfl) (by simp only [List.getElem?_toArray, List.getElem?_cons_succ, List.getElem?_cons_zero]; exact rfl) (fun K hK => ?_)
  go_simp
  refine hK.out _ _ (keeps8 (by omega)) ?_
  clear hK K
  try simp only [Act.put, List.setIfInBounds_toArray, List.set_cons_zero, List.set_cons_succ]
  refine any_take (keepsBs_goes [w2.heap.size]) 5 ?_ ?_ (by simp only [List.getElem?_toArray, List.getElem?_cons_succ, List.getElem?_cons_zero]; exact rfl) (by kernel_rfl) (by kernel_rfl) (by kernel_rfl) (fun _ _ _ _ _ h => h) (by rfl) ?_ ?_
  rotate_left
  · intro wl hL
    skip
    go_simp
    try with_reducible rfl
  try simp only [Act.put, List.setIfInBounds_toArray, List.set_cons_zero, List.set_cons_succ]
  refine any_done (by kernel_rfl) ?_ _
  go_wp2_with fail
  refine bodyPost_ret (res_ct rfl _ _ w.heap.size 45 _ (0, 0) _ rfl (b_set8 FXR.out _ _ _ _ _ _ _ _) Tryz.underlying45 rfl (by kernel_rfl)) rfl ⟨⟨0, true, false, 0, 0, 0, o, 0⟩, decide (0 ≤ o), rfl, ?_, below8 hBR (Nat.le_refl _)⟩
  rw [HP.out]
  simp only [decide_eq_true_eq]
set_option maxRecDepth 100000 in
set_option maxHeartbeats 1600000 in
theorem r_parts_opff (s : List UInt8) (w : World) (hs : s.length ≤ 1000) (m : Int) (hm : idxL memsL s = m) (h0 : ¬ 0 ≤ m) (A B : List UInt8) (hc : Lib.cut s [46] = (A, B, false)) (h1 : ¬ s.getLast? = some 34) (hne : s ≠ []) (h2 : ¬ (s).getLast? = some 39) (hne2 : s ≠ []) : Calls Tryz.prog 18 #[.string ⟨s.toArray⟩] w (AtParts s w) := by
  obtain ⟨o, ho⟩ : ∃ o, idxL opsL (s) = o := ⟨_, rfl⟩
  have hp : partsR s = (if 0 ≤ o then some ⟨0, false, false, 0, 0, 0, o, 0⟩ else none) := by
    have e1 : strip 34 s = (s, false) := by unfold strip; rw [if_neg h1]
    have e2 : strip 39 (s) = (s, false) := by unfold strip; rw [if_neg h2]
    unfold partsR
    rw [hm, if_neg h0, hc]
    simp only [e1, e2, ho, Bool.false_eq_true, if_false]
  obtain ⟨S, hS⟩ : ∃ S : ByteArray, (⟨s.toArray⟩ : ByteArray) = S := ⟨_, rfl⟩
  have hSl : S.data.toList = s := by rw [← hS]
  have hSz : S.size ≤ 1000 := by rw [← hS, size_mk]; exact hs
  have HSL := Lib.hid hSl
  have hzS : 0 < S.size := by rw [← len_list, hSl]; exact List.length_pos_iff.2 hne
  have q1 : ((((S[S.size - 1]'(by omega)).toNat : Nat) : Int) == 34) = false := by
    have hl := last_get hSl hzS
    rw [hl] at h1
    simp only [beq_eq_false_iff_ne, ne_eq]; intro e; exact h1 (by congr 1; apply UInt8.toNat_inj.1; exact Int.ofNat.inj e)
  have q2 : ((((S[S.size - 1]'(by omega)).toNat : Nat) : Int) == 39) = false := by
    have hl := last_get hSl hzS
    rw [hl] at h2
    simp only [beq_eq_false_iff_ne, ne_eq]; intro e; exact h2 (by congr 1; apply UInt8.toNat_inj.1; exact Int.ofNat.inj e)
  have hRm : S = ⟨(s).toArray⟩ := by rw [← hSl]
  have HRM := Lib.hid hRm
  have hrl : (s).length ≤ 1000 := by first | omega | (simp only [List.length_dropLast]; omega)
  obtain ⟨X, hX⟩ : ∃ b, w.heap.size = b := ⟨_, rfl⟩
  have HP := Lib.hid hp
  have HM := Lib.hid hm
  have HX := Lib.hid hX
  have HS := Lib.hid hS
  have HC := Lib.hid hc
  have HO := Lib.hid ho
  rw [hS]
  clear hp hm hX hS hc ho hSl hRm h1 h2  
  go_enter Tryz.func18, Tryz.ntmps18
  go_wp2_with fail
  rw [← HS.out]
  refine (r_index memsL 4 (w.heap.size + 1) s _ rfl (by omega) (by rw [HX.out]; exact b_at (by simp [HX.out]) _)).mono ?_
  rintro e w1 ⟨rfl, rfl⟩
  rw [HM.out]
  go_wp2_with fail
  refine (r_cut s [46] _ (by omega) (by simp) (by simp)).mono ?_
  rintro e w2 ⟨rfl, hB2⟩
  rw [HC.out]
  simp only []
  have fX : w2.heap[w.heap.size]? = some (.cells #[.int .i64 0, .bool false, .bool false, .int .i64 0, .int .i64 0, .int .i64 0, .int .i64 0, .int .i64 0] 45 (0, 0)) := b_below (b_alloc (b_new _ _) _) hB2
  have hB02 : Below w.heap.size w w2 := bthen (bthen (ablow _ _) (ablow _ _)) hB2
  have FX := Lib.hid fX
  have HB02 := Aside.mk hB02
  have hlX : w.heap.size < w2.heap.size := block_lt fX
  clear fX hB02 hB2
  rw [HS.out]
  go_wp2_with fail
  have FX := Lib.hid (b_alloc FX.out (.cells #[.int .i64 0, .bool false, .bool false, .int .i64 0, .int .i64 0, .int .i64 0, .int .i64 0, .int .i64 0] 45))
  have FX1 := Lib.hid (b_new w2 (.cells #[.int .i64 0, .bool false, .bool false, .int .i64 0, .int .i64 0, .int .i64 0, .int .i64 0, .int .i64 0] 45))
  have HBV := Aside.mk (bthen HB02.out (ablow w2 (.cells #[.int .i64 0, .bool false, .bool false, .int .i64 0, .int .i64 0, .int .i64 0, .int .i64 0, .int .i64 0] 45)))
  refine (a_ops _).mono ?_
  rintro e w5 ⟨g, rfl, hg, -, hB5⟩
  have HG := Lib.hid hg
  have FX5 := Lib.hid (b_below FX.out hB5)
  have FX15 := Lib.hid (b_below FX1.out hB5)
  have HB5 := Aside.mk (bthen HBV.out hB5)
  clear hg hB5
  go_wp2_with fail
  refine (r_indexB opsL 12 g (s) S HRM.out _ rfl (by omega) HG.out).mono ?_
  rintro e w6 ⟨rfl, rfl⟩
  rw [HO.out]
  have pc := cell_of_block FX15.out 6
  have pf := frozen_of_block FX15.out 6
  go_wp2_with fail
  refine any_begin (keepsBs_goes [w2.heap.size]) (by kernel_rfl) ?_
  generalize hW : World.drew _ = R0
  have fX : R0.heap[w.heap.size]? = some (.cells #[.int .i64 0, .bool false, .bool false, .int .i64 0, .int .i64 0, .int .i64 0, .int .i64 0, .int .i64 0] 45 (0, 0)) := by rw [← hW]; exact b_far FX5.out (p := ⟨w2.heap.size, 6, none⟩) (by show w.heap.size ≠ w2.heap.size; omega) _
  have fX1 : R0.heap[w2.heap.size]? = some (.cells #[.int .i64 0, .bool false, .bool false, .int .i64 0, .int .i64 0, .int .i64 0, .int .i64 o, .int .i64 0] 45 (0, 0)) := by rw [← hW]; exact b_put FX15.out 6 _ rfl
  have hBR : Below w.heap.size w R0 := by rw [← hW]; exact (HB5.out.setCell (by show w.heap.size ≤ w2.heap.size; omega) _).drew
  clear hW pc pf
  obtain ⟨r0, r1, r2, r3, r4, r5, r6, r7⟩ := b_cells8 fX1
  refine any_take (keepsBs_goes [w2.heap.size]) 0 ?_ ?_ (by simp only [List.getElem?_toArray, List.getElem?_cons_succ, List.getElem?_cons_zero]; exact rfl) (by kernel_rfl) (by kernel_rfl) (by kernel_rfl) (fun _ _ _ _ _ h => h) (by rfl) ?_ ?_
  rotate_left
  · intro wl hL
    have l0 := keep_cellR hL (by simp) r0; have l1 := keep_cellR hL (by simp) r1; have l2 := keep_cellR hL (by simp) r2; have l3 := keep_cellR hL (by simp) r3; have l4 := keep_cellR hL (by simp) r4; have l5 := keep_cellR hL (by simp) r5; have l6 := keep_cellR hL (by simp) r6; have l7 := keep_cellR hL (by simp) r7
    go_simp
    try with_reducible rfl
  try simp only [Act.put, List.setIfInBounds_toArray, List.set_cons_zero, List.set_cons_succ]
  refine any_take (keepsBs_goes [w2.heap.size]) 1 ?_ ?_ (by simp only [List.getElem?_toArray, List.getElem?_cons_succ, List.getElem?_cons_zero]; exact rfl) (by kernel_rfl) (by kernel_rfl) (by kernel_rfl) (fun _ _ _ _ _ h => h) (by rfl) ?_ ?_
  rotate_left
  · intro wl hL
    have l0 := keep_cellR hL (by simp) r0; have l1 := keep_cellR hL (by simp) r1; have l2 := keep_cellR hL (by simp) r2; have l3 := keep_cellR hL (by simp) r3; have l4 := keep_cellR hL (by simp) r4; have l5 := keep_cellR hL (by simp) r5; have l6 := keep_cellR hL (by simp) r6; have l7 := keep_cellR hL (by simp) r7
    go_simp
    try with_reducible rfl
  try simp only [Act.put, List.setIfInBounds_toArray, List.set_cons_zero, List.set_cons_succ]
  refine any_take (keepsBs_goes [w2.heap.size]) 2 ?_ ?_ (by simp only [List.getElem?_toArray, List.getElem?_cons_succ, List.getElem?_cons_zero]; exact rfl) (by kernel_rfl) (by kernel_rfl) (by kernel_rfl) (fun _ _ _ _ _ h => h) (by rfl) ?_ ?_
  rotate_left
  · intro wl hL
    have l0 := keep_cellR hL (by simp) r0; have l1 := keep_cellR hL (by simp) r1; have l2 := keep_cellR hL (by simp) r2; have l3 := keep_cellR hL (by simp) r3; have l4 := keep_cellR hL (by simp) r4; have l5 := keep_cellR hL (by simp) r5; have l6 := keep_cellR hL (by simp) r6; have l7 := keep_cellR hL (by simp) r7
    go_simp
    try with_reducible rfl
  try simp only [Act.put, List.setIfInBounds_toArray, List.set_cons_zero, List.set_cons_succ]
  refine any_take (keepsBs_goes [w2.heap.size]) 3 ?_ ?_ (by simp only [List.getElem?_toArray, List.getElem?_cons_succ, List.getElem?_cons_zero]; exact rfl) (by kernel_rfl) (by kernel_rfl) (by kernel_rfl) (fun _ _ _ _ _ h => h) (by rfl) ?_ ?_
  rotate_left
  · intro wl hL
    have l0 := keep_cellR hL (by simp) r0; have l1 := keep_cellR hL (by simp) r1; have l2 := keep_cellR hL (by simp) r2; have l3 := keep_cellR hL (by simp) r3; have l4 := keep_cellR hL (by simp) r4; have l5 := keep_cellR hL (by simp) r5; have l6 := keep_cellR hL (by simp) r6; have l7 := keep_cellR hL (by simp) r7
    go_simp
    try with_reducible rfl
  try simp only [Act.put, List.setIfInBounds_toArray, List.set_cons_zero, List.set_cons_succ]
  obtain ⟨x0, x1, x2, x3, x4, x5, x6, x7⟩ := b_cells8 fX
  have z0 := b_free fX
  have FXR := Lib.hid fX
  have hlXR : w.heap.size < R0.heap.size := block_lt fX
  refine any_one 4 _ (by kernel_rfl) (by simp only [List.getElem?_toArray, List.getElem?_cons_succ, List.getElem?_cons_zero]; exact rfl) (fun K hK => ?_)
  go_simp
  refine hK.out _ _ (keeps8 (by omega)) ?_
  clear hK K
  try simp only [Act.put, List.setIfInBounds_toArray, List.set_cons_zero, List.set_cons_succ]
  refine any_take (keepsBs_goes [w2.heap.size]) 5 ?_ ?_ (by simp only [List.getElem?_toArray, List.getElem?_cons_succ, List.getElem?_cons_zero]; exact rfl) (by kernel_rfl) (by kernel_rfl) (by kernel_rfl) (fun _ _ _ _ _ h => h) (by rfl) ?_ ?_
  rotate_left
  · intro wl hL
    skip
    go_simp
    try with_reducible rfl
  try simp only [Act.put, List.setIfInBounds_toArray, List.set_cons_zero, List.set_cons_succ]
  refine any_done (by kernel_rfl) ?_ _
  go_wp2_with fail
  refine bodyPost_ret (res_ct rfl _ _ w.heap.size 45 _ (0, 0) _ rfl (b_set8 FXR.out _ _ _ _ _ _ _ _) Tryz.underlying45 rfl (by kernel_rfl)) rfl ⟨⟨0, false, false, 0, 0, 0, o, 0⟩, decide (0 ≤ o), rfl, ?_, below8 hBR (Nat.le_refl _)⟩
  rw [HP.out]
  simp only [decide_eq_true_eq]
set_option maxRecDepth 100000 in
set_option maxHeartbeats 1600000 in
theorem r_parts_opee (s : List UInt8) (w : World) (hs : s.length ≤ 1000) (m : Int) (hm : idxL memsL s = m) (h0 : ¬ 0 ≤ m) (A B : List UInt8) (hc : Lib.cut s [46] = (A, B, false)) (h1 : s = []) : Calls Tryz.prog 18 #[.string ⟨s.toArray⟩] w (AtParts s w) := by
  obtain ⟨o, ho⟩ : ∃ o, idxL opsL (s) = o := ⟨_, rfl⟩
  have hp : partsR s = (if 0 ≤ o then some ⟨0, false, false, 0, 0, 0, o, 0⟩ else none) := by
    have e1 : strip 34 s = (s, false) := by unfold strip; rw [h1]; rfl
    have e2 : strip 39 (s) = (s, false) := by unfold strip; rw [h1]; rfl
    unfold partsR
    rw [hm, if_neg h0, hc]
    simp only [e1, e2, ho, Bool.false_eq_true, if_false]
  obtain ⟨S, hS⟩ : ∃ S : ByteArray, (⟨s.toArray⟩ : ByteArray) = S := ⟨_, rfl⟩
  have hSl : S.data.toList = s := by rw [← hS]
  have hSz : S.size ≤ 1000 := by rw [← hS, size_mk]; exact hs
  have HSL := Lib.hid hSl
  have hzS : ¬ 0 < S.size := by rw [← len_list, hSl, h1]; simp
  have hRm : S = ⟨(s).toArray⟩ := by rw [← hSl]
  have HRM := Lib.hid hRm
  have hrl : (s).length ≤ 1000 := by first | omega | (simp only [List.length_dropLast]; omega)
  obtain ⟨X, hX⟩ : ∃ b, w.heap.size = b := ⟨_, rfl⟩
  have HP := Lib.hid hp
  have HM := Lib.hid hm
  have HX := Lib.hid hX
  have HS := Lib.hid hS
  have HC := Lib.hid hc
  have HO := Lib.hid ho
  rw [hS]
  clear hp hm hX hS hc ho hSl hRm h1   
  go_enter Tryz.func18, Tryz.ntmps18
  go_wp2_with fail
  rw [← HS.out]
  refine (r_index memsL 4 (w.heap.size + 1) s _ rfl (by omega) (by rw [HX.out]; exact b_at (by simp [HX.out]) _)).mono ?_
  rintro e w1 ⟨rfl, rfl⟩
  rw [HM.out]
  go_wp2_with fail
  refine (r_cut s [46] _ (by omega) (by simp) (by simp)).mono ?_
  rintro e w2 ⟨rfl, hB2⟩
  rw [HC.out]
  simp only []
  have fX : w2.heap[w.heap.size]? = some (.cells #[.int .i64 0, .bool false, .bool false, .int .i64 0, .int .i64 0, .int .i64 0, .int .i64 0, .int .i64 0] 45 (0, 0)) := b_below (b_alloc (b_new _ _) _) hB2
  have hB02 : Below w.heap.size w w2 := bthen (bthen (ablow _ _) (ablow _ _)) hB2
  have FX := Lib.hid fX
  have HB02 := Aside.mk hB02
  have hlX : w.heap.size < w2.heap.size := block_lt fX
  clear fX hB02 hB2
  rw [HS.out]
  go_wp2_with fail
  have FX := Lib.hid (b_alloc FX.out (.cells #[.int .i64 0, .bool false, .bool false, .int .i64 0, .int .i64 0, .int .i64 0, .int .i64 0, .int .i64 0] 45))
  have FX1 := Lib.hid (b_new w2 (.cells #[.int .i64 0, .bool false, .bool false, .int .i64 0, .int .i64 0, .int .i64 0, .int .i64 0, .int .i64 0] 45))
  have HBV := Aside.mk (bthen HB02.out (ablow w2 (.cells #[.int .i64 0, .bool false, .bool false, .int .i64 0, .int .i64 0, .int .i64 0, .int .i64 0, .int .i64 0] 45)))
  refine (a_ops _).mono ?_
  rintro e w5 ⟨g, rfl, hg, -, hB5⟩
  have HG := Lib.hid hg
  have FX5 := Lib.hid (b_below FX.out hB5)
  have FX15 := Lib.hid (b_below FX1.out hB5)
  have HB5 := Aside.mk (bthen HBV.out hB5)
  clear hg hB5
  go_wp2_with fail
  refine (r_indexB opsL 12 g (s) S HRM.out _ rfl (by omega) HG.out).mono ?_
  rintro e w6 ⟨rfl, rfl⟩
  rw [HO.out]
  have pc := cell_of_block FX15.out 6
  have pf := frozen_of_block FX15.out 6
  go_wp2_with fail
  refine any_begin (keepsBs_goes [w2.heap.size]) (by kernel_rfl) ?_
  generalize hW : World.drew _ = R0
  have fX : R0.heap[w.heap.size]? = some (.cells #[.int .i64 0, .bool false, .bool false, .int .i64 0, .int .i64 0, .int .i64 0, .int .i64 0, .int .i64 0] 45 (0, 0)) := by rw [← hW]; exact b_far FX5.out (p := ⟨w2.heap.size, 6, none⟩) (by show w.heap.size ≠ w2.heap.size; omega) _
  have fX1 : R0.heap[w2.heap.size]? = some (.cells #[.int .i64 0, .bool false, .bool false, .int .i64 0, .int .i64 0, .int .i64 0, .int .i64 o, .int .i64 0] 45 (0, 0)) := by rw [← hW]; exact b_put FX15.out 6 _ rfl
  have hBR : Below w.heap.size w R0 := by rw [← hW]; exact (HB5.out.setCell (by show w.heap.size ≤ w2.heap.size; omega) _).drew
  clear hW pc pf
  obtain ⟨r0, r1, r2, r3, r4, r5, r6, r7⟩ := b_cells8 fX1
  refine any_take (keepsBs_goes [w2.heap.size]) 0 ?_ ?_ (by simp only [List.getElem?_toArray, List.getElem?_cons_succ, List.getElem?_cons_zero]; exact rfl) (by kernel_rfl) (by kernel_rfl) (by kernel_rfl) (fun _ _ _ _ _ h => h) (by rfl) ?_ ?_
  rotate_left
  · intro wl hL
    have l0 := keep_cellR hL (by simp) r0; have l1 := keep_cellR hL (by simp) r1; have l2 := keep_cellR hL (by simp) r2; have l3 := keep_cellR hL (by simp) r3; have l4 := keep_cellR hL (by simp) r4; have l5 := keep_cellR hL (by simp) r5; have l6 := keep_cellR hL (by simp) r6; have l7 := keep_cellR hL (by simp) r7
    go_simp
    try with_reducible rfl
  try simp only [Act.put, List.setIfInBounds_toArray, List.set_cons_zero, List.set_cons_succ]
  refine any_take (keepsBs_goes [w2.heap.size]) 1 ?_ ?_ (by simp only [List.getElem?_toArray, List.getElem?_cons_succ, List.getElem?_cons_zero]; exact rfl) (by kernel_rfl) (by kernel_rfl) (by kernel_rfl) (fun _ _ _ _ _ h => h) (by rfl) ?_ ?_
  rotate_left
  · intro wl hL
    have l0 := keep_cellR hL (by simp) r0; have l1 := keep_cellR hL (by simp) r1; have l2 := keep_cellR hL (by simp) r2; have l3 := keep_cellR hL (by simp) r3; have l4 := keep_cellR hL (by simp) r4; have l5 := keep_cellR hL (by simp) r5; have l6 := keep_cellR hL (by simp) r6; have l7 := keep_cellR hL (by simp) r7
    go_simp
    try with_reducible rfl
  try simp only [Act.put, List.setIfInBounds_toArray, List.set_cons_zero, List.set_cons_succ]
  refine any_take (keepsBs_goes [w2.heap.size]) 2 ?_ ?_ (by simp only [List.getElem?_toArray, List.getElem?_cons_succ, List.getElem?_cons_zero]; exact rfl) (by kernel_rfl) (by kernel_rfl) (by kernel_rfl) (fun _ _ _ _ _ h => h) (by rfl) ?_ ?_
  rotate_left
  · intro wl hL
    have l0 := keep_cellR hL (by simp) r0; have l1 := keep_cellR hL (by simp) r1; have l2 := keep_cellR hL (by simp) r2; have l3 := keep_cellR hL (by simp) r3; have l4 := keep_cellR hL (by simp) r4; have l5 := keep_cellR hL (by simp) r5; have l6 := keep_cellR hL (by simp) r6; have l7 := keep_cellR hL (by simp) r7
    go_simp
    try with_reducible rfl
  try simp only [Act.put, List.setIfInBounds_toArray, List.set_cons_zero, List.set_cons_succ]
  refine any_take (keepsBs_goes [w2.heap.size]) 3 ?_ ?_ (by simp only [List.getElem?_toArray, List.getElem?_cons_succ, List.getElem?_cons_zero]; exact rfl) (by kernel_rfl) (by kernel_rfl) (by kernel_rfl) (fun _ _ _ _ _ h => h) (by rfl) ?_ ?_
  rotate_left
  · intro wl hL
    have l0 := keep_cellR hL (by simp) r0; have l1 := keep_cellR hL (by simp) r1; have l2 := keep_cellR hL (by simp) r2; have l3 := keep_cellR hL (by simp) r3; have l4 := keep_cellR hL (by simp) r4; have l5 := keep_cellR hL (by simp) r5; have l6 := keep_cellR hL (by simp) r6; have l7 := keep_cellR hL (by simp) r7
    go_simp
    try with_reducible rfl
  try simp only [Act.put, List.setIfInBounds_toArray, List.set_cons_zero, List.set_cons_succ]
  obtain ⟨x0, x1, x2, x3, x4, x5, x6, x7⟩ := b_cells8 fX
  have z0 := b_free fX
  have FXR := Lib.hid fX
  have hlXR : w.heap.size < R0.heap.size := block_lt fX
  refine any_one 4 _ (by kernel_rfl) (by simp only [List.getElem?_toArray, List.getElem?_cons_succ, List.getElem?_cons_zero]; exact rfl) (fun K hK => ?_)
  go_simp
  refine hK.out _ _ (keeps8 (by omega)) ?_
  clear hK K
  try simp only [Act.put, List.setIfInBounds_toArray, List.set_cons_zero, List.set_cons_succ]
  refine any_take (keepsBs_goes [w2.heap.size]) 5 ?_ ?_ (by simp only [List.getElem?_toArray, List.getElem?_cons_succ, List.getElem?_cons_zero]; exact rfl) (by kernel_rfl) (by kernel_rfl) (by kernel_rfl) (fun _ _ _ _ _ h => h) (by rfl) ?_ ?_
  rotate_left
  · intro wl hL
    skip
    go_simp
    try with_reducible rfl
  try simp only [Act.put, List.setIfInBounds_toArray, List.set_cons_zero, List.set_cons_succ]
  refine any_done (by kernel_rfl) ?_ _
  go_wp2_with fail
  refine bodyPost_ret (res_ct rfl _ _ w.heap.size 45 _ (0, 0) _ rfl (b_set8 FXR.out _ _ _ _ _ _ _ _) Tryz.underlying45 rfl (by kernel_rfl)) rfl ⟨⟨0, false, false, 0, 0, 0, o, 0⟩, decide (0 ≤ o), rfl, ?_, below8 hBR (Nat.le_refl _)⟩
  rw [HP.out]
  simp only [decide_eq_true_eq]
/-- spinetref06.parts. -/
theorem r_parts (s : List UInt8) (w : World) (hs : s.length ≤ 1000) : Calls Tryz.prog 18 #[.string ⟨s.toArray⟩] w (AtParts s w) := by
  obtain ⟨m, hm⟩ : ∃ m, idxL memsL s = m := ⟨_, rfl⟩
  by_cases h0 : 0 ≤ m
  · exact r_parts_mem s w hs m hm h0
  · obtain ⟨A, B, f, hc⟩ : ∃ A B f, Lib.cut s [46] = (A, B, f) := ⟨_, _, _, rfl⟩
    cases f with
    | true => exact r_parts_jump s w hs m hm h0 A B hc
    | false =>
      by_cases h1 : s.getLast? = some 34
      · have hne : s ≠ [] := by rintro rfl; cases h1
        by_cases h2 : s.dropLast.getLast? = some 39
        · exact r_parts_optt s w hs m hm h0 A B hc h1 hne h2 (by intro e; rw [e] at h2; cases h2)
        · by_cases he : s.dropLast = []
          · exact r_parts_opte s w hs m hm h0 A B hc h1 hne he
          · exact r_parts_optf s w hs m hm h0 A B hc h1 hne h2 he
      · by_cases hne : s = []
        · exact r_parts_opee s w hs m hm h0 A B hc hne
        · by_cases h2 : s.getLast? = some 39
          · exact r_parts_opft s w hs m hm h0 A B hc h1 hne h2 hne
          · exact r_parts_opff s w hs m hm h0 A B hc h1 hne h2 hne
end Go.Proofs.YtjjgjadfnongfaaGreatDoor
