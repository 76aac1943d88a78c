import Derived.Test.YtjjgjadfnongfaaGreatDoorAWd1
import Derived.Test.YtjjgjadfnongfaaGreatDoorARw4
set_option linter.unusedVariables false
set_option linter.unusedSimpArgs false
namespace Go.Proofs.YtjjgjadfnongfaaGreatDoor
/-! The pure law: a line is read as the word that it is the line of, by both. -/
theorem parts_op : ∀ (k : Fin 12) (u v : Bool), partsR (opN (k.1 : Nat) ++ markL u v) = some ⟨0, u, v, 0, 0, 0, ((k.1 : Nat) : Int), 0⟩ := by decide +kernel
theorem parts_mem : ∀ (u v : Bool), partsR ((if u then [83, 84] else [76, 68]) ++ (if v then [66] else [82])) = some ⟨2, u, v, 0, 0, 0, 0, 0⟩ := by decide +kernel
theorem parts_jump : ∀ (k : Fin 16) (v : Bool), partsR ((if v then [66, 76] else [66]) ++ (46 :: condN (k.1 : Nat))) = some ⟨3, false, v, ((k.1 : Nat) : Int), 0, 0, 0, 0⟩ := by decide +kernel
theorem name_ok_op : ∀ (k : Fin 12) (u v : Bool), (32 : UInt8) ∉ opN (k.1 : Nat) ++ markL u v ∧ (opN (k.1 : Nat) ++ markL u v).length ≤ 5 := by decide +kernel
theorem name_ok_mem : ∀ (u v : Bool), (32 : UInt8) ∉ (if u then [83, 84] else [76, 68]) ++ (if v then [66] else [82]) ∧ ((if u then [83, 84] else [76, 68]) ++ (if v then [66] else [82]) : List UInt8).length ≤ 5 := by decide +kernel
theorem name_ok_jump : ∀ (k : Fin 16) (v : Bool), (32 : UInt8) ∉ (if v then [66, 76] else [66]) ++ (46 :: condN (k.1 : Nat)) ∧ ((if v then [66, 76] else [66]) ++ (46 :: condN (k.1 : Nat)) : List UInt8).length ≤ 5 := by decide +kernel
/-- A good instruction's name. -/
theorem name_good {x : Ins} (h : goodI x = true) : (32 : UInt8) ∉ nameI x ∧ (nameI x).length ≤ 5 ∧
    partsR (nameI x) = some (if x.form = 3 then ⟨3, false, x.v, x.a, 0, 0, 0, 0⟩ else if x.form = 2 then ⟨2, x.u, x.v, 0, 0, 0, 0, 0⟩ else ⟨0, x.u, x.v, 0, 0, 0, x.op, 0⟩) := by
  obtain ⟨f, u, v, a, b, c, op, im⟩ := x
  have hf := good_form h
  obtain ⟨⟨a0, a1⟩, -, -, o0, o1⟩ := good_nibs h
  simp only at a0 a1 o0 o1 hf
  obtain ⟨n, rfl⟩ := Int.eq_ofNat_of_zero_le o0
  obtain ⟨m, rfl⟩ := Int.eq_ofNat_of_zero_le a0
  have hn : n < 12 := by omega
  have hm : m < 16 := by omega
  rcases hf with rfl | rfl | rfl | rfl
  · exact ⟨(name_ok_op ⟨n, hn⟩ u v).1, (name_ok_op ⟨n, hn⟩ u v).2, parts_op ⟨n, hn⟩ u v⟩
  · exact ⟨(name_ok_op ⟨n, hn⟩ u v).1, (name_ok_op ⟨n, hn⟩ u v).2, parts_op ⟨n, hn⟩ u v⟩
  · exact ⟨(name_ok_mem u v).1, (name_ok_mem u v).2, parts_mem u v⟩
  · exact ⟨(name_ok_jump ⟨m, hm⟩ v).1, (name_ok_jump ⟨m, hm⟩ v).2, parts_jump ⟨m, hm⟩ v⟩
theorem reg_len {n : Int} (h0 : 0 ≤ n) (h1 : n ≤ 15) : (regL n).length ≤ 3 := by
  have e : Lib.itoa n = Lib.decDigits n.toNat := by rw [Lib.itoa, if_neg (by omega)]
  have := dec_len_le 1 n.toNat (by show n.toNat < 100; omega)
  simp only [regL, List.length_cons, e]; omega
theorem itoa_len9 {n : Int} (h0 : -100000000 < n) (h1 : n < 100000000) : (Lib.itoa n).length ≤ 9 := by
  unfold Lib.itoa
  split
  · have := dec_len_le 7 n.natAbs (by show n.natAbs < 100000000; omega)
    simp only [List.length_cons]; omega
  · have := dec_len_le 7 n.toNat (by show n.toNat < 100000000; omega)
    omega
theorem no44 {n : Int} : (44 : UInt8) ∉ regL n := fun h => (regL_mem h).1 rfl
theorem no44i {n : Int} : (44 : UInt8) ∉ Lib.itoa n := fun h => (itoa_mem h).1 rfl
theorem cut_line {x : Ins} (h : goodI x = true) : Lib.cut (lineI x) [32] = (nameI x, restI x, true) := by
  have := cut_at (nameI x) (restI x) [] 32 (name_good h).1
  exact this
theorem cut_sep {p r : List UInt8} (h : (44 : UInt8) ∉ p) : Lib.cut (p ++ ([44, 32] ++ r)) [44, 32] = (p, r, true) := cut_at p r [32] 44 h
/-- What a good instruction holds. -/
theorem good_im {x : Ins} (h : goodI x = true) : -100000000 < x.im ∧ x.im < 100000000 ∧ (x.form = 0 → x.im = 0) ∧ (x.form = 1 → x.c = 0) ∧ (x.form = 2 → x.c = 0 ∧ x.op = 0) ∧ (x.form = 3 → x.b = 0 ∧ x.op = 0 ∧ (x.u = true → x.c = 0) ∧ (x.u = false → x.im = 0)) := by
  obtain ⟨f, u, v, a, b, c, op, im⟩ := x
  have hf := good_form h
  simp only at hf
  rcases hf with rfl | rfl | rfl | rfl
  · simp [goodI] at h; simp; omega
  · simp [goodI] at h; simp; omega
  · simp [goodI] at h; simp; omega
  · cases u <;> simp [goodI] at h <;> simp <;> omega
theorem rest_len {x : Ins} (h : goodI x = true) : (restI x).length ≤ 20 := by
  obtain ⟨i0, i1, -⟩ := good_im h
  obtain ⟨⟨a0, a1⟩, ⟨b0, b1⟩, ⟨c0, c1⟩, -⟩ := good_nibs h
  have ra := reg_len a0 a1
  have rb := reg_len b0 b1
  have rc := reg_len c0 c1
  have ri := itoa_len9 i0 i1
  unfold restI
  split
  · simp only [List.length_append, List.length_cons, List.length_nil]; omega
  · split
    · split <;> omega
    · simp only [List.length_append, List.length_cons, List.length_nil]; omega
theorem line_len {x : Ins} (h : goodI x = true) : (lineI x).length ≤ 30 := by
  have h1 := (name_good h).2.1
  have h2 := rest_len h
  simp only [lineI, List.length_append, List.length_cons]; omega
theorem parseR_line {x : Ins} (h : goodI x = true) : parseR (lineI x) = some x := by
  obtain ⟨i0, i1, g0, g1, g2, g3⟩ := good_im h
  obtain ⟨⟨a0, a1⟩, ⟨b0, b1⟩, ⟨c0, c1⟩, o0, o1⟩ := good_nibs h
  have hl := line_len h
  have hp := (name_good h).2.2
  unfold parseR
  rw [if_neg (by omega), cut_line h]
  simp only [hp, if_true]
  have hf := good_form h
  obtain ⟨f, u, v, a, b, c, op, im⟩ := x
  simp only at hf g0 g1 g2 g3 a0 a1 b0 b1 c0 c1 i0 i1
  have nI := numV_itoa im (by omega) (by omega)
  have rI := regV_itoa im
  have rA := regV_regL a a0 a1
  have rB := regV_regL b b0 b1
  have rC := regV_regL c c0 c1
  have nC := numV_regL c
  rcases hf with rfl | rfl | rfl | rfl
  · obtain rfl := g0 rfl
    have e1 : Lib.cut (restI ⟨0, u, v, a, b, c, op, 0⟩) [44, 32] = (regL a, regL b ++ ([44, 32] ++ regL c), true) := cut_sep no44
    have e2 : Lib.cut (regL b ++ 44 :: 32 :: regL c) [44, 32] = (regL b, regL c, true) := cut_sep no44
    simp [restR, e1, e2, rA, rB, rC, nC]
  · obtain rfl := g1 rfl
    have e1 : Lib.cut (restI ⟨1, u, v, a, b, 0, op, im⟩) [44, 32] = (regL a, regL b ++ ([44, 32] ++ Lib.itoa im), true) := cut_sep no44
    have e2 : Lib.cut (regL b ++ 44 :: 32 :: Lib.itoa im) [44, 32] = (regL b, Lib.itoa im, true) := cut_sep no44
    simp [restR, e1, e2, rA, rB, rI, nI]
  · obtain ⟨rfl, rfl⟩ := g2 rfl
    have e1 : Lib.cut (restI ⟨2, u, v, a, b, 0, 0, im⟩) [44, 32] = (regL a, regL b ++ ([44, 32] ++ Lib.itoa im), true) := cut_sep no44
    have e2 : Lib.cut (regL b ++ 44 :: 32 :: Lib.itoa im) [44, 32] = (regL b, Lib.itoa im, true) := cut_sep no44
    simp [restR, e1, e2, rA, rB, rI, nI]
  · obtain ⟨rfl, rfl, g4, g5⟩ := g3 rfl
    cases u
    · obtain rfl := g5 rfl
      have e1 : restI ⟨3, false, v, a, 0, c, 0, 0⟩ = regL c := rfl
      simp [restR, e1, rC, nC]
    · obtain rfl := g4 rfl
      have e1 : restI ⟨3, true, v, a, 0, 0, 0, im⟩ = Lib.itoa im := rfl
      simp [restR, e1, rI, nI]
theorem split_one {p : List UInt8} (h : (44 : UInt8) ∉ p) : Lib.split p [44, 32] = [p] := by
  have hi := index_no p [32] 44 h
  unfold Lib.split
  rw [Lib.count_miss hi]
  rfl
theorem split_sep {p r : List UInt8} (h : (44 : UInt8) ∉ p) : Lib.split (p ++ ([44, 32] ++ r)) [44, 32] = p :: Lib.split r [44, 32] := by
  have hi : Lib.index (p ++ ([44, 32] ++ r)) [44, 32] = p.length := index_at p r [32] 44 h
  have hd : (p ++ ([44, 32] ++ r)).drop (p.length + 2) = r := by rw [← List.drop_drop, List.drop_left]; rfl
  unfold Lib.split
  rw [Lib.count_hit (by simp) hi]
  simp only [List.length_cons, List.length_nil, Nat.zero_add, Nat.reduceAdd]
  rw [hd, Nat.add_comm 1, Lib.splitK, if_neg (by rw [hi]; simp), hi, Int.toNat_natCast]
  simp only [List.length_cons, List.length_nil, Nat.zero_add, Nat.reduceAdd, Nat.add_zero]
  rw [hd, List.take_left]
theorem find_line {x : Ins} (h : goodI x = true) : findP (nameI x) = some (shapeOf x) := by
  obtain ⟨i, hi, ht⟩ := shape_at h
  have hmem := List.mem_of_getElem? ht
  unfold findP
  cases hf : tableP.find? (fun p => p.2 = nameI x) with
  | none =>
    rw [List.find?_eq_none] at hf
    have := hf _ hmem
    simp at this
  | some q =>
    have hq := List.mem_of_find?_eq_some hf
    have h2 : q.2 = nameI x := by simpa using List.find?_some hf
    obtain ⟨j, hj⟩ := List.getElem?_of_mem hq
    have hij : j = i := by
      have e1 : (tableP.map (·.2))[j]? = some (nameI x) := by rw [List.getElem?_map, hj]; simp [h2]
      have e2 : (tableP.map (·.2))[i]? = some (nameI x) := by rw [List.getElem?_map, ht]; rfl
      have g1 := List.getElem?_eq_some_iff.1 e1
      have g2 := List.getElem?_eq_some_iff.1 e2
      exact (List.getElem_inj (h₀ := g1.1) (h₁ := g2.1) table_nodupN).1 (g1.2.trans g2.2.symm)
    subst hij
    rw [hj] at ht
    rw [Option.some.inj ht]
    rfl
theorem parseP_line {x : Ins} (h : goodI x = true) : parseP (lineI x) = some x := by
  obtain ⟨i0, i1, g0, g1, g2, g3⟩ := good_im h
  obtain ⟨⟨a0, a1⟩, ⟨b0, b1⟩, ⟨c0, c1⟩, o0, o1⟩ := good_nibs h
  have hl := line_len h
  unfold parseP
  rw [if_neg (by omega), cut_line h]
  simp only [find_line h]
  have hf := good_form h
  obtain ⟨f, u, v, a, b, c, op, im⟩ := x
  simp only at hf g0 g1 g2 g3 a0 a1 b0 b1 c0 c1 i0 i1
  have oI := opnd_itoa im (by omega) (by omega)
  have oA := opnd_regL a a0 a1
  have oB := opnd_regL b b0 b1
  have oC := opnd_regL c c0 c1
  rcases hf with rfl | rfl | rfl | rfl
  · obtain rfl := g0 rfl
    have e1 : Lib.split (restI ⟨0, u, v, a, b, c, op, 0⟩) [44, 32] = [regL a, regL b, regL c] := by
      show Lib.split (regL a ++ ([44, 32] ++ (regL b ++ ([44, 32] ++ regL c)))) [44, 32] = _
      rw [split_sep no44, split_sep no44, split_one no44]
    rw [e1]
    simp [restP, finP, shapeOf, oA, oB, oC]
  · obtain rfl := g1 rfl
    have e1 : Lib.split (restI ⟨1, u, v, a, b, 0, op, im⟩) [44, 32] = [regL a, regL b, Lib.itoa im] := by
      show Lib.split (regL a ++ ([44, 32] ++ (regL b ++ ([44, 32] ++ Lib.itoa im)))) [44, 32] = _
      rw [split_sep no44, split_sep no44, split_one no44i]
    rw [e1]
    simp [restP, finP, shapeOf, oA, oB, oI]
  · obtain ⟨rfl, rfl⟩ := g2 rfl
    have e1 : Lib.split (restI ⟨2, u, v, a, b, 0, 0, im⟩) [44, 32] = [regL a, regL b, Lib.itoa im] := by
      show Lib.split (regL a ++ ([44, 32] ++ (regL b ++ ([44, 32] ++ Lib.itoa im)))) [44, 32] = _
      rw [split_sep no44, split_sep no44, split_one no44i]
    rw [e1]
    simp [restP, finP, shapeOf, oA, oB, oI]
  · obtain ⟨rfl, rfl, g4, g5⟩ := g3 rfl
    cases u
    · obtain rfl := g5 rfl
      have e1 : Lib.split (restI ⟨3, false, v, a, 0, c, 0, 0⟩) [44, 32] = [regL c] := split_one no44
      rw [e1]
      simp [restP, finP, shapeOf, oC]
    · obtain rfl := g4 rfl
      have e1 : Lib.split (restI ⟨3, true, v, a, 0, 0, 0, im⟩) [44, 32] = [Lib.itoa im] := split_one no44i
      rw [e1]
      simp [restP, finP, shapeOf, oI]
/-- A text that is a good word's line. -/
def LineOf (s : List UInt8) (w : Int) : Prop := 0 ≤ w ∧ w ≤ 4294967295 ∧ goodW w = true ∧ lineI (insOf w) = s
theorem good_ins {w : Int} (h : goodW w = true) : goodI (insOf w) = true ∧ encI (insOf w) = w := by
  simp only [goodW, Bool.and_eq_true, decide_eq_true_eq] at h
  exact h
theorem word_of_line {p : List UInt8 → Option Ins} (hp : ∀ x, goodI x = true → p (lineI x) = some x) {s : List UInt8} {w : Int} (h : LineOf s w) : wordOf (p s) s = (w, 0) := by
  obtain ⟨h0, h1, hg, rfl⟩ := h
  obtain ⟨g1, g2⟩ := good_ins hg
  rw [hp _ g1]
  have e : encW (insOf w) = (w, 0) := by simp [encW, g1, g2]
  exact word_good e (by simp [lineW, hg])
theorem word_of_none {p : Option Ins} {s : List UInt8} (h : ∀ w, ¬ LineOf s w) : wordOf p s = (0, 60) := by
  cases p with
  | none => rfl
  | some x =>
    unfold wordOf
    simp only
    rw [if_neg]
    rintro ⟨h1, h2⟩
    have hg : goodI x = true := by
      cases hx : goodI x with
      | true => rfl
      | false => simp [encW, hx] at h1
    have e : encW x = (encI x, 0) := by simp [encW, hg]
    rw [e] at h2
    simp only at h2
    have hr := encI_range hg
    have hgw : goodW (encI x) = true := by
      cases hx : goodW (encI x) with
      | true => rfl
      | false => simp [lineW, hx] at h2
    refine h (encI x) ⟨hr.1, hr.2, hgw, ?_⟩
    simp [lineW, hgw] at h2
    exact h2
/-- The two agree. -/
theorem word_law (s : List UInt8) : wordOf (parseP s) s = wordOf (parseR s) s := by
  by_cases h : ∃ w, LineOf s w
  · obtain ⟨w, h⟩ := h
    rw [word_of_line (p := parseP) (fun x hx => parseP_line hx) h, word_of_line (p := parseR) (fun x hx => parseR_line hx) h]
  · have h' : ∀ w, ¬ LineOf s w := fun w hw => h ⟨w, hw⟩
    rw [word_of_none h', word_of_none h']
end Go.Proofs.YtjjgjadfnongfaaGreatDoor
