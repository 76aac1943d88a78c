import Derived.Test.YtkieeaajhomdoaaDoorTok1
set_option linter.unusedVariables false
set_option linter.unusedSimpArgs false
namespace Go.Proofs.YtkieeaajhomdoaaDoor
open Go.RowKit Go.Maps Go.MapKept
/-- What a function that makes a token comes to. -/
def AtTok (r : Except Int (Tok × Nat)) (w : World) (e : Ending) (w' : World) : Prop := Below w.heap.size w w' ∧
  match r with
  | .ok (t, n) => e = .returned (.tuple #[.agg #[.int .i64 t.kind, .string ⟨t.text.toArray⟩, .int .i64 t.n, .int .i64 t.at_], .int .i64 n, .int .i64 0])
  | .error c => ∃ k x m a n, e = .returned (.tuple #[.agg #[.int .i64 k, .string x, .int .i64 m, .int .i64 a], .int .i64 n, .int .i64 c])
set_option maxRecDepth 100000 in
set_option maxHeartbeats 800000 in
theorem text_any (s : ByteArray) (w : World) (hs : s.size ≤ 140737488351232) (h1 : 1 ≤ s.size) (r : Except Int (Tok × Nat)) (hres : textTok (s.data.toList.drop 1) = r) :
    Calls Tryd.prog 44 #[.string s] w (AtTok r w) := by
  have HRES := Lib.hid hres
  clear hres
  go_enter Tryd.func44, Tryd.ntmps44
  go_wp2
  go_loop [5] (fun i => ∃ k : Nat, k + 1 ≤ s.size ∧ i = .int .i64 (k + 1 : Nat) ∧ Hid (∀ c ∈ (s.data.toList.drop 1).take k, isPlain c = true)) (fun i => s.size - (intOf i).toNat)
  case atStart => exact ⟨0, by omega, rfl, by simp [Hid]⟩
  case round =>
    obtain ⟨k, hk, rfl, HT⟩ := hrel
    have hll : (s.data.toList.drop 1).length = s.size - 1 := by rw [List.length_drop, len_list]
    by_cases hlt : k + 1 < s.size
    · have hlt' : (k : Int) + 1 < (s.size : Int) := by omega
      have hb : ((s[k + 1].toNat : Nat) : Int) < 256 := by have := UInt8.toNat_lt s[k + 1]; omega
      have hkl : k < (s.data.toList.drop 1).length := by rw [hll]; omega
      have hg : (s.data.toList.drop 1)[k] = s[k + 1] := by
        rw [List.getElem_drop, ← get_list s (k + 1) hlt]
        congr 1
        omega
      have HG := Lib.hid hg
      by_cases hq : ((s[k + 1].toNat : Nat) : Int) = 34
      · have hq' : s[k + 1].toNat = 34 := by omega
        have hr : run isPlain (s.data.toList.drop 1) = k := run_eq (by omega) HT.out (fun h => by rw [hg]; simp [isPlain, hq'])
        have hat : (s.data.toList.drop 1)[k]? = some 34 := by
          rw [List.getElem?_eq_getElem hkl, hg]; exact congrArg some (UInt8.toNat_inj.1 hq')
        have hx : s.extract 1 (k + 1) = ⟨((s.data.toList.drop 1).take k).toArray⟩ := by rw [extract_mk]; rfl
        by_cases h64 : (64 : Int) < k
        · have fin : textTok (s.data.toList.drop 1) = .error 2 := by
            unfold textTok; simp only [hr, hat, if_true]; rw [if_pos (by omega)]
          have FIN := Lib.hid fin
          clear fin hx hat hr HG hg hkl hll
          go_wp2
          refine bodyPost_ret (v := .tuple #[.agg #[.int .i64 0, .string ⟨#[]⟩, .int .i64 0, .int .i64 0], .int .i64 0, .int .i64 2]) (by simp [results, Tryd.results44, go_sem]) rfl ⟨(Below.refl _ _).alloc (Nat.le_refl _) _, ?_⟩
          rw [← HRES.out, FIN.out]
          exact ⟨_, _, _, _, _, rfl⟩
        · have fin : textTok (s.data.toList.drop 1) = .ok (⟨5, (s.data.toList.drop 1).take k, 0, 0⟩, k + 2) := by
            unfold textTok; simp only [hr, hat, if_true]; rw [if_neg (by omega)]
          have FIN := Lib.hid fin
          have HX := Lib.hid hx
          clear fin hx hat hr HG hg hkl hll
          go_wp2
          refine bodyPost_ret (v := .tuple #[.agg #[.int .i64 5, .string (s.extract 1 (k + 1)), .int .i64 0, .int .i64 0], .int .i64 (k + 1 + 1), .int .i64 0]) (by simp [results, Tryd.results44, go_sem]) rfl ⟨(Below.refl _ _).alloc (Nat.le_refl _) _, ?_⟩
          rw [← HRES.out, FIN.out, HX.out]
          rfl
      · have hq1 : (((s[k + 1].toNat : Nat) : Int) != 34) = true := by rw [bne_iff_ne]; exact hq
        by_cases hge : (32 : Int) ≤ ((s[k + 1].toNat : Nat) : Int)
        · have HKL := Lib.hid hkl
          clear hll HG hg hkl
          go_wp2
          go_round
          case rel =>
            refine ⟨k + 1, by omega, by go_num, ?_⟩
            intro c hc
            rw [List.take_succ_eq_append_getElem (by rw [List.length_drop, len_list]; omega), List.mem_append] at hc
            rcases hc with hc | hc
            · exact HT.out c hc
            · simp only [List.mem_singleton] at hc
              have hg : (s.data.toList.drop 1)[k]'HKL.out = s[k + 1] := by
                rw [List.getElem_drop, ← get_list s (k + 1) hlt]
                congr 1
                omega
              rw [hc, hg]
              simp only [isPlain, Bool.and_eq_true, decide_eq_true_eq, bne_iff_ne]
              exact ⟨by omega, fun e => hq (by omega)⟩
          case measure => simp [intOf]; omega
        · have hr : run isPlain (s.data.toList.drop 1) = k := run_eq (by omega) HT.out (fun h => by rw [hg]; simp [isPlain]; intro h; omega)
          have fin : textTok (s.data.toList.drop 1) = .error 90 := by
            unfold textTok; simp only [hr]; rw [if_neg]
            rw [List.getElem?_eq_getElem hkl, hg]
            intro e
            simp only [Option.some.injEq] at e
            exact hq (by rw [e]; rfl)
          have FIN := Lib.hid fin
          clear fin hr HG hg hkl hll
          go_wp2
          refine bodyPost_ret (v := .tuple #[.agg #[.int .i64 0, .string ⟨#[]⟩, .int .i64 0, .int .i64 0], .int .i64 0, .int .i64 90]) (by simp [results, Tryd.results44, go_sem]) rfl ⟨(Below.refl _ _).alloc (Nat.le_refl _) _, ?_⟩
          rw [← HRES.out, FIN.out]
          exact ⟨_, _, _, _, _, rfl⟩
    · have hr : run isPlain (s.data.toList.drop 1) = k := run_eq (by omega) HT.out (fun h => by omega)
      have fin : textTok (s.data.toList.drop 1) = .error 90 := by
        unfold textTok; simp only [hr]; rw [if_neg]
        rw [List.getElem?_eq_none (by omega)]
        simp
      have FIN := Lib.hid fin
      have he : (((k : Int) + 1) == (s.size : Int)) = true := by rw [beq_iff_eq]; omega
      clear fin hr hll
      go_wp2
      refine bodyPost_ret (v := .tuple #[.agg #[.int .i64 0, .string ⟨#[]⟩, .int .i64 0, .int .i64 0], .int .i64 0, .int .i64 90]) (by simp [results, Tryd.results44, go_sem]) rfl ⟨(Below.refl _ _).alloc (Nat.le_refl _) _, ?_⟩
      rw [← HRES.out, FIN.out]
      exact ⟨_, _, _, _, _, rfl⟩
end Go.Proofs.YtkieeaajhomdoaaDoor
