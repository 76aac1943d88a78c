import Derived.Test.YtkieeaajhomdoaaDoorRef2
set_option linter.unusedVariables false
set_option linter.unusedSimpArgs false
namespace Go.Proofs.YtkieeaajhomdoaaDoor
open Go.RowKit Go.Maps Go.MapKept
/-- What the reference says of the token at a place. -/
def AtOne (r : Except Int (Tok × Nat)) (k : Nat) (w : World) (e : Ending) (w' : World) : Prop := Below w.heap.size w w' ∧
  match r with
  | .ok (t, n) => e = .returned (.tuple #[.agg #[.int .i64 t.kind, .string ⟨t.text.toArray⟩, .int .i64 t.n, .int .i64 k], .int .i64 (k + n : Nat), .int .i64 0])
  | .error c => ∃ k x m a n, e = .returned (.tuple #[.agg #[.int .i64 k, .string x, .int .i64 m, .int .i64 a], .int .i64 n, .int .i64 c])
theorem at_drop (s : ByteArray) (k j : Nat) (hj : k ≤ j) : (s.data.toList.drop k)[j - k]? = s.data.toList[j]? := by
  rw [List.getElem?_drop, show k + (j - k) = j from by omega]
theorem at_list (s : ByteArray) (j : Nat) (hj : j < s.size) : s.data.toList[j]? = some s[j] := by
  rw [List.getElem?_eq_getElem (by rw [len_list]; exact hj), get_list s j hj]
theorem take_drop_snoc (s : ByteArray) (k j : Nat) (hj : k ≤ j) (h : j < s.size) : (s.data.toList.drop k).take (j + 1 - k) = (s.data.toList.drop k).take (j - k) ++ [s[j]] := by
  rw [show j + 1 - k = (j - k) + 1 from by omega, List.take_add_one, at_drop s k j hj, at_list s j h]
  rfl
theorem run_upto {p : UInt8 → Bool} (s : ByteArray) (k j : Nat) (hj : k ≤ j) (hjs : j ≤ s.size) (h1 : ∀ c ∈ (s.data.toList.drop k).take (j - k), p c = true) (h2 : ∀ h : j < s.size, p s[j] = false) : run p (s.data.toList.drop k) = j - k := by
  refine run_eq (by rw [List.length_drop, len_list]; omega) h1 (fun h => ?_)
  rw [List.length_drop, len_list] at h
  have hj2 : j < s.size := by omega
  have e : (s.data.toList.drop k)[j - k] = s[j] := by
    have := at_drop s k j hj
    rw [at_list s j hj2, List.getElem?_eq_getElem (by rw [List.length_drop, len_list]; omega)] at this
    simpa using this
  rw [e]
  exact h2 hj2
theorem run_digits {l : List UInt8} (h : ∀ c ∈ l, isDigit c = true) : ¬ run isDigit l < l.length := by
  intro hl
  have := run_lt_stop hl
  rw [h _ (List.getElem_mem _)] at this
  cases this
theorem run_nodigit {l : List UInt8} (h : ¬ ∀ c ∈ l, isDigit c = true) : run isDigit l < l.length := by
  rcases Nat.lt_or_ge (run isDigit l) l.length with h' | h'
  · exact h'
  · exact absurd (fun c hc => by have := @run_take_all isDigit l c; rw [List.take_of_length_le h'] at this; exact this hc) h
theorem hex_num {c : UInt8} (h : isHex c = true) : (isLetter c = true ∧ 65 ≤ c.toNat ∧ c.toNat ≤ 70 ∧ hexDig c = c.toNat - 55) ∨ (isLetter c = false ∧ 48 ≤ c.toNat ∧ c.toNat ≤ 57 ∧ hexDig c = c.toNat - 48) := by
  simp only [isHex, isDigit, Bool.or_eq_true, Bool.and_eq_true, decide_eq_true_eq] at h
  rcases h with h | h
  · refine .inr ⟨?_, h.1, h.2, ?_⟩
    · rw [Bool.eq_false_iff]; intro h2; simp only [isLetter, Bool.or_eq_true, Bool.and_eq_true, decide_eq_true_eq] at h2; omega
    · unfold hexDig; rw [if_pos h.2]
  · refine .inl ⟨?_, h.1, h.2, ?_⟩
    · simp only [isLetter, Bool.or_eq_true, Bool.and_eq_true, decide_eq_true_eq]; omega
    · unfold hexDig; rw [if_neg (by omega)]
set_option maxRecDepth 100000 in
set_option maxHeartbeats 16000000 in
theorem r_number (s : ByteArray) (k : Nat) (w : World) (hs : s.size ≤ 140737488351232) (hk : k < s.size) (hd : isDigit s[k] = true) (r : Except Int (Tok × Nat)) (hres : numTok (s.data.toList.drop k) = r) :
    Calls Tryd.prog 50 #[.string s, .int .i64 k] w (AtOne r k w) := by
  have HRES := Lib.hid hres
  have HD0 := Lib.hid hd
  clear hres hd
  go_enter Tryd.func50, Tryd.ntmps50
  go_wp2_with fail
  go_loop [7, 8] (fun i d => ∃ (j : Nat) (dec : Bool), k ≤ j ∧ j ≤ s.size ∧ i = .int .i64 j ∧ d = .bool dec ∧ Hid (∀ c ∈ (s.data.toList.drop k).take (j - k), isHex c = true) ∧ Hid (dec = true ↔ ∀ c ∈ (s.data.toList.drop k).take (j - k), isDigit c = true)) (fun i _ => s.size - (intOf i).toNat)
  case atStart => exact ⟨k, true, Nat.le_refl _, by omega, rfl, rfl, by simp [Hid], by simp [Hid]⟩
  case round =>
    obtain ⟨j, dec, hkj, hj, rfl, rfl, HH, HDEC⟩ := hrel
    by_cases hgo : ∃ h : j < s.size, isHex s[j] = true
    · obtain ⟨hlt, hhex⟩ := hgo
      have hlt2 : (j : Int) < s.size := by omega
      have HX := Lib.hid hhex
      clear hhex
      have HT := Lib.hid (take_drop_snoc s k j hkj hlt)
      have HA : Hid (∀ c ∈ (s.data.toList.drop k).take (j + 1 - k), isHex c = true) := by
        intro c hc
        rw [HT.out, List.mem_append] at hc
        rcases hc with hc | hc
        · exact HH.out c hc
        · simp only [List.mem_singleton] at hc; rw [hc]; exact HX.out
      cases dec with
      | true =>
        have hall := HDEC.out.1 rfl
        have HB : Hid (isDigit s[j] = true ↔ ∀ c ∈ (s.data.toList.drop k).take (j + 1 - k), isDigit c = true) := by
          show _ ↔ _
          rw [HT.out]
          constructor
          · intro h c hc
            rw [List.mem_append] at hc
            rcases hc with hc | hc
            · exact hall c hc
            · simp only [List.mem_singleton] at hc; rw [hc]; exact h
          · intro h; exact h _ (by simp)
        clear hall
        go_wp2_with fail
        refine (r_hexa s[j] _).mono ?_
        rintro e w1 ⟨rfl, rfl⟩
        rw [HX.out]
        go_wp2_with fail
        refine (r_digit s[j] _).mono ?_
        rintro e w1 ⟨rfl, rfl⟩
        go_wp2_with fail
        go_round
        case rel => exact ⟨j + 1, _, by omega, by omega, by go_num, rfl, HA, HB⟩
        case measure => simp [intOf]; omega
      | false =>
        have HB : Hid (false = true ↔ ∀ c ∈ (s.data.toList.drop k).take (j + 1 - k), isDigit c = true) := by
          show _ ↔ _
          rw [HT.out]
          constructor
          · intro h; cases h
          · intro h; exact HDEC.out.2 (fun c hc => h c (by simp [hc]))
        go_wp2_with fail
        refine (r_hexa s[j] _).mono ?_
        rintro e w1 ⟨rfl, rfl⟩
        rw [HX.out]
        go_wp2_with fail
        go_round
        case rel => exact ⟨j + 1, false, by omega, by omega, by go_num, rfl, HA, HB⟩
        case measure => simp [intOf]; omega
    · -- the run is at its end
      have hstop : ∀ h : j < s.size, isHex s[j] = false := fun h => by
        cases hx : isHex s[j] with
        | true => exact absurd ⟨h, hx⟩ hgo
        | false => rfl
      have hrun : run isHex (s.data.toList.drop k) = j - k := run_upto s k j hkj hj HH.out hstop
      have hkj1 : k + 1 ≤ j := by
        rcases Nat.lt_or_ge k j with h | h
        · exact h
        · have : j = k := by omega
          subst this
          have := hstop hk
          rw [isHex, HD0.out] at this
          simp at this
      have HRUN := Lib.hid hrun
      have HSTOP := Lib.hid hstop
      have hat : (s.data.toList.drop k)[j - k]? = s.data.toList[j]? := at_drop s k j hkj
      have hat1 : (s.data.toList.drop k)[j - k + 1]? = s.data.toList[j + 1]? := by rw [show j - k + 1 = (j + 1) - k from by omega]; exact at_drop s k (j + 1) (by omega)
      have hlen : ((s.data.toList.drop k).take (j - k)).length = j - k := by rw [List.length_take, List.length_drop, len_list]; omega
      have HAT := Lib.hid hat
      have HAT1 := Lib.hid hat1
      have HLEN := Lib.hid hlen
      clear hgo hstop hrun hat hat1 hlen
      by_cases hlt : j < s.size
      · have hlt2 : (j : Int) < s.size := by omega
        have hcb : ((s[j].toNat : Nat) : Int) < 256 := by have := UInt8.toNat_lt s[j]; omega
        have HG := Lib.hid (at_list s j hlt)
        have HNX := Lib.hid (HSTOP.out hlt)
        by_cases h72 : ((s[j].toNat : Nat) : Int) = 72
        · have h72b : (((s[j].toNat : Nat) : Int) == 72) = true := by rw [beq_iff_eq]; exact h72
          have H72 : Hid (s.data.toList[j]? = some 72) := by show _ = _; rw [HG.out]; exact congrArg some (UInt8.toNat_inj.1 (by show _ = 72; omega))
          clear h72
          go_wp2_with fail
          refine (r_hexa s[j] _).mono ?_
          rintro e w1 ⟨rfl, rfl⟩
          rw [HNX.out]
          go_wp2_with fail
          go_loop [13, 14] (fun v i => ∃ (m : Nat) (V : Int), k ≤ m ∧ m ≤ j ∧ i = .int .i64 m ∧ v = .int .i64 V ∧ 0 ≤ V ∧ V < 68719476752 ∧ Hid (V = (numVal 16 ((s.data.toList.drop k).take (m - k)) : Nat))) (fun _ i => j - (intOf i).toNat)
          case atStart => exact ⟨k, 0, Nat.le_refl _, hkj, rfl, rfl, by omega, by omega, by simp [Hid, numVal]⟩
          case round =>
            obtain ⟨m, V, hkm, hmj, rfl, rfl, hV0, hV, HV⟩ := hrel
            by_cases hgo : m < j ∧ V < 4294967296
            · obtain ⟨hg1, hg2⟩ := hgo
              have hms : m < s.size := by omega
              have hmi : (m : Int) < j := by omega
              have hmsi : (m : Int) < s.size := by omega
              have hcm : ((s[m].toNat : Nat) : Int) < 256 := by have := UInt8.toNat_lt s[m]; omega
              have hmem : s[m] ∈ (s.data.toList.drop k).take (j - k) := List.mem_of_getElem? (i := m - k) (by rw [List.getElem?_take_of_lt (by omega), at_drop s k m hkm, at_list s m hms])
              have hstep : numVal 16 ((s.data.toList.drop k).take (m + 1 - k)) = numVal 16 ((s.data.toList.drop k).take (m - k)) * 16 + hexDig s[m] := by rw [take_drop_snoc s k m hkm hms, numVal_snoc]
              have hv0 := HV.out
              rcases hex_num (HH.out _ hmem) with ⟨hl, h1, h2, h3⟩ | ⟨hl, h1, h2, h3⟩
              · rw [h3] at hstep
                have HS : Hid (V * 16 + ((s[m].toNat : Int) - 65 + 10) = ((numVal 16 ((s.data.toList.drop k).take (m + 1 - k)) : Nat) : Int)) := by show _ = _; rw [hstep]; omega
                have hb0 : 0 ≤ V * 16 + ((s[m].toNat : Int) - 65 + 10) := by omega
                have hb1 : V * 16 + ((s[m].toNat : Int) - 65 + 10) < 68719476752 := by omega
                have HL := Lib.hid hl
                have i1 : 48 ≤ ((s[m].toNat : Nat) : Int) := by omega
                have i2 : 65 ≤ ((s[m].toNat : Nat) : Int) := by omega
                have i3 : ((s[m].toNat : Nat) : Int) ≤ 70 := by omega
                clear hmem hstep h1 h2 h3 hl hv0
                go_wp2_with fail
                refine (r_letter s[m] _).mono ?_
                rintro e w1 ⟨rfl, rfl⟩
                rw [HL.out]
                go_wp2_with fail
                go_round
                case rel => exact ⟨m + 1, V * 16 + ((s[m].toNat : Int) - 65 + 10), by omega, by omega, by go_num, rfl, hb0, hb1, HS⟩
                case measure => simp [intOf]; omega
              · rw [h3] at hstep
                have HS : Hid (V * 16 + ((s[m].toNat : Int) - 48) = ((numVal 16 ((s.data.toList.drop k).take (m + 1 - k)) : Nat) : Int)) := by show _ = _; rw [hstep]; omega
                have hb0 : 0 ≤ V * 16 + ((s[m].toNat : Int) - 48) := by omega
                have hb1 : V * 16 + ((s[m].toNat : Int) - 48) < 68719476752 := by omega
                have HL := Lib.hid hl
                have i1 : 48 ≤ ((s[m].toNat : Nat) : Int) := by omega
                have i3 : ((s[m].toNat : Nat) : Int) ≤ 57 := by omega
                clear hmem hstep h1 h2 h3 hl hv0
                go_wp2_with fail
                refine (r_letter s[m] _).mono ?_
                rintro e w1 ⟨rfl, rfl⟩
                rw [HL.out]
                go_wp2_with fail
                go_round
                case rel => exact ⟨m + 1, V * 16 + ((s[m].toNat : Int) - 48), by omega, by omega, by go_num, rfl, hb0, hb1, HS⟩
                case measure => simp [intOf]; omega
            · -- the value is known
              have hval2 : ¬ V < 4294967296 → ¬ numVal 16 ((s.data.toList.drop k).take (j - k)) < 4294967296 := fun h => by
                have := numVal_take 16 (by omega) ((s.data.toList.drop k).take (j - k)) (m - k)
                rw [List.take_take, Nat.min_eq_left (by omega)] at this
                have := HV.out
                omega
              by_cases hlim : V < 4294967296
              · have hmj3 : m = j := by omega
                clear hval2 hgo hmj
                subst hmj3
                have hv := HV.out
                have hdl : decide ((4294967296 : Int) ≤ V) = false := decide_eq_false (by omega)
                by_cases hbig : V < 2147483648
                · have hdb : decide ((2147483648 : Int) ≤ V) = false := decide_eq_false (by omega)
                  have fin : r = .ok (⟨3, [], V, 0⟩, m - k + 1) := by
                    rw [← HRES.out, numTok]
                    simp only [HRUN.out, HAT.out, HAT1.out]
                    rw [if_pos H72.out, if_pos (by omega), if_pos (by omega), hv]
                  have FIN := Lib.hid fin
                  clear fin hv hlim
                  go_wp2_with fail
                  refine bodyPost_ret (v := .tuple #[.agg #[.int .i64 3, .string ⟨#[]⟩, .int .i64 V, .int .i64 k], .int .i64 (m + 1), .int .i64 0]) (by simp [results, Tryd.results50, go_sem]) rfl ⟨((Below.refl _ _).alloc (Nat.le_refl _) _).alloc (by simp) _, ?_⟩
                  rw [FIN.out]
                  refine congrArg Ending.returned ?_
                  have : k + (m - k + 1) = m + 1 := by omega
                  simp only [this]
                  rfl
                · have hdb : decide ((2147483648 : Int) ≤ V) = true := decide_eq_true (by omega)
                  have fin : r = .ok (⟨3, [], V - 4294967296, 0⟩, m - k + 1) := by
                    rw [← HRES.out, numTok]
                    simp only [HRUN.out, HAT.out, HAT1.out]
                    rw [if_pos H72.out, if_pos (by omega), if_neg (by omega), hv]
                  have FIN := Lib.hid fin
                  clear fin hv hlim
                  go_wp2_with fail
                  refine bodyPost_ret (v := .tuple #[.agg #[.int .i64 3, .string ⟨#[]⟩, .int .i64 (V - 4294967296), .int .i64 k], .int .i64 (m + 1), .int .i64 0]) (by simp [results, Tryd.results50, go_sem]) rfl ⟨((Below.refl _ _).alloc (Nat.le_refl _) _).alloc (by simp) _, ?_⟩
                  rw [FIN.out]
                  refine congrArg Ending.returned ?_
                  have : k + (m - k + 1) = m + 1 := by omega
                  simp only [this]
                  rfl
              · have hdl : decide ((4294967296 : Int) ≤ V) = true := decide_eq_true (by omega)
                have hdn : decide (V < (4294967296 : Int)) = false := decide_eq_false (by omega)
                have hv := hval2 hlim
                have fin : r = .error 91 := by
                  rw [← HRES.out, numTok]
                  simp only [HRUN.out, HAT.out, HAT1.out]
                  rw [if_pos H72.out, if_neg hv]
                have FIN := Lib.hid fin
                clear fin hv hval2 hgo hlim
                go_wp2_with fail
                all_goals refine bodyPost_ret (v := .tuple #[.agg #[.int .i64 3, .string ⟨#[]⟩, .int .i64 0, .int .i64 k], .int .i64 0, .int .i64 91]) (by simp [results, Tryd.results50, go_sem]) rfl ⟨((Below.refl _ _).alloc (Nat.le_refl _) _).alloc (by simp) _, ?_⟩
                all_goals (rw [FIN.out]; exact ⟨_, _, _, _, _, rfl⟩)
        · have h72b : (((s[j].toNat : Nat) : Int) == 72) = false := by rw [beq_eq_false_iff_ne]; exact h72
          have H72 : Hid (¬ s.data.toList[j]? = some 72) := by show ¬ _; rw [HG.out]; intro h; simp only [Option.some.injEq] at h; exact h72 (by rw [h]; rfl)
          clear h72
          by_cases h88 : ((s[j].toNat : Nat) : Int) = 88
          · have h88b : (((s[j].toNat : Nat) : Int) == 88) = true := by rw [beq_iff_eq]; exact h88
            have H88 : Hid (s.data.toList[j]? = some 88) := by show _ = _; rw [HG.out]; exact congrArg some (UInt8.toNat_inj.1 (by show _ = 88; omega))
            clear h88
            go_wp2_with fail
            refine (r_hexa s[j] _).mono ?_
            rintro e w1 ⟨rfl, rfl⟩
            rw [HNX.out]
            go_wp2_with fail
            go_loop [13, 14] (fun v i => ∃ (m : Nat) (V : Int), k ≤ m ∧ m ≤ j ∧ i = .int .i64 m ∧ v = .int .i64 V ∧ 0 ≤ V ∧ V < 4112 ∧ Hid (V = (numVal 16 ((s.data.toList.drop k).take (m - k)) : Nat))) (fun _ i => j - (intOf i).toNat)
            case atStart => exact ⟨k, 0, Nat.le_refl _, hkj, rfl, rfl, by omega, by omega, by simp [Hid, numVal]⟩
            case round =>
              obtain ⟨m, V, hkm, hmj, rfl, rfl, hV0, hV, HV⟩ := hrel
              by_cases hgo : m < j ∧ V < 256
              · obtain ⟨hg1, hg2⟩ := hgo
                have hms : m < s.size := by omega
                have hmi : (m : Int) < j := by omega
                have hmsi : (m : Int) < s.size := by omega
                have hcm : ((s[m].toNat : Nat) : Int) < 256 := by have := UInt8.toNat_lt s[m]; omega
                have hmem : s[m] ∈ (s.data.toList.drop k).take (j - k) := List.mem_of_getElem? (i := m - k) (by rw [List.getElem?_take_of_lt (by omega), at_drop s k m hkm, at_list s m hms])
                have hstep : numVal 16 ((s.data.toList.drop k).take (m + 1 - k)) = numVal 16 ((s.data.toList.drop k).take (m - k)) * 16 + hexDig s[m] := by rw [take_drop_snoc s k m hkm hms, numVal_snoc]
                have hv0 := HV.out
                rcases hex_num (HH.out _ hmem) with ⟨hl, h1, h2, h3⟩ | ⟨hl, h1, h2, h3⟩
                · rw [h3] at hstep
                  have HS : Hid (V * 16 + ((s[m].toNat : Int) - 65 + 10) = ((numVal 16 ((s.data.toList.drop k).take (m + 1 - k)) : Nat) : Int)) := by show _ = _; rw [hstep]; omega
                  have hb0 : 0 ≤ V * 16 + ((s[m].toNat : Int) - 65 + 10) := by omega
                  have hb1 : V * 16 + ((s[m].toNat : Int) - 65 + 10) < 4112 := by omega
                  have HL := Lib.hid hl
                  have i1 : 48 ≤ ((s[m].toNat : Nat) : Int) := by omega
                  have i2 : 65 ≤ ((s[m].toNat : Nat) : Int) := by omega
                  have i3 : ((s[m].toNat : Nat) : Int) ≤ 70 := by omega
                  clear hmem hstep h1 h2 h3 hl hv0
                  go_wp2_with fail
                  refine (r_letter s[m] _).mono ?_
                  rintro e w1 ⟨rfl, rfl⟩
                  rw [HL.out]
                  go_wp2_with fail
                  go_round
                  case rel => exact ⟨m + 1, V * 16 + ((s[m].toNat : Int) - 65 + 10), by omega, by omega, by go_num, rfl, hb0, hb1, HS⟩
                  case measure => simp [intOf]; omega
                · rw [h3] at hstep
                  have HS : Hid (V * 16 + ((s[m].toNat : Int) - 48) = ((numVal 16 ((s.data.toList.drop k).take (m + 1 - k)) : Nat) : Int)) := by show _ = _; rw [hstep]; omega
                  have hb0 : 0 ≤ V * 16 + ((s[m].toNat : Int) - 48) := by omega
                  have hb1 : V * 16 + ((s[m].toNat : Int) - 48) < 4112 := by omega
                  have HL := Lib.hid hl
                  have i1 : 48 ≤ ((s[m].toNat : Nat) : Int) := by omega
                  have i3 : ((s[m].toNat : Nat) : Int) ≤ 57 := by omega
                  clear hmem hstep h1 h2 h3 hl hv0
                  go_wp2_with fail
                  refine (r_letter s[m] _).mono ?_
                  rintro e w1 ⟨rfl, rfl⟩
                  rw [HL.out]
                  go_wp2_with fail
                  go_round
                  case rel => exact ⟨m + 1, V * 16 + ((s[m].toNat : Int) - 48), by omega, by omega, by go_num, rfl, hb0, hb1, HS⟩
                  case measure => simp [intOf]; omega
              · -- the value is known
                have hval2 : ¬ V < 256 → ¬ numVal 16 ((s.data.toList.drop k).take (j - k)) < 256 := fun h => by
                  have := numVal_take 16 (by omega) ((s.data.toList.drop k).take (j - k)) (m - k)
                  rw [List.take_take, Nat.min_eq_left (by omega)] at this
                  have := HV.out
                  omega
                by_cases hlim : V < 256
                · have hmj3 : m = j := by omega
                  clear hval2 hgo hmj
                  subst hmj3
                  have hv := HV.out
                  have hdl : decide ((256 : Int) ≤ V) = false := decide_eq_false (by omega)
                  have hdb : decide ((2147483648 : Int) ≤ V) = false := decide_eq_false (by omega)
                  have fin : r = .ok (⟨4, [], V, 0⟩, m - k + 1) := by
                    rw [← HRES.out, numTok]
                    simp only [HRUN.out, HAT.out, HAT1.out]
                    rw [if_neg H72.out, if_pos H88.out, if_pos (by omega), hv]
                  have FIN := Lib.hid fin
                  clear fin hv hlim
                  go_wp2_with fail
                  refine bodyPost_ret (v := .tuple #[.agg #[.int .i64 4, .string ⟨#[]⟩, .int .i64 V, .int .i64 k], .int .i64 (m + 1), .int .i64 0]) (by simp [results, Tryd.results50, go_sem]) rfl ⟨((Below.refl _ _).alloc (Nat.le_refl _) _).alloc (by simp) _, ?_⟩
                  rw [FIN.out]
                  refine congrArg Ending.returned ?_
                  have : k + (m - k + 1) = m + 1 := by omega
                  simp only [this]
                  rfl
                · have hdl : decide ((256 : Int) ≤ V) = true := decide_eq_true (by omega)
                  have hdn : decide (V < (256 : Int)) = false := decide_eq_false (by omega)
                  have hv := hval2 hlim
                  have fin : r = .error 91 := by
                    rw [← HRES.out, numTok]
                    simp only [HRUN.out, HAT.out, HAT1.out]
                    rw [if_neg H72.out, if_pos H88.out, if_neg hv]
                  have FIN := Lib.hid fin
                  clear fin hv hval2 hgo hlim
                  go_wp2_with fail
                  all_goals refine bodyPost_ret (v := .tuple #[.agg #[.int .i64 4, .string ⟨#[]⟩, .int .i64 0, .int .i64 k], .int .i64 0, .int .i64 91]) (by simp [results, Tryd.results50, go_sem]) rfl ⟨((Below.refl _ _).alloc (Nat.le_refl _) _).alloc (by simp) _, ?_⟩
                  all_goals (rw [FIN.out]; exact ⟨_, _, _, _, _, rfl⟩)
          · have h88b : (((s[j].toNat : Nat) : Int) == 88) = false := by rw [beq_eq_false_iff_ne]; exact h88
            have H88 : Hid (¬ s.data.toList[j]? = some 88) := by show ¬ _; rw [HG.out]; intro h; simp only [Option.some.injEq] at h; exact h88 (by rw [h]; rfl)
            clear h88
            cases dec with
            | false =>
              have hnd := run_nodigit (fun h => by have := HDEC.out.2 h; cases this)
              rw [HLEN.out] at hnd
              have fin : r = .error 90 := by
                rw [← HRES.out, numTok]
                simp only [HRUN.out, HAT.out, HAT1.out]
                rw [if_neg H72.out, if_neg H88.out, if_pos (.inl hnd)]
              have FIN := Lib.hid fin
              clear hnd fin
              go_wp2_with fail
              refine (r_hexa s[j] _).mono ?_
              rintro e w1 ⟨rfl, rfl⟩
              rw [HNX.out]
              go_wp2_with fail
              refine bodyPost_ret (v := .tuple #[.agg #[.int .i64 3, .string ⟨#[]⟩, .int .i64 0, .int .i64 k], .int .i64 0, .int .i64 90]) (by simp [results, Tryd.results50, go_sem]) rfl ⟨((Below.refl _ _).alloc (Nat.le_refl _) _).alloc (by simp) _, ?_⟩
              rw [FIN.out]
              exact ⟨_, _, _, _, _, rfl⟩
            | true =>
              have hdg := run_digits (HDEC.out.1 rfl)
              rw [HLEN.out] at hdg
              have HDG := Lib.hid hdg
              clear hdg
              by_cases h46 : ((s[j].toNat : Nat) : Int) = 46
              · have h46b : (((s[j].toNat : Nat) : Int) == 46) = true := by rw [beq_iff_eq]; exact h46
                have H46 : Hid (s.data.toList[j]? = some 46) := by show _ = _; rw [HG.out]; exact congrArg some (UInt8.toNat_inj.1 (by show _ = 46; omega))
                clear h46
                by_cases hlt3 : j + 1 < s.size
                · have hle : (((j : Int) + 1) == (s.size : Int)) = false := by rw [beq_eq_false_iff_ne]; omega
                  have hlt4 : (j : Int) + 1 < s.size := by omega
                  have HG1 := Lib.hid (at_list s (j + 1) hlt3)
                  have hcb1 : ((s[j + 1].toNat : Nat) : Int) < 256 := by have := UInt8.toNat_lt s[j + 1]; omega
                  by_cases h47 : ((s[j + 1].toNat : Nat) : Int) = 46
                  · have h47b : (((s[j + 1].toNat : Nat) : Int) != 46) = false := by rw [bne_eq_false_iff_eq]; exact h47
                    have HC : Hid (¬ (s.data.toList[j]? = some 46 ∧ s.data.toList[j + 1]? ≠ some 46)) := fun h => h.2 (by rw [HG1.out]; exact congrArg some (UInt8.toNat_inj.1 (by show _ = 46; omega)))
                    clear h47
                    go_wp2_with fail
                    refine (r_hexa s[j] _).mono ?_
                    rintro e w1 ⟨rfl, rfl⟩
                    rw [HNX.out]
                    go_wp2_with fail
                    go_loop [13, 14] (fun v i => ∃ (m : Nat) (V : Int), k ≤ m ∧ m ≤ j ∧ i = .int .i64 m ∧ v = .int .i64 V ∧ 0 ≤ V ∧ V < 21474836490 ∧ Hid (V = (numVal 10 ((s.data.toList.drop k).take (m - k)) : Nat))) (fun _ i => j - (intOf i).toNat)
                    case atStart => exact ⟨k, 0, Nat.le_refl _, hkj, rfl, rfl, by omega, by omega, by simp [Hid, numVal]⟩
                    case round =>
                      obtain ⟨m, V, hkm, hmj, rfl, rfl, hV0, hV, HV⟩ := hrel
                      by_cases hgo : m < j ∧ V < 2147483648
                      · obtain ⟨hg1, hg2⟩ := hgo
                        have hms : m < s.size := by omega
                        have hmi : (m : Int) < j := by omega
                        have hmsi : (m : Int) < s.size := by omega
                        have hcm : ((s[m].toNat : Nat) : Int) < 256 := by have := UInt8.toNat_lt s[m]; omega
                        have hmem : s[m] ∈ (s.data.toList.drop k).take (j - k) := List.mem_of_getElem? (i := m - k) (by rw [List.getElem?_take_of_lt (by omega), at_drop s k m hkm, at_list s m hms])
                        have hstep : numVal 10 ((s.data.toList.drop k).take (m + 1 - k)) = numVal 10 ((s.data.toList.drop k).take (m - k)) * 10 + hexDig s[m] := by rw [take_drop_snoc s k m hkm hms, numVal_snoc]
                        have hv0 := HV.out
                        rcases hex_num (HH.out _ hmem) with ⟨hl, h1, h2, h3⟩ | ⟨hl, h1, h2, h3⟩
                        · rw [h3] at hstep
                          have HS : Hid (V * 10 + ((s[m].toNat : Int) - 65 + 10) = ((numVal 10 ((s.data.toList.drop k).take (m + 1 - k)) : Nat) : Int)) := by show _ = _; rw [hstep]; omega
                          have hb0 : 0 ≤ V * 10 + ((s[m].toNat : Int) - 65 + 10) := by omega
                          have hb1 : V * 10 + ((s[m].toNat : Int) - 65 + 10) < 21474836490 := by omega
                          have HL := Lib.hid hl
                          have i1 : 48 ≤ ((s[m].toNat : Nat) : Int) := by omega
                          have i2 : 65 ≤ ((s[m].toNat : Nat) : Int) := by omega
                          have i3 : ((s[m].toNat : Nat) : Int) ≤ 70 := by omega
                          clear hmem hstep h1 h2 h3 hl hv0
                          go_wp2_with fail
                          refine (r_letter s[m] _).mono ?_
                          rintro e w1 ⟨rfl, rfl⟩
                          rw [HL.out]
                          go_wp2_with fail
                          go_round
                          case rel => exact ⟨m + 1, V * 10 + ((s[m].toNat : Int) - 65 + 10), by omega, by omega, by go_num, rfl, hb0, hb1, HS⟩
                          case measure => simp [intOf]; omega
                        · rw [h3] at hstep
                          have HS : Hid (V * 10 + ((s[m].toNat : Int) - 48) = ((numVal 10 ((s.data.toList.drop k).take (m + 1 - k)) : Nat) : Int)) := by show _ = _; rw [hstep]; omega
                          have hb0 : 0 ≤ V * 10 + ((s[m].toNat : Int) - 48) := by omega
                          have hb1 : V * 10 + ((s[m].toNat : Int) - 48) < 21474836490 := by omega
                          have HL := Lib.hid hl
                          have i1 : 48 ≤ ((s[m].toNat : Nat) : Int) := by omega
                          have i3 : ((s[m].toNat : Nat) : Int) ≤ 57 := by omega
                          clear hmem hstep h1 h2 h3 hl hv0
                          go_wp2_with fail
                          refine (r_letter s[m] _).mono ?_
                          rintro e w1 ⟨rfl, rfl⟩
                          rw [HL.out]
                          go_wp2_with fail
                          go_round
                          case rel => exact ⟨m + 1, V * 10 + ((s[m].toNat : Int) - 48), by omega, by omega, by go_num, rfl, hb0, hb1, HS⟩
                          case measure => simp [intOf]; omega
                      · -- the value is known
                        have hval2 : ¬ V < 2147483648 → ¬ numVal 10 ((s.data.toList.drop k).take (j - k)) < 2147483648 := fun h => by
                          have := numVal_take 10 (by omega) ((s.data.toList.drop k).take (j - k)) (m - k)
                          rw [List.take_take, Nat.min_eq_left (by omega)] at this
                          have := HV.out
                          omega
                        by_cases hlim : V < 2147483648
                        · have hmj3 : m = j := by omega
                          clear hval2 hgo hmj
                          subst hmj3
                          have hv := HV.out
                          have hdl : decide ((2147483648 : Int) ≤ V) = false := decide_eq_false (by omega)
                          have hdb : decide ((2147483648 : Int) ≤ V) = false := decide_eq_false (by omega)
                          have fin : r = .ok (⟨3, [], V, 0⟩, m - k) := by
                            rw [← HRES.out, numTok]
                            simp only [HRUN.out, HAT.out, HAT1.out]
                            rw [if_neg H72.out, if_neg H88.out, if_neg (fun h => h.elim HDG.out HC.out), if_pos (by omega), hv]
                          have FIN := Lib.hid fin
                          clear fin hv hlim
                          go_wp2_with fail
                          refine bodyPost_ret (v := .tuple #[.agg #[.int .i64 3, .string ⟨#[]⟩, .int .i64 V, .int .i64 k], .int .i64 (m), .int .i64 0]) (by simp [results, Tryd.results50, go_sem]) rfl ⟨((Below.refl _ _).alloc (Nat.le_refl _) _).alloc (by simp) _, ?_⟩
                          rw [FIN.out]
                          refine congrArg Ending.returned ?_
                          have : k + (m - k) = m := by omega
                          simp only [this]
                        · have hdl : decide ((2147483648 : Int) ≤ V) = true := decide_eq_true (by omega)
                          have hdn : decide (V < (2147483648 : Int)) = false := decide_eq_false (by omega)
                          have hv := hval2 hlim
                          have fin : r = .error 91 := by
                            rw [← HRES.out, numTok]
                            simp only [HRUN.out, HAT.out, HAT1.out]
                            rw [if_neg H72.out, if_neg H88.out, if_neg (fun h => h.elim HDG.out HC.out), if_neg hv]
                          have FIN := Lib.hid fin
                          clear fin hv hval2 hgo hlim
                          go_wp2_with fail
                          all_goals refine bodyPost_ret (v := .tuple #[.agg #[.int .i64 3, .string ⟨#[]⟩, .int .i64 0, .int .i64 k], .int .i64 0, .int .i64 91]) (by simp [results, Tryd.results50, go_sem]) rfl ⟨((Below.refl _ _).alloc (Nat.le_refl _) _).alloc (by simp) _, ?_⟩
                          all_goals (rw [FIN.out]; exact ⟨_, _, _, _, _, rfl⟩)
                  · have h47b : (((s[j + 1].toNat : Nat) : Int) != 46) = true := by rw [bne_iff_ne]; exact h47
                    have hc47 : s.data.toList[j + 1]? ≠ some 46 := by
                      rw [HG1.out]
                      intro h
                      simp only [Option.some.injEq] at h
                      exact h47 (by rw [h]; rfl)
                    have fin : r = .error 90 := by
                      rw [← HRES.out, numTok]
                      simp only [HRUN.out, HAT.out, HAT1.out]
                      rw [if_neg H72.out, if_neg H88.out, if_pos (.inr ⟨H46.out, hc47⟩)]
                    have FIN := Lib.hid fin
                    clear h47 fin hc47
                    go_wp2_with fail
                    refine (r_hexa s[j] _).mono ?_
                    rintro e w1 ⟨rfl, rfl⟩
                    rw [HNX.out]
                    go_wp2_with fail
                    refine bodyPost_ret (v := .tuple #[.agg #[.int .i64 3, .string ⟨#[]⟩, .int .i64 0, .int .i64 k], .int .i64 0, .int .i64 90]) (by simp [results, Tryd.results50, go_sem]) rfl ⟨((Below.refl _ _).alloc (Nat.le_refl _) _).alloc (by simp) _, ?_⟩
                    rw [FIN.out]
                    exact ⟨_, _, _, _, _, rfl⟩
                · have hle : (((j : Int) + 1) == (s.size : Int)) = true := by rw [beq_iff_eq]; omega
                  have hc47 : s.data.toList[j + 1]? ≠ some 46 := by
                    rw [List.getElem?_eq_none (by rw [len_list]; omega)]
                    simp
                  have fin : r = .error 90 := by
                    rw [← HRES.out, numTok]
                    simp only [HRUN.out, HAT.out, HAT1.out]
                    rw [if_neg H72.out, if_neg H88.out, if_pos (.inr ⟨H46.out, hc47⟩)]
                  have FIN := Lib.hid fin
                  clear fin hc47
                  go_wp2_with fail
                  refine (r_hexa s[j] _).mono ?_
                  rintro e w1 ⟨rfl, rfl⟩
                  rw [HNX.out]
                  go_wp2_with fail
                  refine bodyPost_ret (v := .tuple #[.agg #[.int .i64 3, .string ⟨#[]⟩, .int .i64 0, .int .i64 k], .int .i64 0, .int .i64 90]) (by simp [results, Tryd.results50, go_sem]) rfl ⟨((Below.refl _ _).alloc (Nat.le_refl _) _).alloc (by simp) _, ?_⟩
                  rw [FIN.out]
                  exact ⟨_, _, _, _, _, rfl⟩
              · have h46b : (((s[j].toNat : Nat) : Int) == 46) = false := by rw [beq_eq_false_iff_ne]; exact h46
                have HC : Hid (¬ (s.data.toList[j]? = some 46 ∧ s.data.toList[j + 1]? ≠ some 46)) := fun h => by
                  have h1 := h.1
                  rw [HG.out] at h1
                  simp only [Option.some.injEq] at h1
                  exact h46 (by rw [h1]; rfl)
                clear h46
                go_wp2_with fail
                refine (r_hexa s[j] _).mono ?_
                rintro e w1 ⟨rfl, rfl⟩
                rw [HNX.out]
                go_wp2_with fail
                go_loop [13, 14] (fun v i => ∃ (m : Nat) (V : Int), k ≤ m ∧ m ≤ j ∧ i = .int .i64 m ∧ v = .int .i64 V ∧ 0 ≤ V ∧ V < 21474836490 ∧ Hid (V = (numVal 10 ((s.data.toList.drop k).take (m - k)) : Nat))) (fun _ i => j - (intOf i).toNat)
                case atStart => exact ⟨k, 0, Nat.le_refl _, hkj, rfl, rfl, by omega, by omega, by simp [Hid, numVal]⟩
                case round =>
                  obtain ⟨m, V, hkm, hmj, rfl, rfl, hV0, hV, HV⟩ := hrel
                  by_cases hgo : m < j ∧ V < 2147483648
                  · obtain ⟨hg1, hg2⟩ := hgo
                    have hms : m < s.size := by omega
                    have hmi : (m : Int) < j := by omega
                    have hmsi : (m : Int) < s.size := by omega
                    have hcm : ((s[m].toNat : Nat) : Int) < 256 := by have := UInt8.toNat_lt s[m]; omega
                    have hmem : s[m] ∈ (s.data.toList.drop k).take (j - k) := List.mem_of_getElem? (i := m - k) (by rw [List.getElem?_take_of_lt (by omega), at_drop s k m hkm, at_list s m hms])
                    have hstep : numVal 10 ((s.data.toList.drop k).take (m + 1 - k)) = numVal 10 ((s.data.toList.drop k).take (m - k)) * 10 + hexDig s[m] := by rw [take_drop_snoc s k m hkm hms, numVal_snoc]
                    have hv0 := HV.out
                    rcases hex_num (HH.out _ hmem) with ⟨hl, h1, h2, h3⟩ | ⟨hl, h1, h2, h3⟩
                    · rw [h3] at hstep
                      have HS : Hid (V * 10 + ((s[m].toNat : Int) - 65 + 10) = ((numVal 10 ((s.data.toList.drop k).take (m + 1 - k)) : Nat) : Int)) := by show _ = _; rw [hstep]; omega
                      have hb0 : 0 ≤ V * 10 + ((s[m].toNat : Int) - 65 + 10) := by omega
                      have hb1 : V * 10 + ((s[m].toNat : Int) - 65 + 10) < 21474836490 := by omega
                      have HL := Lib.hid hl
                      have i1 : 48 ≤ ((s[m].toNat : Nat) : Int) := by omega
                      have i2 : 65 ≤ ((s[m].toNat : Nat) : Int) := by omega
                      have i3 : ((s[m].toNat : Nat) : Int) ≤ 70 := by omega
                      clear hmem hstep h1 h2 h3 hl hv0
                      go_wp2_with fail
                      refine (r_letter s[m] _).mono ?_
                      rintro e w1 ⟨rfl, rfl⟩
                      rw [HL.out]
                      go_wp2_with fail
                      go_round
                      case rel => exact ⟨m + 1, V * 10 + ((s[m].toNat : Int) - 65 + 10), by omega, by omega, by go_num, rfl, hb0, hb1, HS⟩
                      case measure => simp [intOf]; omega
                    · rw [h3] at hstep
                      have HS : Hid (V * 10 + ((s[m].toNat : Int) - 48) = ((numVal 10 ((s.data.toList.drop k).take (m + 1 - k)) : Nat) : Int)) := by show _ = _; rw [hstep]; omega
                      have hb0 : 0 ≤ V * 10 + ((s[m].toNat : Int) - 48) := by omega
                      have hb1 : V * 10 + ((s[m].toNat : Int) - 48) < 21474836490 := by omega
                      have HL := Lib.hid hl
                      have i1 : 48 ≤ ((s[m].toNat : Nat) : Int) := by omega
                      have i3 : ((s[m].toNat : Nat) : Int) ≤ 57 := by omega
                      clear hmem hstep h1 h2 h3 hl hv0
                      go_wp2_with fail
                      refine (r_letter s[m] _).mono ?_
                      rintro e w1 ⟨rfl, rfl⟩
                      rw [HL.out]
                      go_wp2_with fail
                      go_round
                      case rel => exact ⟨m + 1, V * 10 + ((s[m].toNat : Int) - 48), by omega, by omega, by go_num, rfl, hb0, hb1, HS⟩
                      case measure => simp [intOf]; omega
                  · -- the value is known
                    have hval2 : ¬ V < 2147483648 → ¬ numVal 10 ((s.data.toList.drop k).take (j - k)) < 2147483648 := fun h => by
                      have := numVal_take 10 (by omega) ((s.data.toList.drop k).take (j - k)) (m - k)
                      rw [List.take_take, Nat.min_eq_left (by omega)] at this
                      have := HV.out
                      omega
                    by_cases hlim : V < 2147483648
                    · have hmj3 : m = j := by omega
                      clear hval2 hgo hmj
                      subst hmj3
                      have hv := HV.out
                      have hdl : decide ((2147483648 : Int) ≤ V) = false := decide_eq_false (by omega)
                      have hdb : decide ((2147483648 : Int) ≤ V) = false := decide_eq_false (by omega)
                      have fin : r = .ok (⟨3, [], V, 0⟩, m - k) := by
                        rw [← HRES.out, numTok]
                        simp only [HRUN.out, HAT.out, HAT1.out]
                        rw [if_neg H72.out, if_neg H88.out, if_neg (fun h => h.elim HDG.out HC.out), if_pos (by omega), hv]
                      have FIN := Lib.hid fin
                      clear fin hv hlim
                      go_wp2_with fail
                      refine bodyPost_ret (v := .tuple #[.agg #[.int .i64 3, .string ⟨#[]⟩, .int .i64 V, .int .i64 k], .int .i64 (m), .int .i64 0]) (by simp [results, Tryd.results50, go_sem]) rfl ⟨((Below.refl _ _).alloc (Nat.le_refl _) _).alloc (by simp) _, ?_⟩
                      rw [FIN.out]
                      refine congrArg Ending.returned ?_
                      have : k + (m - k) = m := by omega
                      simp only [this]
                    · have hdl : decide ((2147483648 : Int) ≤ V) = true := decide_eq_true (by omega)
                      have hdn : decide (V < (2147483648 : Int)) = false := decide_eq_false (by omega)
                      have hv := hval2 hlim
                      have fin : r = .error 91 := by
                        rw [← HRES.out, numTok]
                        simp only [HRUN.out, HAT.out, HAT1.out]
                        rw [if_neg H72.out, if_neg H88.out, if_neg (fun h => h.elim HDG.out HC.out), if_neg hv]
                      have FIN := Lib.hid fin
                      clear fin hv hval2 hgo hlim
                      go_wp2_with fail
                      all_goals refine bodyPost_ret (v := .tuple #[.agg #[.int .i64 3, .string ⟨#[]⟩, .int .i64 0, .int .i64 k], .int .i64 0, .int .i64 91]) (by simp [results, Tryd.results50, go_sem]) rfl ⟨((Below.refl _ _).alloc (Nat.le_refl _) _).alloc (by simp) _, ?_⟩
                      all_goals (rw [FIN.out]; exact ⟨_, _, _, _, _, rfl⟩)
      · -- the text ends here
        have hlt2 : ¬ (j : Int) < s.size := by omega
        have HN : Hid (s.data.toList[j]? = none) := List.getElem?_eq_none (by rw [len_list]; omega)
        have H72 : Hid (¬ s.data.toList[j]? = some 72) := by show ¬ _; rw [HN.out]; simp
        have H88 : Hid (¬ s.data.toList[j]? = some 88) := by show ¬ _; rw [HN.out]; simp
        cases dec with
        | false =>
          have hnd := run_nodigit (fun h => by have := HDEC.out.2 h; cases this)
          rw [HLEN.out] at hnd
          have fin : r = .error 90 := by
            rw [← HRES.out, numTok]
            simp only [HRUN.out, HAT.out, HAT1.out]
            rw [if_neg H72.out, if_neg H88.out, if_pos (.inl hnd)]
          have FIN := Lib.hid fin
          clear hnd fin
          go_wp2_with fail
          refine bodyPost_ret (v := .tuple #[.agg #[.int .i64 3, .string ⟨#[]⟩, .int .i64 0, .int .i64 k], .int .i64 0, .int .i64 90]) (by simp [results, Tryd.results50, go_sem]) rfl ⟨((Below.refl _ _).alloc (Nat.le_refl _) _).alloc (by simp) _, ?_⟩
          rw [FIN.out]
          exact ⟨_, _, _, _, _, rfl⟩
        | true =>
          have hdg := run_digits (HDEC.out.1 rfl)
          rw [HLEN.out] at hdg
          have HDG := Lib.hid hdg
          have HC : Hid (¬ (s.data.toList[j]? = some 46 ∧ s.data.toList[j + 1]? ≠ some 46)) := fun h => by rw [HN.out] at h; exact absurd h.1 (by simp)
          clear hdg
          go_wp2_with fail
          go_loop [13, 14] (fun v i => ∃ (m : Nat) (V : Int), k ≤ m ∧ m ≤ j ∧ i = .int .i64 m ∧ v = .int .i64 V ∧ 0 ≤ V ∧ V < 21474836490 ∧ Hid (V = (numVal 10 ((s.data.toList.drop k).take (m - k)) : Nat))) (fun _ i => j - (intOf i).toNat)
          case atStart => exact ⟨k, 0, Nat.le_refl _, hkj, rfl, rfl, by omega, by omega, by simp [Hid, numVal]⟩
          case round =>
            obtain ⟨m, V, hkm, hmj, rfl, rfl, hV0, hV, HV⟩ := hrel
            by_cases hgo : m < j ∧ V < 2147483648
            · obtain ⟨hg1, hg2⟩ := hgo
              have hms : m < s.size := by omega
              have hmi : (m : Int) < j := by omega
              have hmsi : (m : Int) < s.size := by omega
              have hcm : ((s[m].toNat : Nat) : Int) < 256 := by have := UInt8.toNat_lt s[m]; omega
              have hmem : s[m] ∈ (s.data.toList.drop k).take (j - k) := List.mem_of_getElem? (i := m - k) (by rw [List.getElem?_take_of_lt (by omega), at_drop s k m hkm, at_list s m hms])
              have hstep : numVal 10 ((s.data.toList.drop k).take (m + 1 - k)) = numVal 10 ((s.data.toList.drop k).take (m - k)) * 10 + hexDig s[m] := by rw [take_drop_snoc s k m hkm hms, numVal_snoc]
              have hv0 := HV.out
              rcases hex_num (HH.out _ hmem) with ⟨hl, h1, h2, h3⟩ | ⟨hl, h1, h2, h3⟩
              · rw [h3] at hstep
                have HS : Hid (V * 10 + ((s[m].toNat : Int) - 65 + 10) = ((numVal 10 ((s.data.toList.drop k).take (m + 1 - k)) : Nat) : Int)) := by show _ = _; rw [hstep]; omega
                have hb0 : 0 ≤ V * 10 + ((s[m].toNat : Int) - 65 + 10) := by omega
                have hb1 : V * 10 + ((s[m].toNat : Int) - 65 + 10) < 21474836490 := by omega
                have HL := Lib.hid hl
                have i1 : 48 ≤ ((s[m].toNat : Nat) : Int) := by omega
                have i2 : 65 ≤ ((s[m].toNat : Nat) : Int) := by omega
                have i3 : ((s[m].toNat : Nat) : Int) ≤ 70 := by omega
                clear hmem hstep h1 h2 h3 hl hv0
                go_wp2_with fail
                refine (r_letter s[m] _).mono ?_
                rintro e w1 ⟨rfl, rfl⟩
                rw [HL.out]
                go_wp2_with fail
                go_round
                case rel => exact ⟨m + 1, V * 10 + ((s[m].toNat : Int) - 65 + 10), by omega, by omega, by go_num, rfl, hb0, hb1, HS⟩
                case measure => simp [intOf]; omega
              · rw [h3] at hstep
                have HS : Hid (V * 10 + ((s[m].toNat : Int) - 48) = ((numVal 10 ((s.data.toList.drop k).take (m + 1 - k)) : Nat) : Int)) := by show _ = _; rw [hstep]; omega
                have hb0 : 0 ≤ V * 10 + ((s[m].toNat : Int) - 48) := by omega
                have hb1 : V * 10 + ((s[m].toNat : Int) - 48) < 21474836490 := by omega
                have HL := Lib.hid hl
                have i1 : 48 ≤ ((s[m].toNat : Nat) : Int) := by omega
                have i3 : ((s[m].toNat : Nat) : Int) ≤ 57 := by omega
                clear hmem hstep h1 h2 h3 hl hv0
                go_wp2_with fail
                refine (r_letter s[m] _).mono ?_
                rintro e w1 ⟨rfl, rfl⟩
                rw [HL.out]
                go_wp2_with fail
                go_round
                case rel => exact ⟨m + 1, V * 10 + ((s[m].toNat : Int) - 48), by omega, by omega, by go_num, rfl, hb0, hb1, HS⟩
                case measure => simp [intOf]; omega
            · -- the value is known
              have hval2 : ¬ V < 2147483648 → ¬ numVal 10 ((s.data.toList.drop k).take (j - k)) < 2147483648 := fun h => by
                have := numVal_take 10 (by omega) ((s.data.toList.drop k).take (j - k)) (m - k)
                rw [List.take_take, Nat.min_eq_left (by omega)] at this
                have := HV.out
                omega
              by_cases hlim : V < 2147483648
              · have hmj3 : m = j := by omega
                clear hval2 hgo hmj
                subst hmj3
                have hv := HV.out
                have hdl : decide ((2147483648 : Int) ≤ V) = false := decide_eq_false (by omega)
                have hdb : decide ((2147483648 : Int) ≤ V) = false := decide_eq_false (by omega)
                have fin : r = .ok (⟨3, [], V, 0⟩, m - k) := by
                  rw [← HRES.out, numTok]
                  simp only [HRUN.out, HAT.out, HAT1.out]
                  rw [if_neg H72.out, if_neg H88.out, if_neg (fun h => h.elim HDG.out HC.out), if_pos (by omega), hv]
                have FIN := Lib.hid fin
                clear fin hv hlim
                go_wp2_with fail
                refine bodyPost_ret (v := .tuple #[.agg #[.int .i64 3, .string ⟨#[]⟩, .int .i64 V, .int .i64 k], .int .i64 (m), .int .i64 0]) (by simp [results, Tryd.results50, go_sem]) rfl ⟨((Below.refl _ _).alloc (Nat.le_refl _) _).alloc (by simp) _, ?_⟩
                rw [FIN.out]
                refine congrArg Ending.returned ?_
                have : k + (m - k) = m := by omega
                simp only [this]
              · have hdl : decide ((2147483648 : Int) ≤ V) = true := decide_eq_true (by omega)
                have hdn : decide (V < (2147483648 : Int)) = false := decide_eq_false (by omega)
                have hv := hval2 hlim
                have fin : r = .error 91 := by
                  rw [← HRES.out, numTok]
                  simp only [HRUN.out, HAT.out, HAT1.out]
                  rw [if_neg H72.out, if_neg H88.out, if_neg (fun h => h.elim HDG.out HC.out), if_neg hv]
                have FIN := Lib.hid fin
                clear fin hv hval2 hgo hlim
                go_wp2_with fail
                all_goals refine bodyPost_ret (v := .tuple #[.agg #[.int .i64 3, .string ⟨#[]⟩, .int .i64 0, .int .i64 k], .int .i64 0, .int .i64 91]) (by simp [results, Tryd.results50, go_sem]) rfl ⟨((Below.refl _ _).alloc (Nat.le_refl _) _).alloc (by simp) _, ?_⟩
                all_goals (rw [FIN.out]; exact ⟨_, _, _, _, _, rfl⟩)
end Go.Proofs.YtkieeaajhomdoaaDoor
