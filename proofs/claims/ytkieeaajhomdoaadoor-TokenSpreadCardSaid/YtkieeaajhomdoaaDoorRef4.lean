import Derived.Test.YtkieeaajhomdoaaDoorRef3
set_option linter.unusedVariables false
set_option linter.unusedSimpArgs false
namespace Go.Proofs.YtkieeaajhomdoaaDoor
open Go.RowKit Go.Maps Go.MapKept
theorem find_len (n : Nat) : ∀ (L : List (List UInt8)) (h : ∀ w ∈ L, w.length = n) (l : List UInt8), L.find? (fun w => w.isPrefixOf l) = if l.take n ∈ L then some (l.take n) else none
  | [], _, l => by simp
  | x :: L, h, l => by
    have hx := h x (by simp)
    by_cases e : x.isPrefixOf l = true
    · have : l.take n = x := by
        have := List.isPrefixOf_iff_prefix.1 e
        rw [List.prefix_iff_eq_take] at this
        rw [← hx, ← this]
      rw [List.find?_cons_of_pos (p := fun w : List UInt8 => w.isPrefixOf l) e, this, if_pos (by simp)]
    · have hne : l.take n ≠ x := fun h2 => e (by
        rw [List.isPrefixOf_iff_prefix, ← h2]; exact List.take_prefix _ _)
      rw [List.find?_cons_of_neg (p := fun w : List UInt8 => w.isPrefixOf l) e, find_len n L (fun w hw => h w (by simp [hw])) l]
      simp [hne]
def two4 : List (List UInt8) := signList.take 4
def one22 : List (List UInt8) := signList.drop 4
theorem two4_len : ∀ w ∈ two4, w.length = 2 := by decide
theorem one22_len : ∀ w ∈ one22, w.length = 1 := by decide
theorem sign_split : signList = two4 ++ one22 := by decide
theorem sign_mem2 {x : List UInt8} (h : x.length = 2) : x ∈ signList ↔ x ∈ two4 := by
  rw [sign_split, List.mem_append]
  exact ⟨fun h2 => h2.resolve_right (fun h3 => by have := one22_len x h3; omega), .inl⟩
theorem sign_mem1 {x : List UInt8} (h : x.length = 1) : x ∈ signList ↔ x ∈ one22 := by
  rw [sign_split, List.mem_append]
  exact ⟨fun h2 => h2.resolve_left (fun h3 => by have := two4_len x h3; omega), .inr⟩
theorem signTok_eq (l : List UInt8) : signTok l = if l.take 2 ∈ two4 then .ok (⟨6, l.take 2, 0, 0⟩, 2) else if l.take 1 ∈ one22 then .ok (⟨6, l.take 1, 0, 0⟩, 1) else .error 90 := by
  unfold signTok
  rw [sign_split, List.find?_append, find_len 2 two4 two4_len, find_len 1 one22 one22_len]
  by_cases h2 : l.take 2 ∈ two4
  · rw [if_pos h2, if_pos h2]
    simp only [Option.some_or]
    rw [two4_len _ h2]
  · rw [if_neg h2, if_neg h2]
    by_cases h1 : l.take 1 ∈ one22
    · rw [if_pos h1, if_pos h1]
      simp only [Option.none_or]
      rw [one22_len _ h1]
    · rw [if_neg h1, if_neg h1]
      rfl
theorem drop_at (s : ByteArray) (k : Nat) (h : k < s.size) : s.data.toList.drop k = s[k] :: s.data.toList.drop (k + 1) := drop_cons s k h
theorem cut_list (s : ByteArray) (k n : Nat) : (s.extract k (k + n)).data.toList = (s.data.toList.drop k).take n := by
  rw [extract_list, Nat.add_sub_cancel_left]
set_option maxRecDepth 100000 in
set_option maxHeartbeats 16000000 in
theorem r_one (s : ByteArray) (k : Nat) (w : World) (hs : s.size ≤ 140737488351232) (hk : k < s.size) (r : Except Int (Tok × Nat)) (hres : tok (s.data.toList.drop k) = r) :
    Calls Tryd.prog 25 #[.string s, .int .i64 k] w (AtOne r k w) := by
  have HRES := Lib.hid hres
  have HD := Lib.hid (drop_cons s k hk)
  clear hres
  have hki : (k : Int) < s.size := by omega
  have hcb : ((s[k].toNat : Nat) : Int) < 256 := by have := UInt8.toNat_lt s[k]; omega
  cases hlet : isLetter s[k] with
  | true =>
    have HL := Lib.hid hlet
    clear hlet
    go_enter Tryd.func25, Tryd.ntmps25
    go_wp2_with fail
    refine (r_letter s[k] _).mono ?_
    rintro e w1 ⟨rfl, rfl⟩
    rw [HL.out]
    go_wp2_with fail
    go_loop [8] (fun i => ∃ j : Nat, k ≤ j ∧ j ≤ s.size ∧ i = .int .i64 j ∧ Hid (∀ c ∈ (s.data.toList.drop k).take (j - k), isInside c = true)) (fun i => s.size - (intOf i).toNat)
    case atStart => exact ⟨k, Nat.le_refl _, by omega, rfl, by simp [Hid]⟩
    case round =>
      obtain ⟨j, hkj, hj, rfl, HI⟩ := hrel
      by_cases hlt : j < s.size
      · have hji : (j : Int) < s.size := by omega
        have hjb : ((s[j].toNat : Nat) : Int) < 256 := by have := UInt8.toNat_lt s[j]; omega
        cases h1 : isLetter s[j] with
        | true =>
          have H1 := Lib.hid h1
          have HN : Hid (∀ c ∈ (s.data.toList.drop k).take (j + 1 - k), isInside c = true) := by
            intro c hc
            rw [take_drop_snoc s k j hkj hlt, List.mem_append] at hc
            rcases hc with hc | hc
            · exact HI.out c hc
            · simp only [List.mem_singleton] at hc; rw [hc, isInside, h1]; rfl
          clear h1
          go_wp2_with fail
          refine (r_letter s[j] _).mono ?_
          rintro e w1 ⟨rfl, rfl⟩
          rw [H1.out]
          go_wp2_with fail
          go_round
          case rel => exact ⟨j + 1, by omega, by omega, by go_num, HN⟩
          case measure => simp [intOf]; omega
        | false =>
          have H1 := Lib.hid h1
          cases h2 : isDigit s[j] with
          | true =>
            have H2 := Lib.hid h2
            have HN : Hid (∀ c ∈ (s.data.toList.drop k).take (j + 1 - k), isInside c = true) := by
              intro c hc
              rw [take_drop_snoc s k j hkj hlt, List.mem_append] at hc
              rcases hc with hc | hc
              · exact HI.out c hc
              · simp only [List.mem_singleton] at hc; rw [hc, isInside, h1, h2]; rfl
            clear h1 h2
            go_wp2_with fail
            refine (r_letter s[j] _).mono ?_
            rintro e w1 ⟨rfl, rfl⟩
            rw [H1.out]
            go_wp2_with fail
            refine (r_digit s[j] _).mono ?_
            rintro e w1 ⟨rfl, rfl⟩
            rw [H2.out]
            go_wp2_with fail
            go_round
            case rel => exact ⟨j + 1, by omega, by omega, by go_num, HN⟩
            case measure => simp [intOf]; omega
          | false =>
            have H2 := Lib.hid h2
            have hrun : run isInside (s.data.toList.drop k) = j - k := run_upto s k j hkj hj HI.out (fun _ => by rw [isInside, h1, h2]; rfl)
            have HR := Lib.hid hrun
            clear h1 h2 hrun
            go_wp2_with fail
            refine (r_letter s[j] _).mono ?_
            rintro e w1 ⟨rfl, rfl⟩
            rw [H1.out]
            go_wp2_with fail
            refine (r_digit s[j] _).mono ?_
            rintro e w1 ⟨rfl, rfl⟩
            rw [H2.out]
            go_wp2_with fail
            refine (r_Key (s.extract k j) _).mono ?_
            rintro e w2 ⟨rfl, B2⟩
            have hx : (s.extract k j).data.toList = (s.data.toList.drop k).take (j - k) := extract_list _ _ _
            have hxm : (⟨((s.data.toList.drop k).take (j - k)).toArray⟩ : ByteArray) = s.extract k j := by rw [extract_mk]
            have hpos : 1 ≤ j - k := by rw [← HR.out, HD.out, run_cons_pos (by rw [isInside, HL.out]; rfl)]; omega
            have hr : r = (wordTok (s.extract k j).data.toList).map fun t => (t, j - k) := by
              rw [← HRES.out, HD.out, tok]
              simp only [HL.out, if_true]
              rw [← HD.out, HR.out, hx]
            have k0 : w2.heap[w.heap.size]? = some (.cells tok0 34 (0, 0)) := below_block B2 (by simp; omega) (alloc_old (alloc_block _ _))
            have k1 : w2.heap[w.heap.size + 1]? = some (.cells #[.int .i64 1, .string (s.extract k j), .int .i64 0, .int .i64 k] 34 (0, 0)) := below_block B2 (by simp) (by
              have := alloc_block (w.alloc (.cells tok0 34)) (.cells #[.int .i64 1, .string (s.extract k j), .int .i64 0, .int .i64 k] 34)
              have e : (w.alloc (.cells tok0 34)).heap.size = w.heap.size + 1 := by simp
              rw [e] at this
              exact this)
            have q0 : w2.cell? ⟨w.heap.size, 0, none⟩ = some (.int .i64 0) := by rw [cell_of_block k0]; rfl
            have q1 : w2.cell? ⟨w.heap.size, 1, none⟩ = some (.string ⟨#[]⟩) := by rw [cell_of_block k0]; rfl
            have q2 : w2.cell? ⟨w.heap.size, 2, none⟩ = some (.int .i64 0) := by rw [cell_of_block k0]; rfl
            have q3 : w2.cell? ⟨w.heap.size, 3, none⟩ = some (.int .i64 0) := by rw [cell_of_block k0]; rfl
            have qf : ∀ j, w2.frozen? ⟨w.heap.size, j, none⟩ = false := frozen_of_block k0
            have p0 : w2.cell? ⟨w.heap.size + 1, 0, none⟩ = some (.int .i64 1) := by rw [cell_of_block k1]; rfl
            have p1 : w2.cell? ⟨w.heap.size + 1, 1, none⟩ = some (.string (s.extract k j)) := by rw [cell_of_block k1]; rfl
            have p2 : w2.cell? ⟨w.heap.size + 1, 2, none⟩ = some (.int .i64 0) := by rw [cell_of_block k1]; rfl
            have p3 : w2.cell? ⟨w.heap.size + 1, 3, none⟩ = some (.int .i64 k) := by rw [cell_of_block k1]; rfl
            have pf : ∀ j, w2.frozen? ⟨w.heap.size + 1, j, none⟩ = false := frozen_of_block k1
            have hz2 : w.heap.size + 1 < w2.heap.size := by have := B2.size; simp at this; omega
            have hbel2 : Below w.heap.size w w2 := (((Below.refl _ _).alloc (Nat.le_refl _) _).alloc (by simp) _).trans (B2.mono (by simp; omega))
            have hlen : (s.extract k j).data.toList.length = j - k := by rw [len_list, ByteArray.size_extract]; omega
            clear k0 k1 B2 hx
            have HXM := Lib.hid hxm
            clear hxm
            by_cases hkey : (s.extract k j).data.toList ∈ keyList
            · have hr2 : r = .ok (⟨2, (s.extract k j).data.toList, 0, 0⟩, j - k) := by rw [hr, wordTok, if_pos hkey]; rfl
              have HRR := Lib.hid hr2
              rw [decide_eq_true hkey]
              clear hr hr2 hkey hlen
              go_wp2_with fail
              refine bodyPost_ret (v := .tuple #[.agg #[.int .i64 2, .string (s.extract k j), .int .i64 0, .int .i64 k], .int .i64 j, .int .i64 0]) (by simp [results, Tryd.results25, go_sem, q0, q1, q2, q3, hz2, Nat.ne_of_lt hz2]) rfl ⟨(((((hbel2.setCell (by exact Nat.le_succ _) _).setCell (Nat.le_refl _) _).setCell (Nat.le_refl _) _).setCell (Nat.le_refl _) _).setCell (Nat.le_refl _) _), ?_⟩
              rw [HRR.out]
              have : k + (j - k) = j := by omega
              simp only [this]
            · rw [decide_eq_false hkey]
              by_cases h24 : (24 : Int) < (j : Int) - k
              · have hr2 : r = .error 2 := by rw [hr, wordTok, if_neg hkey, if_pos (by omega)]; rfl
                have HRR := Lib.hid hr2
                clear hr hr2 hkey hlen
                go_wp2_with fail
                refine bodyPost_ret (v := .tuple #[.agg #[.int .i64 1, .string (s.extract k j), .int .i64 0, .int .i64 k], .int .i64 0, .int .i64 2]) (by simp [results, Tryd.results25, go_sem, q0, q1, q2, q3, hz2, Nat.ne_of_lt hz2]) rfl ⟨((((hbel2.setCell (Nat.le_refl _) _).setCell (Nat.le_refl _) _).setCell (Nat.le_refl _) _).setCell (Nat.le_refl _) _), ?_⟩
                rw [HRR.out]
                exact ⟨_, _, _, _, _, rfl⟩
              · have hr2 : r = .ok (⟨1, (s.extract k j).data.toList, 0, 0⟩, j - k) := by rw [hr, wordTok, if_neg hkey, if_neg (by omega)]; rfl
                have HRR := Lib.hid hr2
                clear hr hr2 hkey hlen
                go_wp2_with fail
                refine bodyPost_ret (v := .tuple #[.agg #[.int .i64 1, .string (s.extract k j), .int .i64 0, .int .i64 k], .int .i64 j, .int .i64 0]) (by simp [results, Tryd.results25, go_sem, q0, q1, q2, q3, hz2, Nat.ne_of_lt hz2]) rfl ⟨((((hbel2.setCell (Nat.le_refl _) _).setCell (Nat.le_refl _) _).setCell (Nat.le_refl _) _).setCell (Nat.le_refl _) _), ?_⟩
                rw [HRR.out]
                have : k + (j - k) = j := by omega
                simp only [this]
      · have hji : ¬ (j : Int) < s.size := by omega
        have hrun : run isInside (s.data.toList.drop k) = j - k := run_upto s k j hkj hj HI.out (fun h => absurd h hlt)
        have HR := Lib.hid hrun
        clear hrun
        go_wp2_with fail
        refine (r_Key (s.extract k j) _).mono ?_
        rintro e w2 ⟨rfl, B2⟩
        have hx : (s.extract k j).data.toList = (s.data.toList.drop k).take (j - k) := extract_list _ _ _
        have hxm : (⟨((s.data.toList.drop k).take (j - k)).toArray⟩ : ByteArray) = s.extract k j := by rw [extract_mk]
        have hpos : 1 ≤ j - k := by rw [← HR.out, HD.out, run_cons_pos (by rw [isInside, HL.out]; rfl)]; omega
        have hr : r = (wordTok (s.extract k j).data.toList).map fun t => (t, j - k) := by
          rw [← HRES.out, HD.out, tok]
          simp only [HL.out, if_true]
          rw [← HD.out, HR.out, hx]
        have k0 : w2.heap[w.heap.size]? = some (.cells tok0 34 (0, 0)) := below_block B2 (by simp; omega) (alloc_old (alloc_block _ _))
        have k1 : w2.heap[w.heap.size + 1]? = some (.cells #[.int .i64 1, .string (s.extract k j), .int .i64 0, .int .i64 k] 34 (0, 0)) := below_block B2 (by simp) (by
          have := alloc_block (w.alloc (.cells tok0 34)) (.cells #[.int .i64 1, .string (s.extract k j), .int .i64 0, .int .i64 k] 34)
          have e : (w.alloc (.cells tok0 34)).heap.size = w.heap.size + 1 := by simp
          rw [e] at this
          exact this)
        have q0 : w2.cell? ⟨w.heap.size, 0, none⟩ = some (.int .i64 0) := by rw [cell_of_block k0]; rfl
        have q1 : w2.cell? ⟨w.heap.size, 1, none⟩ = some (.string ⟨#[]⟩) := by rw [cell_of_block k0]; rfl
        have q2 : w2.cell? ⟨w.heap.size, 2, none⟩ = some (.int .i64 0) := by rw [cell_of_block k0]; rfl
        have q3 : w2.cell? ⟨w.heap.size, 3, none⟩ = some (.int .i64 0) := by rw [cell_of_block k0]; rfl
        have qf : ∀ j, w2.frozen? ⟨w.heap.size, j, none⟩ = false := frozen_of_block k0
        have p0 : w2.cell? ⟨w.heap.size + 1, 0, none⟩ = some (.int .i64 1) := by rw [cell_of_block k1]; rfl
        have p1 : w2.cell? ⟨w.heap.size + 1, 1, none⟩ = some (.string (s.extract k j)) := by rw [cell_of_block k1]; rfl
        have p2 : w2.cell? ⟨w.heap.size + 1, 2, none⟩ = some (.int .i64 0) := by rw [cell_of_block k1]; rfl
        have p3 : w2.cell? ⟨w.heap.size + 1, 3, none⟩ = some (.int .i64 k) := by rw [cell_of_block k1]; rfl
        have pf : ∀ j, w2.frozen? ⟨w.heap.size + 1, j, none⟩ = false := frozen_of_block k1
        have hz2 : w.heap.size + 1 < w2.heap.size := by have := B2.size; simp at this; omega
        have hbel2 : Below w.heap.size w w2 := (((Below.refl _ _).alloc (Nat.le_refl _) _).alloc (by simp) _).trans (B2.mono (by simp; omega))
        have hlen : (s.extract k j).data.toList.length = j - k := by rw [len_list, ByteArray.size_extract]; omega
        clear k0 k1 B2 hx
        have HXM := Lib.hid hxm
        clear hxm
        by_cases hkey : (s.extract k j).data.toList ∈ keyList
        · have hr2 : r = .ok (⟨2, (s.extract k j).data.toList, 0, 0⟩, j - k) := by rw [hr, wordTok, if_pos hkey]; rfl
          have HRR := Lib.hid hr2
          rw [decide_eq_true hkey]
          clear hr hr2 hkey hlen
          go_wp2_with fail
          refine bodyPost_ret (v := .tuple #[.agg #[.int .i64 2, .string (s.extract k j), .int .i64 0, .int .i64 k], .int .i64 j, .int .i64 0]) (by simp [results, Tryd.results25, go_sem, q0, q1, q2, q3, hz2, Nat.ne_of_lt hz2]) rfl ⟨(((((hbel2.setCell (by exact Nat.le_succ _) _).setCell (Nat.le_refl _) _).setCell (Nat.le_refl _) _).setCell (Nat.le_refl _) _).setCell (Nat.le_refl _) _), ?_⟩
          rw [HRR.out]
          have : k + (j - k) = j := by omega
          simp only [this]
        · rw [decide_eq_false hkey]
          by_cases h24 : (24 : Int) < (j : Int) - k
          · have hr2 : r = .error 2 := by rw [hr, wordTok, if_neg hkey, if_pos (by omega)]; rfl
            have HRR := Lib.hid hr2
            clear hr hr2 hkey hlen
            go_wp2_with fail
            refine bodyPost_ret (v := .tuple #[.agg #[.int .i64 1, .string (s.extract k j), .int .i64 0, .int .i64 k], .int .i64 0, .int .i64 2]) (by simp [results, Tryd.results25, go_sem, q0, q1, q2, q3, hz2, Nat.ne_of_lt hz2]) rfl ⟨((((hbel2.setCell (Nat.le_refl _) _).setCell (Nat.le_refl _) _).setCell (Nat.le_refl _) _).setCell (Nat.le_refl _) _), ?_⟩
            rw [HRR.out]
            exact ⟨_, _, _, _, _, rfl⟩
          · have hr2 : r = .ok (⟨1, (s.extract k j).data.toList, 0, 0⟩, j - k) := by rw [hr, wordTok, if_neg hkey, if_neg (by omega)]; rfl
            have HRR := Lib.hid hr2
            clear hr hr2 hkey hlen
            go_wp2_with fail
            refine bodyPost_ret (v := .tuple #[.agg #[.int .i64 1, .string (s.extract k j), .int .i64 0, .int .i64 k], .int .i64 j, .int .i64 0]) (by simp [results, Tryd.results25, go_sem, q0, q1, q2, q3, hz2, Nat.ne_of_lt hz2]) rfl ⟨((((hbel2.setCell (Nat.le_refl _) _).setCell (Nat.le_refl _) _).setCell (Nat.le_refl _) _).setCell (Nat.le_refl _) _), ?_⟩
            rw [HRR.out]
            have : k + (j - k) = j := by omega
            simp only [this]
  | false =>
    have HL := Lib.hid hlet
    clear hlet
    cases hdg : isDigit s[k] with
    | true =>
      have HDG := Lib.hid hdg
      have hr : numTok (s.data.toList.drop k) = r := by
        rw [← HRES.out, HD.out, tok]
        simp only [HL.out, hdg, Bool.false_eq_true, if_false, if_true]
      have HR := Lib.hid hr
      clear hdg hr
      go_enter Tryd.func25, Tryd.ntmps25
      go_wp2_with fail
      refine (r_letter s[k] _).mono ?_
      rintro e w1 ⟨rfl, rfl⟩
      rw [HL.out]
      go_wp2_with fail
      refine (r_digit s[k] _).mono ?_
      rintro e w1 ⟨rfl, rfl⟩
      rw [HDG.out]
      go_wp2_with fail
      refine (r_number s k _ hs hk HDG.out r HR.out).mono ?_
      rintro e w2 ⟨B2, hw⟩
      have k0 : w2.heap[w.heap.size]? = some (.cells tok0 34 (0, 0)) := below_block B2 (by simp) (alloc_block _ _)
      have q0 : w2.cell? ⟨w.heap.size, 0, none⟩ = some (.int .i64 0) := by rw [cell_of_block k0]; rfl
      have q1 : w2.cell? ⟨w.heap.size, 1, none⟩ = some (.string ⟨#[]⟩) := by rw [cell_of_block k0]; rfl
      have q2 : w2.cell? ⟨w.heap.size, 2, none⟩ = some (.int .i64 0) := by rw [cell_of_block k0]; rfl
      have q3 : w2.cell? ⟨w.heap.size, 3, none⟩ = some (.int .i64 0) := by rw [cell_of_block k0]; rfl
      have qf : ∀ j, w2.frozen? ⟨w.heap.size, j, none⟩ = false := frozen_of_block k0
      have hz2 : w.heap.size < w2.heap.size := by have := B2.size; simp at this; omega
      have hbel2 : Below w.heap.size w w2 := ((Below.refl _ _).alloc (Nat.le_refl _) _).trans (B2.mono (by simp))
      clear k0
      cases r with
      | ok tn =>
        obtain ⟨⟨tk, tx, tn, ta⟩, n⟩ := tn
        simp only at hw
        subst hw
        go_wp2_with fail
        refine bodyPost_ret (v := .tuple #[.agg #[.int .i64 tk, .string ⟨tx.toArray⟩, .int .i64 tn, .int .i64 k], .int .i64 (k + n : Nat), .int .i64 0]) (by simp [results, Tryd.results25, go_sem, q0, q1, q2, q3, hz2, Nat.ne_of_lt hz2]) rfl ⟨((((hbel2.setCell (Nat.le_refl _) _).setCell (Nat.le_refl _) _).setCell (Nat.le_refl _) _).setCell (Nat.le_refl _) _), ?_⟩
        rfl
      | error c =>
        obtain ⟨kk, y, mm, aa, n, rfl⟩ := hw
        go_wp2_with fail
        refine bodyPost_ret (v := .tuple #[.agg #[.int .i64 kk, .string y, .int .i64 mm, .int .i64 aa], .int .i64 n, .int .i64 c]) (by simp [results, Tryd.results25, go_sem, q0, q1, q2, q3, hz2, Nat.ne_of_lt hz2]) rfl ⟨((((hbel2.setCell (Nat.le_refl _) _).setCell (Nat.le_refl _) _).setCell (Nat.le_refl _) _).setCell (Nat.le_refl _) _), ?_⟩
        exact ⟨_, _, _, _, _, rfl⟩
    | false =>
      have HDG := Lib.hid hdg
      clear hdg
      by_cases hq : ((s[k].toNat : Nat) : Int) = 34
      · have hr : textTok (s.data.toList.drop (k + 1)) = r := by
          rw [← HRES.out, HD.out, tok]
          simp only [HL.out, HDG.out, Bool.false_eq_true, if_false]
          rw [if_pos (UInt8.toNat_inj.1 (by show _ = 34; omega))]
        have HR := Lib.hid hr
        have hqb : (((s[k].toNat : Nat) : Int) == 34) = true := by rw [beq_iff_eq]; exact hq
        clear hr hq
        go_enter Tryd.func25, Tryd.ntmps25
        go_wp2_with fail
        refine (r_letter s[k] _).mono ?_
        rintro e w1 ⟨rfl, rfl⟩
        rw [HL.out]
        go_wp2_with fail
        refine (r_digit s[k] _).mono ?_
        rintro e w1 ⟨rfl, rfl⟩
        rw [HDG.out]
        go_wp2_with fail
        go_loop [10] (fun i => ∃ j : Nat, k + 1 ≤ j ∧ j ≤ s.size ∧ i = .int .i64 j ∧ Hid (∀ c ∈ (s.data.toList.drop (k + 1)).take (j - (k + 1)), isPlain c = true)) (fun i => s.size - (intOf i).toNat)
        case atStart => exact ⟨k + 1, Nat.le_refl _, by omega, by go_num, by simp [Hid]⟩
        case round =>
          obtain ⟨j, hkj, hj, rfl, HI⟩ := hrel
          by_cases hlt : j < s.size
          · have hji : (j : Int) < s.size := by omega
            have hje : ((j : Int) == (s.size : Int)) = false := by rw [beq_eq_false_iff_ne]; omega
            have hjb : ((s[j].toNat : Nat) : Int) < 256 := by have := UInt8.toNat_lt s[j]; omega
            have hat : (s.data.toList.drop (k + 1))[j - (k + 1)]? = some s[j] := by rw [at_drop s (k + 1) j hkj, at_list s j hlt]
            by_cases hge : (32 : Int) ≤ ((s[j].toNat : Nat) : Int)
            · by_cases hq2 : ((s[j].toNat : Nat) : Int) = 34
              · have hq2b : (((s[j].toNat : Nat) : Int) != 34) = false := by rw [bne_eq_false_iff_eq]; exact hq2
                have hrun : run isPlain (s.data.toList.drop (k + 1)) = j - (k + 1) := run_upto s (k + 1) j hkj hj HI.out (fun _ => by simp only [isPlain, Bool.and_eq_false_iff]; right; rw [bne_eq_false_iff_eq]; omega)
                have h34 : s[j] = 34 := UInt8.toNat_inj.1 (by show _ = 34; omega)
                have HXM : Hid ((⟨((s.data.toList.drop (k + 1)).take (j - (k + 1))).toArray⟩ : ByteArray) = s.extract (k + 1) j) := by show _ = _; rw [extract_mk]
                by_cases h64 : (64 : Int) < (j : Int) - k - 1
                · have fin : r = .error 2 := by
                    rw [← HR.out, textTok]; simp only [hrun, hat, h34, if_true]; rw [if_pos (by omega)]
                  have FIN := Lib.hid fin
                  clear fin hrun hat h34 hq2
                  go_wp2_with fail
                  refine bodyPost_ret (v := .tuple #[.agg #[.int .i64 0, .string ⟨#[]⟩, .int .i64 0, .int .i64 0], .int .i64 0, .int .i64 2]) (by simp [results, Tryd.results25, go_sem, Nat.lt_irrefl]) rfl ⟨(Below.refl _ _).alloc (Nat.le_refl _) _, ?_⟩
                  rw [FIN.out]
                  exact ⟨_, _, _, _, _, rfl⟩
                · have fin : r = .ok (⟨5, (s.data.toList.drop (k + 1)).take (j - (k + 1)), 0, 0⟩, j - (k + 1) + 2) := by
                    rw [← HR.out, textTok]; simp only [hrun, hat, h34, if_true]; rw [if_neg (by omega)]
                  have FIN := Lib.hid fin
                  clear fin hrun hat h34 hq2
                  go_wp2_with fail
                  refine bodyPost_ret (v := .tuple #[.agg #[.int .i64 5, .string (s.extract (k + 1) j), .int .i64 0, .int .i64 k], .int .i64 (j + 1), .int .i64 0]) (by simp [results, Tryd.results25, go_sem, Nat.lt_irrefl]) rfl ⟨(Below.refl _ _).alloc (Nat.le_refl _) _, ?_⟩
                  rw [FIN.out]
                  have : k + (j - (k + 1) + 2) = j + 1 := by omega
                  simp only [this, HXM.out]
                  rfl
              · have hq2b : (((s[j].toNat : Nat) : Int) != 34) = true := by rw [bne_iff_ne]; exact hq2
                have HN : Hid (∀ c ∈ (s.data.toList.drop (k + 1)).take (j + 1 - (k + 1)), isPlain c = true) := by
                  intro c hc
                  rw [take_drop_snoc s (k + 1) j hkj hlt, List.mem_append] at hc
                  rcases hc with hc | hc
                  · exact HI.out c hc
                  · simp only [List.mem_singleton] at hc
                    rw [hc]
                    simp only [isPlain, Bool.and_eq_true, decide_eq_true_eq, bne_iff_ne]
                    exact ⟨by omega, fun e => hq2 (by omega)⟩
                clear hat
                go_wp2_with fail
                go_round
                case rel => exact ⟨j + 1, by omega, by omega, by go_num, HN⟩
                case measure => simp [intOf]; omega
            · have hrun : run isPlain (s.data.toList.drop (k + 1)) = j - (k + 1) := run_upto s (k + 1) j hkj hj HI.out (fun _ => by simp only [isPlain, Bool.and_eq_false_iff]; left; rw [decide_eq_false_iff_not]; omega)
              have hq2b : (((s[j].toNat : Nat) : Int) != 34) = true := by rw [bne_iff_ne]; omega
              have fin : r = .error 90 := by
                rw [← HR.out, textTok]; simp only [hrun, hat]; rw [if_neg]
                intro e
                simp only [Option.some.injEq] at e
                have : s[j].toNat = 34 := by rw [e]; rfl
                omega
              have FIN := Lib.hid fin
              clear fin hrun hat
              go_wp2_with fail
              refine bodyPost_ret (v := .tuple #[.agg #[.int .i64 0, .string ⟨#[]⟩, .int .i64 0, .int .i64 0], .int .i64 0, .int .i64 90]) (by simp [results, Tryd.results25, go_sem, Nat.lt_irrefl]) rfl ⟨(Below.refl _ _).alloc (Nat.le_refl _) _, ?_⟩
              rw [FIN.out]
              exact ⟨_, _, _, _, _, rfl⟩
          · have hji : ¬ (j : Int) < s.size := by omega
            have hje : ((j : Int) == (s.size : Int)) = true := by rw [beq_iff_eq]; omega
            have hrun : run isPlain (s.data.toList.drop (k + 1)) = j - (k + 1) := run_upto s (k + 1) j hkj hj HI.out (fun h => absurd h hlt)
            have fin : r = .error 90 := by
              rw [← HR.out, textTok]; simp only [hrun]; rw [if_neg]
              rw [at_drop s (k + 1) j hkj, List.getElem?_eq_none (by rw [len_list]; omega)]
              simp
            have FIN := Lib.hid fin
            clear fin hrun
            go_wp2_with fail
            refine bodyPost_ret (v := .tuple #[.agg #[.int .i64 0, .string ⟨#[]⟩, .int .i64 0, .int .i64 0], .int .i64 0, .int .i64 90]) (by simp [results, Tryd.results25, go_sem, Nat.lt_irrefl]) rfl ⟨(Below.refl _ _).alloc (Nat.le_refl _) _, ?_⟩
            rw [FIN.out]
            exact ⟨_, _, _, _, _, rfl⟩
      · have hr : signTok (s.data.toList.drop k) = r := by
          rw [← HRES.out, HD.out, tok]
          simp only [HL.out, HDG.out, Bool.false_eq_true, if_false]
          rw [if_neg (fun h => hq (by rw [h]; rfl))]
        have HR := Lib.hid hr
        have hqb : (((s[k].toNat : Nat) : Int) == 34) = false := by rw [beq_eq_false_iff_ne]; exact hq
        clear hr hq
        go_enter Tryd.func25, Tryd.ntmps25
        go_wp2_with fail
        refine (r_letter s[k] _).mono ?_
        rintro e w1 ⟨rfl, rfl⟩
        rw [HL.out]
        go_wp2_with fail
        refine (r_digit s[k] _).mono ?_
        rintro e w1 ⟨rfl, rfl⟩
        rw [HDG.out]
        go_wp2_with fail
        go_loopw [11] (fun i wr => ∃ n : Nat, i = .int .i64 n ∧ n ≤ 2 ∧ Hid (n < 2 → ¬ (s.data.toList.drop k).take 2 ∈ two4) ∧ Hid (n < 1 → ¬ (s.data.toList.drop k).take 1 ∈ one22) ∧ Hid (wr.heap[w.heap.size]? = some (.cells tok0 34 (0, 0))) ∧ Below w.heap.size w wr ∧ w.heap.size < wr.heap.size) (fun i _ => (intOf i).toNat)
        case atStart => exact ⟨2, rfl, by omega, fun h => by omega, fun h => by omega, alloc_block _ _, (Below.refl _ _).alloc (Nat.le_refl _) _, by simp⟩
        case round =>
          obtain ⟨n, rfl, hn, H2, H1, HK, hbel2, hz2⟩ := hrel
          have k0 := HK.out
          have q0 : wr.cell? ⟨w.heap.size, 0, none⟩ = some (.int .i64 0) := by rw [cell_of_block k0]; rfl
          have q1 : wr.cell? ⟨w.heap.size, 1, none⟩ = some (.string ⟨#[]⟩) := by rw [cell_of_block k0]; rfl
          have q2 : wr.cell? ⟨w.heap.size, 2, none⟩ = some (.int .i64 0) := by rw [cell_of_block k0]; rfl
          have q3 : wr.cell? ⟨w.heap.size, 3, none⟩ = some (.int .i64 0) := by rw [cell_of_block k0]; rfl
          have qf : ∀ j, wr.frozen? ⟨w.heap.size, j, none⟩ = false := frozen_of_block k0
          clear k0
          rcases (by omega : n = 0 ∨ n = 1 ∨ n = 2) with rfl | rfl | rfl
          · have fin : r = .error 90 := by rw [← HR.out, signTok_eq, if_neg (H2.out (by omega)), if_neg (H1.out (by omega))]
            have FIN := Lib.hid fin
            clear fin
            go_wp2_with fail
            refine bodyPost_ret (v := .tuple #[.agg #[.int .i64 0, .string ⟨#[]⟩, .int .i64 0, .int .i64 0], .int .i64 0, .int .i64 90]) (by simp [results, Tryd.results25, go_sem, q0, q1, q2, q3, hz2, Nat.ne_of_lt hz2]) rfl ⟨((((hbel2.setCell (Nat.le_refl _) _).setCell (Nat.le_refl _) _).setCell (Nat.le_refl _) _).setCell (Nat.le_refl _) _), ?_⟩
            rw [FIN.out]
            exact ⟨_, _, _, _, _, rfl⟩
          · have hk1 : (k : Int) + 1 ≤ s.size := by omega
            have hxl : (s.extract k (k + 1)).data.toList = (s.data.toList.drop k).take 1 := cut_list s k 1
            have hxs : (s.extract k (k + 1)).data.toList.length = 1 := by rw [len_list, ByteArray.size_extract]; omega
            have hxm : (⟨((s.data.toList.drop k).take 1).toArray⟩ : ByteArray) = s.extract k (k + 1) := by rw [← hxl]
            have HXM := Lib.hid hxm
            have hmem : (s.extract k (k + 1)).data.toList ∈ signList ↔ (s.data.toList.drop k).take 1 ∈ one22 := by rw [sign_mem1 hxs, hxl]
            clear hxl hxs hxm
            go_wp2_with fail
            refine (r_Sign (s.extract k (k + 1)) _).mono ?_
            rintro e w3 ⟨rfl, B3⟩
            have k0 := below_block B3 (by omega) HK.out
            have HK3 := Lib.hid k0
            have u0 : w3.cell? ⟨w.heap.size, 0, none⟩ = some (.int .i64 0) := by rw [cell_of_block k0]; rfl
            have u1 : w3.cell? ⟨w.heap.size, 1, none⟩ = some (.string ⟨#[]⟩) := by rw [cell_of_block k0]; rfl
            have u2 : w3.cell? ⟨w.heap.size, 2, none⟩ = some (.int .i64 0) := by rw [cell_of_block k0]; rfl
            have u3 : w3.cell? ⟨w.heap.size, 3, none⟩ = some (.int .i64 0) := by rw [cell_of_block k0]; rfl
            have uf : ∀ j, w3.frozen? ⟨w.heap.size, j, none⟩ = false := frozen_of_block k0
            have hz3 : w.heap.size < w3.heap.size := by have := B3.size; omega
            have hbel3 : Below w.heap.size w w3 := bthen hbel2 B3
            clear k0 q0 q1 q2 q3 qf B3
            by_cases hm : (s.data.toList.drop k).take 1 ∈ one22
            · rw [decide_eq_true (hmem.2 hm)]
              have fin : r = .ok (⟨6, (s.data.toList.drop k).take 1, 0, 0⟩, 1) := by rw [← HR.out, signTok_eq, if_neg (H2.out (by omega)), if_pos hm]
              have FIN := Lib.hid fin
              clear fin hm hmem
              go_wp2_with fail
              refine bodyPost_ret (v := .tuple #[.agg #[.int .i64 6, .string (s.extract k (k + 1)), .int .i64 0, .int .i64 k], .int .i64 (k + 1), .int .i64 0]) (by simp [results, Tryd.results25, go_sem, u0, u1, u2, u3, hz3, Nat.ne_of_lt hz3]) rfl ⟨((((hbel3.setCell (Nat.le_refl _) _).setCell (Nat.le_refl _) _).setCell (Nat.le_refl _) _).setCell (Nat.le_refl _) _), ?_⟩
              rw [FIN.out]
              simp only [HXM.out]
              rfl
            · rw [decide_eq_false (fun h => hm (hmem.1 h))]
              have HM := Lib.hid hm
              clear hm hmem
              go_wp2_with fail
              go_roundw
              case rel => exact ⟨0, rfl, by omega, fun _ => H2.out (by omega), fun _ => HM.out, HK3, hbel3, hz3⟩
              case measure => simp [intOf]
          · by_cases hk2 : k + 2 ≤ s.size
            · have hk1 : (k : Int) + 2 ≤ s.size := by omega
              have hxl : (s.extract k (k + 2)).data.toList = (s.data.toList.drop k).take 2 := cut_list s k 2
              have hxs : (s.extract k (k + 2)).data.toList.length = 2 := by rw [len_list, ByteArray.size_extract]; omega
              have hxm : (⟨((s.data.toList.drop k).take 2).toArray⟩ : ByteArray) = s.extract k (k + 2) := by rw [← hxl]
              have HXM := Lib.hid hxm
              have hmem : (s.extract k (k + 2)).data.toList ∈ signList ↔ (s.data.toList.drop k).take 2 ∈ two4 := by rw [sign_mem2 hxs, hxl]
              clear hxl hxs hxm
              go_wp2_with fail
              refine (r_Sign (s.extract k (k + 2)) _).mono ?_
              rintro e w3 ⟨rfl, B3⟩
              have k0 := below_block B3 (by omega) HK.out
              have HK3 := Lib.hid k0
              have u0 : w3.cell? ⟨w.heap.size, 0, none⟩ = some (.int .i64 0) := by rw [cell_of_block k0]; rfl
              have u1 : w3.cell? ⟨w.heap.size, 1, none⟩ = some (.string ⟨#[]⟩) := by rw [cell_of_block k0]; rfl
              have u2 : w3.cell? ⟨w.heap.size, 2, none⟩ = some (.int .i64 0) := by rw [cell_of_block k0]; rfl
              have u3 : w3.cell? ⟨w.heap.size, 3, none⟩ = some (.int .i64 0) := by rw [cell_of_block k0]; rfl
              have uf : ∀ j, w3.frozen? ⟨w.heap.size, j, none⟩ = false := frozen_of_block k0
              have hz3 : w.heap.size < w3.heap.size := by have := B3.size; omega
              have hbel3 : Below w.heap.size w w3 := bthen hbel2 B3
              clear k0 q0 q1 q2 q3 qf B3
              by_cases hm : (s.data.toList.drop k).take 2 ∈ two4
              · rw [decide_eq_true (hmem.2 hm)]
                have fin : r = .ok (⟨6, (s.data.toList.drop k).take 2, 0, 0⟩, 2) := by rw [← HR.out, signTok_eq, if_pos hm]
                have FIN := Lib.hid fin
                clear fin hm hmem
                go_wp2_with fail
                refine bodyPost_ret (v := .tuple #[.agg #[.int .i64 6, .string (s.extract k (k + 2)), .int .i64 0, .int .i64 k], .int .i64 (k + 2), .int .i64 0]) (by simp [results, Tryd.results25, go_sem, u0, u1, u2, u3, hz3, Nat.ne_of_lt hz3]) rfl ⟨((((hbel3.setCell (Nat.le_refl _) _).setCell (Nat.le_refl _) _).setCell (Nat.le_refl _) _).setCell (Nat.le_refl _) _), ?_⟩
                rw [FIN.out]
                simp only [HXM.out]
                rfl
              · rw [decide_eq_false (fun h => hm (hmem.1 h))]
                have HM := Lib.hid hm
                clear hm hmem
                go_wp2_with fail
                go_roundw
                case rel => exact ⟨1, rfl, by omega, fun _ => HM.out, (fun h => by omega), HK3, hbel3, hz3⟩
                case measure => simp [intOf]
            · have hk1 : ¬ (k : Int) + 2 ≤ s.size := by omega
              have HM : Hid (¬ (s.data.toList.drop k).take 2 ∈ two4) := fun h => by
                have h2 := two4_len _ h
                rw [List.length_take, List.length_drop, len_list] at h2
                omega
              go_wp2_with fail
              go_roundw
              case rel => exact ⟨1, rfl, by omega, fun _ => HM.out, (fun h => by omega), HK, hbel2, hz2⟩
              case measure => simp [intOf]
end Go.Proofs.YtkieeaajhomdoaaDoor
