/- Parts of the proof of TokenTexts: Ref4, Ref5, Same, Reads, Frame, JoinP, Joins, Hex, Shelf2, Text1, TextP, Text2, Text3, Text4, Text5. -/
import Derived.Test.YtkieeaajhomdoaaDoorMTokenTexts0
import Derived.Test.YtkieeaajhomdoaaDoorCards
import Derived.Test.YtkieeaajhomdoaaDoorTie
import Derived.ProofKit
import Derived.OpenShut
import Derived.Deep.DeepHandedRow
import Derived.Deep.DeepWitnessRowRef
import Derived.Deep.DeepLaidRun
import Derived.Lib.LaidTab
import Derived.Lib.LaidU8
import Derived.Maps.AppendAt
import Derived.Laws.IdiomStrings
import Derived.Shelf.Strings.Builder1
import Derived.Shelf.Strings.Builder2
import Derived.Shelf.Strings.OnBuilder
import Derived.Shelf.Small.Utf8
import Derived.Shelf.Small.Wraps
import Derived.Shelf.Strings.BuilderF
import Derived.Shelf.Strings.BuilderK
import Derived.Shelf.Strings.BuilderRune
import Derived.Shelf.Utf8.AppendRune
import Derived.Shelf.Utf8.AppendRunePlain
import Derived.Shelf.Utf8.RuneCount
import Derived.Shelf.Strconv.Itoa0
import Derived.Shelf.Strconv.Itoa1
import Derived.Shelf.LaysM
import Derived.Shelf.Strconv.Itoa2
import Derived.Shelf.Strconv.Itoa3
import Derived.Shelf.Strconv.Clone
import Derived.Shelf.Strconv.SyntaxError
import Derived.Shelf.LaysC
import Derived.Shelf.Strconv.ToError
import Derived.Shelf.Strconv.Lower
import Derived.Shelf.Strconv.RangeError
import Derived.Shelf.Strconv.ToErrorRange
import Derived.Shelf.Strings.Search1
import Derived.Shelf.Strings.Search2
import Derived.Shelf.Strings.Search3
import Derived.Shelf.Strings.Cut
import Derived.Shelf.Strings.Count
import Derived.Shelf.Strings.Shaped
import Derived.Shelf.Strings.Prefix
import Derived.Shelf.Strings.Split
import Derived.Shelf.Strings.Fields
import Derived.Shelf.Strings.SplitShaped
import Derived.Shelf.Unicode.Latin
import Derived.Shelf.Unicode.DecodeSlow
import Derived.Shelf.Unicode.Is16White
import Derived.Shelf.Unicode.IsSpaceAny
import Derived.Shelf.Unicode.CaseLookup
import Derived.Shelf.Unicode.CaseConvert
import Derived.Shelf.Unicode.CaseTo
import Derived.Shelf.Unicode.CaseLaid
import Derived.Shelf.Unicode.Is16Any
import Derived.Shelf.Unicode.Is32Any
import Derived.Shelf.Unicode.ExclAny
import Derived.Test.YtkieeaajhomdoaaDoorProg
import Derived.Test.YtkieeaajhomdoaaDoorPDecx1
import Derived.Lib.AppendStr
set_option linter.unusedVariables false
set_option linter.unusedSimpArgs false
namespace Go.Proofs.YtkieeaajhomdoaaDoor
open Go.RowKit Go.Maps Go.MapKept
theorem find_len (n : Nat) : ∀ (L : List (List UInt8)) (h : ∀ w ∈ L, w.length = n) (l : List UInt8), L.find? (fun w => w.isPrefixOf l) = if l.take n ∈ L then some (l.take n) else none
  | [], _, l => by simp
  | x :: L, h, l => by
    have hx := h x (by simp)
    by_cases e : x.isPrefixOf l = true
    · have : l.take n = x := by
        have := List.isPrefixOf_iff_prefix.1 e
        rw [List.prefix_iff_eq_take] at this
        rw [← hx, ← this]
      rw [List.find?_cons_of_pos (p := fun w : List UInt8 => w.isPrefixOf l) e, this, if_pos (by simp)]
    · have hne : l.take n ≠ x := fun h2 => e (by
        rw [List.isPrefixOf_iff_prefix, ← h2]; exact List.take_prefix _ _)
      rw [List.find?_cons_of_neg (p := fun w : List UInt8 => w.isPrefixOf l) e, find_len n L (fun w hw => h w (by simp [hw])) l]
      simp [hne]
def two4 : List (List UInt8) := signList.take 4
def one22 : List (List UInt8) := signList.drop 4
theorem two4_len : ∀ w ∈ two4, w.length = 2 := by decide
theorem one22_len : ∀ w ∈ one22, w.length = 1 := by decide
theorem sign_split : signList = two4 ++ one22 := by decide
theorem sign_mem2 {x : List UInt8} (h : x.length = 2) : x ∈ signList ↔ x ∈ two4 := by
  rw [sign_split, List.mem_append]
  exact ⟨fun h2 => h2.resolve_right (fun h3 => by have := one22_len x h3; omega), .inl⟩
theorem sign_mem1 {x : List UInt8} (h : x.length = 1) : x ∈ signList ↔ x ∈ one22 := by
  rw [sign_split, List.mem_append]
  exact ⟨fun h2 => h2.resolve_left (fun h3 => by have := two4_len x h3; omega), .inr⟩
theorem signTok_eq (l : List UInt8) : signTok l = if l.take 2 ∈ two4 then .ok (⟨6, l.take 2, 0, 0⟩, 2) else if l.take 1 ∈ one22 then .ok (⟨6, l.take 1, 0, 0⟩, 1) else .error 90 := by
  unfold signTok
  rw [sign_split, List.find?_append, find_len 2 two4 two4_len, find_len 1 one22 one22_len]
  by_cases h2 : l.take 2 ∈ two4
  · rw [if_pos h2, if_pos h2]
    simp only [Option.some_or]
    rw [two4_len _ h2]
  · rw [if_neg h2, if_neg h2]
    by_cases h1 : l.take 1 ∈ one22
    · rw [if_pos h1, if_pos h1]
      simp only [Option.none_or]
      rw [one22_len _ h1]
    · rw [if_neg h1, if_neg h1]
      rfl
theorem drop_at (s : ByteArray) (k : Nat) (h : k < s.size) : s.data.toList.drop k = s[k] :: s.data.toList.drop (k + 1) := drop_cons s k h
theorem cut_list (s : ByteArray) (k n : Nat) : (s.extract k (k + n)).data.toList = (s.data.toList.drop k).take n := by
  rw [extract_list, Nat.add_sub_cancel_left]
set_option maxRecDepth 100000 in
set_option maxHeartbeats 16000000 in
theorem r_one (s : ByteArray) (k : Nat) (w : World) (hs : s.size ≤ 140737488351232) (hk : k < s.size) (r : Except Int (Tok × Nat)) (hres : tok (s.data.toList.drop k) = r) :
    Calls Tryd.prog 25 #[.string s, .int .i64 k] w (AtOne r k w) := by
  have HRES := Lib.hid hres
  have HD := Lib.hid (drop_cons s k hk)
  clear hres
  have hki : (k : Int) < s.size := by omega
  have hcb : ((s[k].toNat : Nat) : Int) < 256 := by have := UInt8.toNat_lt s[k]; omega
  cases hlet : isLetter s[k] with
  | true =>
    have HL := Lib.hid hlet
    clear hlet
    go_enter Tryd.func25, Tryd.ntmps25
    go_wp2_with fail
    refine (r_letter s[k] _).mono ?_
    rintro e w1 ⟨rfl, rfl⟩
    rw [HL.out]
    go_wp2_with fail
    go_loop [8] (fun i => ∃ j : Nat, k ≤ j ∧ j ≤ s.size ∧ i = .int .i64 j ∧ Hid (∀ c ∈ (s.data.toList.drop k).take (j - k), isInside c = true)) (fun i => s.size - (intOf i).toNat)
    case atStart => exact ⟨k, Nat.le_refl _, by omega, rfl, by simp [Hid]⟩
    case round =>
      obtain ⟨j, hkj, hj, rfl, HI⟩ := hrel
      by_cases hlt : j < s.size
      · have hji : (j : Int) < s.size := by omega
        have hjb : ((s[j].toNat : Nat) : Int) < 256 := by have := UInt8.toNat_lt s[j]; omega
        cases h1 : isLetter s[j] with
        | true =>
          have H1 := Lib.hid h1
          have HN : Hid (∀ c ∈ (s.data.toList.drop k).take (j + 1 - k), isInside c = true) := by
            intro c hc
            rw [take_drop_snoc s k j hkj hlt, List.mem_append] at hc
            rcases hc with hc | hc
            · exact HI.out c hc
            · simp only [List.mem_singleton] at hc; rw [hc, isInside, h1]; rfl
          clear h1
          go_wp2_with fail
          refine (r_letter s[j] _).mono ?_
          rintro e w1 ⟨rfl, rfl⟩
          rw [H1.out]
          go_wp2_with fail
          go_round
          case rel => exact ⟨j + 1, by omega, by omega, by go_num, HN⟩
          case measure => simp [intOf]; omega
        | false =>
          have H1 := Lib.hid h1
          cases h2 : isDigit s[j] with
          | true =>
            have H2 := Lib.hid h2
            have HN : Hid (∀ c ∈ (s.data.toList.drop k).take (j + 1 - k), isInside c = true) := by
              intro c hc
              rw [take_drop_snoc s k j hkj hlt, List.mem_append] at hc
              rcases hc with hc | hc
              · exact HI.out c hc
              · simp only [List.mem_singleton] at hc; rw [hc, isInside, h1, h2]; rfl
            clear h1 h2
            go_wp2_with fail
            refine (r_letter s[j] _).mono ?_
            rintro e w1 ⟨rfl, rfl⟩
            rw [H1.out]
            go_wp2_with fail
            refine (r_digit s[j] _).mono ?_
            rintro e w1 ⟨rfl, rfl⟩
            rw [H2.out]
            go_wp2_with fail
            go_round
            case rel => exact ⟨j + 1, by omega, by omega, by go_num, HN⟩
            case measure => simp [intOf]; omega
          | false =>
            have H2 := Lib.hid h2
            have hrun : run isInside (s.data.toList.drop k) = j - k := run_upto s k j hkj hj HI.out (fun _ => by rw [isInside, h1, h2]; rfl)
            have HR := Lib.hid hrun
            clear h1 h2 hrun
            go_wp2_with fail
            refine (r_letter s[j] _).mono ?_
            rintro e w1 ⟨rfl, rfl⟩
            rw [H1.out]
            go_wp2_with fail
            refine (r_digit s[j] _).mono ?_
            rintro e w1 ⟨rfl, rfl⟩
            rw [H2.out]
            go_wp2_with fail
            refine (r_Key (s.extract k j) _).mono ?_
            rintro e w2 ⟨rfl, B2⟩
            have hx : (s.extract k j).data.toList = (s.data.toList.drop k).take (j - k) := extract_list _ _ _
            have hxm : (⟨((s.data.toList.drop k).take (j - k)).toArray⟩ : ByteArray) = s.extract k j := by rw [extract_mk]
            have hpos : 1 ≤ j - k := by rw [← HR.out, HD.out, run_cons_pos (by rw [isInside, HL.out]; rfl)]; omega
            have hr : r = (wordTok (s.extract k j).data.toList).map fun t => (t, j - k) := by
              rw [← HRES.out, HD.out, tok]
              simp only [HL.out, if_true]
              rw [← HD.out, HR.out, hx]
            have k0 : w2.heap[w.heap.size]? = some (.cells tok0 34 (0, 0)) := below_block B2 (by simp; omega) (alloc_old (alloc_block _ _))
            have k1 : w2.heap[w.heap.size + 1]? = some (.cells #[.int .i64 1, .string (s.extract k j), .int .i64 0, .int .i64 k] 34 (0, 0)) := below_block B2 (by simp) (by
              have := alloc_block (w.alloc (.cells tok0 34)) (.cells #[.int .i64 1, .string (s.extract k j), .int .i64 0, .int .i64 k] 34)
              have e : (w.alloc (.cells tok0 34)).heap.size = w.heap.size + 1 := by simp
              rw [e] at this
              exact this)
            have q0 : w2.cell? ⟨w.heap.size, 0, none⟩ = some (.int .i64 0) := by rw [cell_of_block k0]; rfl
            have q1 : w2.cell? ⟨w.heap.size, 1, none⟩ = some (.string ⟨#[]⟩) := by rw [cell_of_block k0]; rfl
            have q2 : w2.cell? ⟨w.heap.size, 2, none⟩ = some (.int .i64 0) := by rw [cell_of_block k0]; rfl
            have q3 : w2.cell? ⟨w.heap.size, 3, none⟩ = some (.int .i64 0) := by rw [cell_of_block k0]; rfl
            have qf : ∀ j, w2.frozen? ⟨w.heap.size, j, none⟩ = false := frozen_of_block k0
            have p0 : w2.cell? ⟨w.heap.size + 1, 0, none⟩ = some (.int .i64 1) := by rw [cell_of_block k1]; rfl
            have p1 : w2.cell? ⟨w.heap.size + 1, 1, none⟩ = some (.string (s.extract k j)) := by rw [cell_of_block k1]; rfl
            have p2 : w2.cell? ⟨w.heap.size + 1, 2, none⟩ = some (.int .i64 0) := by rw [cell_of_block k1]; rfl
            have p3 : w2.cell? ⟨w.heap.size + 1, 3, none⟩ = some (.int .i64 k) := by rw [cell_of_block k1]; rfl
            have pf : ∀ j, w2.frozen? ⟨w.heap.size + 1, j, none⟩ = false := frozen_of_block k1
            have hz2 : w.heap.size + 1 < w2.heap.size := by have := B2.size; simp at this; omega
            have hbel2 : Below w.heap.size w w2 := (((Below.refl _ _).alloc (Nat.le_refl _) _).alloc (by simp) _).trans (B2.mono (by simp; omega))
            have hlen : (s.extract k j).data.toList.length = j - k := by rw [len_list, ByteArray.size_extract]; omega
            clear k0 k1 B2 hx
            have HXM := Lib.hid hxm
            clear hxm
            by_cases hkey : (s.extract k j).data.toList ∈ keyList
            · have hr2 : r = .ok (⟨2, (s.extract k j).data.toList, 0, 0⟩, j - k) := by rw [hr, wordTok, if_pos hkey]; rfl
              have HRR := Lib.hid hr2
              rw [decide_eq_true hkey]
              clear hr hr2 hkey hlen
              go_wp2_with fail
              refine bodyPost_ret (v := .tuple #[.agg #[.int .i64 2, .string (s.extract k j), .int .i64 0, .int .i64 k], .int .i64 j, .int .i64 0]) (by simp [results, Tryd.results25, go_sem, q0, q1, q2, q3, hz2, Nat.ne_of_lt hz2]) rfl ⟨(((((hbel2.setCell (by exact Nat.le_succ _) _).setCell (Nat.le_refl _) _).setCell (Nat.le_refl _) _).setCell (Nat.le_refl _) _).setCell (Nat.le_refl _) _), ?_⟩
              rw [HRR.out]
              have : k + (j - k) = j := by omega
              simp only [this]
            · rw [decide_eq_false hkey]
              by_cases h24 : (24 : Int) < (j : Int) - k
              · have hr2 : r = .error 2 := by rw [hr, wordTok, if_neg hkey, if_pos (by omega)]; rfl
                have HRR := Lib.hid hr2
                clear hr hr2 hkey hlen
                go_wp2_with fail
                refine bodyPost_ret (v := .tuple #[.agg #[.int .i64 1, .string (s.extract k j), .int .i64 0, .int .i64 k], .int .i64 0, .int .i64 2]) (by simp [results, Tryd.results25, go_sem, q0, q1, q2, q3, hz2, Nat.ne_of_lt hz2]) rfl ⟨((((hbel2.setCell (Nat.le_refl _) _).setCell (Nat.le_refl _) _).setCell (Nat.le_refl _) _).setCell (Nat.le_refl _) _), ?_⟩
                rw [HRR.out]
                exact ⟨_, _, _, _, _, rfl⟩
              · have hr2 : r = .ok (⟨1, (s.extract k j).data.toList, 0, 0⟩, j - k) := by rw [hr, wordTok, if_neg hkey, if_neg (by omega)]; rfl
                have HRR := Lib.hid hr2
                clear hr hr2 hkey hlen
                go_wp2_with fail
                refine bodyPost_ret (v := .tuple #[.agg #[.int .i64 1, .string (s.extract k j), .int .i64 0, .int .i64 k], .int .i64 j, .int .i64 0]) (by simp [results, Tryd.results25, go_sem, q0, q1, q2, q3, hz2, Nat.ne_of_lt hz2]) rfl ⟨((((hbel2.setCell (Nat.le_refl _) _).setCell (Nat.le_refl _) _).setCell (Nat.le_refl _) _).setCell (Nat.le_refl _) _), ?_⟩
                rw [HRR.out]
                have : k + (j - k) = j := by omega
                simp only [this]
      · have hji : ¬ (j : Int) < s.size := by omega
        have hrun : run isInside (s.data.toList.drop k) = j - k := run_upto s k j hkj hj HI.out (fun h => absurd h hlt)
        have HR := Lib.hid hrun
        clear hrun
        go_wp2_with fail
        refine (r_Key (s.extract k j) _).mono ?_
        rintro e w2 ⟨rfl, B2⟩
        have hx : (s.extract k j).data.toList = (s.data.toList.drop k).take (j - k) := extract_list _ _ _
        have hxm : (⟨((s.data.toList.drop k).take (j - k)).toArray⟩ : ByteArray) = s.extract k j := by rw [extract_mk]
        have hpos : 1 ≤ j - k := by rw [← HR.out, HD.out, run_cons_pos (by rw [isInside, HL.out]; rfl)]; omega
        have hr : r = (wordTok (s.extract k j).data.toList).map fun t => (t, j - k) := by
          rw [← HRES.out, HD.out, tok]
          simp only [HL.out, if_true]
          rw [← HD.out, HR.out, hx]
        have k0 : w2.heap[w.heap.size]? = some (.cells tok0 34 (0, 0)) := below_block B2 (by simp; omega) (alloc_old (alloc_block _ _))
        have k1 : w2.heap[w.heap.size + 1]? = some (.cells #[.int .i64 1, .string (s.extract k j), .int .i64 0, .int .i64 k] 34 (0, 0)) := below_block B2 (by simp) (by
          have := alloc_block (w.alloc (.cells tok0 34)) (.cells #[.int .i64 1, .string (s.extract k j), .int .i64 0, .int .i64 k] 34)
          have e : (w.alloc (.cells tok0 34)).heap.size = w.heap.size + 1 := by simp
          rw [e] at this
          exact this)
        have q0 : w2.cell? ⟨w.heap.size, 0, none⟩ = some (.int .i64 0) := by rw [cell_of_block k0]; rfl
        have q1 : w2.cell? ⟨w.heap.size, 1, none⟩ = some (.string ⟨#[]⟩) := by rw [cell_of_block k0]; rfl
        have q2 : w2.cell? ⟨w.heap.size, 2, none⟩ = some (.int .i64 0) := by rw [cell_of_block k0]; rfl
        have q3 : w2.cell? ⟨w.heap.size, 3, none⟩ = some (.int .i64 0) := by rw [cell_of_block k0]; rfl
        have qf : ∀ j, w2.frozen? ⟨w.heap.size, j, none⟩ = false := frozen_of_block k0
        have p0 : w2.cell? ⟨w.heap.size + 1, 0, none⟩ = some (.int .i64 1) := by rw [cell_of_block k1]; rfl
        have p1 : w2.cell? ⟨w.heap.size + 1, 1, none⟩ = some (.string (s.extract k j)) := by rw [cell_of_block k1]; rfl
        have p2 : w2.cell? ⟨w.heap.size + 1, 2, none⟩ = some (.int .i64 0) := by rw [cell_of_block k1]; rfl
        have p3 : w2.cell? ⟨w.heap.size + 1, 3, none⟩ = some (.int .i64 k) := by rw [cell_of_block k1]; rfl
        have pf : ∀ j, w2.frozen? ⟨w.heap.size + 1, j, none⟩ = false := frozen_of_block k1
        have hz2 : w.heap.size + 1 < w2.heap.size := by have := B2.size; simp at this; omega
        have hbel2 : Below w.heap.size w w2 := (((Below.refl _ _).alloc (Nat.le_refl _) _).alloc (by simp) _).trans (B2.mono (by simp; omega))
        have hlen : (s.extract k j).data.toList.length = j - k := by rw [len_list, ByteArray.size_extract]; omega
        clear k0 k1 B2 hx
        have HXM := Lib.hid hxm
        clear hxm
        by_cases hkey : (s.extract k j).data.toList ∈ keyList
        · have hr2 : r = .ok (⟨2, (s.extract k j).data.toList, 0, 0⟩, j - k) := by rw [hr, wordTok, if_pos hkey]; rfl
          have HRR := Lib.hid hr2
          rw [decide_eq_true hkey]
          clear hr hr2 hkey hlen
          go_wp2_with fail
          refine bodyPost_ret (v := .tuple #[.agg #[.int .i64 2, .string (s.extract k j), .int .i64 0, .int .i64 k], .int .i64 j, .int .i64 0]) (by simp [results, Tryd.results25, go_sem, q0, q1, q2, q3, hz2, Nat.ne_of_lt hz2]) rfl ⟨(((((hbel2.setCell (by exact Nat.le_succ _) _).setCell (Nat.le_refl _) _).setCell (Nat.le_refl _) _).setCell (Nat.le_refl _) _).setCell (Nat.le_refl _) _), ?_⟩
          rw [HRR.out]
          have : k + (j - k) = j := by omega
          simp only [this]
        · rw [decide_eq_false hkey]
          by_cases h24 : (24 : Int) < (j : Int) - k
          · have hr2 : r = .error 2 := by rw [hr, wordTok, if_neg hkey, if_pos (by omega)]; rfl
            have HRR := Lib.hid hr2
            clear hr hr2 hkey hlen
            go_wp2_with fail
            refine bodyPost_ret (v := .tuple #[.agg #[.int .i64 1, .string (s.extract k j), .int .i64 0, .int .i64 k], .int .i64 0, .int .i64 2]) (by simp [results, Tryd.results25, go_sem, q0, q1, q2, q3, hz2, Nat.ne_of_lt hz2]) rfl ⟨((((hbel2.setCell (Nat.le_refl _) _).setCell (Nat.le_refl _) _).setCell (Nat.le_refl _) _).setCell (Nat.le_refl _) _), ?_⟩
            rw [HRR.out]
            exact ⟨_, _, _, _, _, rfl⟩
          · have hr2 : r = .ok (⟨1, (s.extract k j).data.toList, 0, 0⟩, j - k) := by rw [hr, wordTok, if_neg hkey, if_neg (by omega)]; rfl
            have HRR := Lib.hid hr2
            clear hr hr2 hkey hlen
            go_wp2_with fail
            refine bodyPost_ret (v := .tuple #[.agg #[.int .i64 1, .string (s.extract k j), .int .i64 0, .int .i64 k], .int .i64 j, .int .i64 0]) (by simp [results, Tryd.results25, go_sem, q0, q1, q2, q3, hz2, Nat.ne_of_lt hz2]) rfl ⟨((((hbel2.setCell (Nat.le_refl _) _).setCell (Nat.le_refl _) _).setCell (Nat.le_refl _) _).setCell (Nat.le_refl _) _), ?_⟩
            rw [HRR.out]
            have : k + (j - k) = j := by omega
            simp only [this]
  | false =>
    have HL := Lib.hid hlet
    clear hlet
    cases hdg : isDigit s[k] with
    | true =>
      have HDG := Lib.hid hdg
      have hr : numTok (s.data.toList.drop k) = r := by
        rw [← HRES.out, HD.out, tok]
        simp only [HL.out, hdg, Bool.false_eq_true, if_false, if_true]
      have HR := Lib.hid hr
      clear hdg hr
      go_enter Tryd.func25, Tryd.ntmps25
      go_wp2_with fail
      refine (r_letter s[k] _).mono ?_
      rintro e w1 ⟨rfl, rfl⟩
      rw [HL.out]
      go_wp2_with fail
      refine (r_digit s[k] _).mono ?_
      rintro e w1 ⟨rfl, rfl⟩
      rw [HDG.out]
      go_wp2_with fail
      refine (r_number s k _ hs hk HDG.out r HR.out).mono ?_
      rintro e w2 ⟨B2, hw⟩
      have k0 : w2.heap[w.heap.size]? = some (.cells tok0 34 (0, 0)) := below_block B2 (by simp) (alloc_block _ _)
      have q0 : w2.cell? ⟨w.heap.size, 0, none⟩ = some (.int .i64 0) := by rw [cell_of_block k0]; rfl
      have q1 : w2.cell? ⟨w.heap.size, 1, none⟩ = some (.string ⟨#[]⟩) := by rw [cell_of_block k0]; rfl
      have q2 : w2.cell? ⟨w.heap.size, 2, none⟩ = some (.int .i64 0) := by rw [cell_of_block k0]; rfl
      have q3 : w2.cell? ⟨w.heap.size, 3, none⟩ = some (.int .i64 0) := by rw [cell_of_block k0]; rfl
      have qf : ∀ j, w2.frozen? ⟨w.heap.size, j, none⟩ = false := frozen_of_block k0
      have hz2 : w.heap.size < w2.heap.size := by have := B2.size; simp at this; omega
      have hbel2 : Below w.heap.size w w2 := ((Below.refl _ _).alloc (Nat.le_refl _) _).trans (B2.mono (by simp))
      clear k0
      cases r with
      | ok tn =>
        obtain ⟨⟨tk, tx, tn, ta⟩, n⟩ := tn
        simp only at hw
        subst hw
        go_wp2_with fail
        refine bodyPost_ret (v := .tuple #[.agg #[.int .i64 tk, .string ⟨tx.toArray⟩, .int .i64 tn, .int .i64 k], .int .i64 (k + n : Nat), .int .i64 0]) (by simp [results, Tryd.results25, go_sem, q0, q1, q2, q3, hz2, Nat.ne_of_lt hz2]) rfl ⟨((((hbel2.setCell (Nat.le_refl _) _).setCell (Nat.le_refl _) _).setCell (Nat.le_refl _) _).setCell (Nat.le_refl _) _), ?_⟩
        rfl
      | error c =>
        obtain ⟨kk, y, mm, aa, n, rfl⟩ := hw
        go_wp2_with fail
        refine bodyPost_ret (v := .tuple #[.agg #[.int .i64 kk, .string y, .int .i64 mm, .int .i64 aa], .int .i64 n, .int .i64 c]) (by simp [results, Tryd.results25, go_sem, q0, q1, q2, q3, hz2, Nat.ne_of_lt hz2]) rfl ⟨((((hbel2.setCell (Nat.le_refl _) _).setCell (Nat.le_refl _) _).setCell (Nat.le_refl _) _).setCell (Nat.le_refl _) _), ?_⟩
        exact ⟨_, _, _, _, _, rfl⟩
    | false =>
      have HDG := Lib.hid hdg
      clear hdg
      by_cases hq : ((s[k].toNat : Nat) : Int) = 34
      · have hr : textTok (s.data.toList.drop (k + 1)) = r := by
          rw [← HRES.out, HD.out, tok]
          simp only [HL.out, HDG.out, Bool.false_eq_true, if_false]
          rw [if_pos (UInt8.toNat_inj.1 (by show _ = 34; omega))]
        have HR := Lib.hid hr
        have hqb : (((s[k].toNat : Nat) : Int) == 34) = true := by rw [beq_iff_eq]; exact hq
        clear hr hq
        go_enter Tryd.func25, Tryd.ntmps25
        go_wp2_with fail
        refine (r_letter s[k] _).mono ?_
        rintro e w1 ⟨rfl, rfl⟩
        rw [HL.out]
        go_wp2_with fail
        refine (r_digit s[k] _).mono ?_
        rintro e w1 ⟨rfl, rfl⟩
        rw [HDG.out]
        go_wp2_with fail
        go_loop [10] (fun i => ∃ j : Nat, k + 1 ≤ j ∧ j ≤ s.size ∧ i = .int .i64 j ∧ Hid (∀ c ∈ (s.data.toList.drop (k + 1)).take (j - (k + 1)), isPlain c = true)) (fun i => s.size - (intOf i).toNat)
        case atStart => exact ⟨k + 1, Nat.le_refl _, by omega, by go_num, by simp [Hid]⟩
        case round =>
          obtain ⟨j, hkj, hj, rfl, HI⟩ := hrel
          by_cases hlt : j < s.size
          · have hji : (j : Int) < s.size := by omega
            have hje : ((j : Int) == (s.size : Int)) = false := by rw [beq_eq_false_iff_ne]; omega
            have hjb : ((s[j].toNat : Nat) : Int) < 256 := by have := UInt8.toNat_lt s[j]; omega
            have hat : (s.data.toList.drop (k + 1))[j - (k + 1)]? = some s[j] := by rw [at_drop s (k + 1) j hkj, at_list s j hlt]
            by_cases hge : (32 : Int) ≤ ((s[j].toNat : Nat) : Int)
            · by_cases hq2 : ((s[j].toNat : Nat) : Int) = 34
              · have hq2b : (((s[j].toNat : Nat) : Int) != 34) = false := by rw [bne_eq_false_iff_eq]; exact hq2
                have hrun : run isPlain (s.data.toList.drop (k + 1)) = j - (k + 1) := run_upto s (k + 1) j hkj hj HI.out (fun _ => by simp only [isPlain, Bool.and_eq_false_iff]; right; rw [bne_eq_false_iff_eq]; omega)
                have h34 : s[j] = 34 := UInt8.toNat_inj.1 (by show _ = 34; omega)
                have HXM : Hid ((⟨((s.data.toList.drop (k + 1)).take (j - (k + 1))).toArray⟩ : ByteArray) = s.extract (k + 1) j) := by show _ = _; rw [extract_mk]
                by_cases h64 : (64 : Int) < (j : Int) - k - 1
                · have fin : r = .error 2 := by
                    rw [← HR.out, textTok]; simp only [hrun, hat, h34, if_true]; rw [if_pos (by omega)]
                  have FIN := Lib.hid fin
                  clear fin hrun hat h34 hq2
                  go_wp2_with fail
                  refine bodyPost_ret (v := .tuple #[.agg #[.int .i64 0, .string ⟨#[]⟩, .int .i64 0, .int .i64 0], .int .i64 0, .int .i64 2]) (by simp [results, Tryd.results25, go_sem, Nat.lt_irrefl]) rfl ⟨(Below.refl _ _).alloc (Nat.le_refl _) _, ?_⟩
                  rw [FIN.out]
                  exact ⟨_, _, _, _, _, rfl⟩
                · have fin : r = .ok (⟨5, (s.data.toList.drop (k + 1)).take (j - (k + 1)), 0, 0⟩, j - (k + 1) + 2) := by
                    rw [← HR.out, textTok]; simp only [hrun, hat, h34, if_true]; rw [if_neg (by omega)]
                  have FIN := Lib.hid fin
                  clear fin hrun hat h34 hq2
                  go_wp2_with fail
                  refine bodyPost_ret (v := .tuple #[.agg #[.int .i64 5, .string (s.extract (k + 1) j), .int .i64 0, .int .i64 k], .int .i64 (j + 1), .int .i64 0]) (by simp [results, Tryd.results25, go_sem, Nat.lt_irrefl]) rfl ⟨(Below.refl _ _).alloc (Nat.le_refl _) _, ?_⟩
                  rw [FIN.out]
                  have : k + (j - (k + 1) + 2) = j + 1 := by omega
                  simp only [this, HXM.out]
                  rfl
              · have hq2b : (((s[j].toNat : Nat) : Int) != 34) = true := by rw [bne_iff_ne]; exact hq2
                have HN : Hid (∀ c ∈ (s.data.toList.drop (k + 1)).take (j + 1 - (k + 1)), isPlain c = true) := by
                  intro c hc
                  rw [take_drop_snoc s (k + 1) j hkj hlt, List.mem_append] at hc
                  rcases hc with hc | hc
                  · exact HI.out c hc
                  · simp only [List.mem_singleton] at hc
                    rw [hc]
                    simp only [isPlain, Bool.and_eq_true, decide_eq_true_eq, bne_iff_ne]
                    exact ⟨by omega, fun e => hq2 (by omega)⟩
                clear hat
                go_wp2_with fail
                go_round
                case rel => exact ⟨j + 1, by omega, by omega, by go_num, HN⟩
                case measure => simp [intOf]; omega
            · have hrun : run isPlain (s.data.toList.drop (k + 1)) = j - (k + 1) := run_upto s (k + 1) j hkj hj HI.out (fun _ => by simp only [isPlain, Bool.and_eq_false_iff]; left; rw [decide_eq_false_iff_not]; omega)
              have hq2b : (((s[j].toNat : Nat) : Int) != 34) = true := by rw [bne_iff_ne]; omega
              have fin : r = .error 90 := by
                rw [← HR.out, textTok]; simp only [hrun, hat]; rw [if_neg]
                intro e
                simp only [Option.some.injEq] at e
                have : s[j].toNat = 34 := by rw [e]; rfl
                omega
              have FIN := Lib.hid fin
              clear fin hrun hat
              go_wp2_with fail
              refine bodyPost_ret (v := .tuple #[.agg #[.int .i64 0, .string ⟨#[]⟩, .int .i64 0, .int .i64 0], .int .i64 0, .int .i64 90]) (by simp [results, Tryd.results25, go_sem, Nat.lt_irrefl]) rfl ⟨(Below.refl _ _).alloc (Nat.le_refl _) _, ?_⟩
              rw [FIN.out]
              exact ⟨_, _, _, _, _, rfl⟩
          · have hji : ¬ (j : Int) < s.size := by omega
            have hje : ((j : Int) == (s.size : Int)) = true := by rw [beq_iff_eq]; omega
            have hrun : run isPlain (s.data.toList.drop (k + 1)) = j - (k + 1) := run_upto s (k + 1) j hkj hj HI.out (fun h => absurd h hlt)
            have fin : r = .error 90 := by
              rw [← HR.out, textTok]; simp only [hrun]; rw [if_neg]
              rw [at_drop s (k + 1) j hkj, List.getElem?_eq_none (by rw [len_list]; omega)]
              simp
            have FIN := Lib.hid fin
            clear fin hrun
            go_wp2_with fail
            refine bodyPost_ret (v := .tuple #[.agg #[.int .i64 0, .string ⟨#[]⟩, .int .i64 0, .int .i64 0], .int .i64 0, .int .i64 90]) (by simp [results, Tryd.results25, go_sem, Nat.lt_irrefl]) rfl ⟨(Below.refl _ _).alloc (Nat.le_refl _) _, ?_⟩
            rw [FIN.out]
            exact ⟨_, _, _, _, _, rfl⟩
      · have hr : signTok (s.data.toList.drop k) = r := by
          rw [← HRES.out, HD.out, tok]
          simp only [HL.out, HDG.out, Bool.false_eq_true, if_false]
          rw [if_neg (fun h => hq (by rw [h]; rfl))]
        have HR := Lib.hid hr
        have hqb : (((s[k].toNat : Nat) : Int) == 34) = false := by rw [beq_eq_false_iff_ne]; exact hq
        clear hr hq
        go_enter Tryd.func25, Tryd.ntmps25
        go_wp2_with fail
        refine (r_letter s[k] _).mono ?_
        rintro e w1 ⟨rfl, rfl⟩
        rw [HL.out]
        go_wp2_with fail
        refine (r_digit s[k] _).mono ?_
        rintro e w1 ⟨rfl, rfl⟩
        rw [HDG.out]
        go_wp2_with fail
        go_loopw [11] (fun i wr => ∃ n : Nat, i = .int .i64 n ∧ n ≤ 2 ∧ Hid (n < 2 → ¬ (s.data.toList.drop k).take 2 ∈ two4) ∧ Hid (n < 1 → ¬ (s.data.toList.drop k).take 1 ∈ one22) ∧ Hid (wr.heap[w.heap.size]? = some (.cells tok0 34 (0, 0))) ∧ Below w.heap.size w wr ∧ w.heap.size < wr.heap.size) (fun i _ => (intOf i).toNat)
        case atStart => exact ⟨2, rfl, by omega, fun h => by omega, fun h => by omega, alloc_block _ _, (Below.refl _ _).alloc (Nat.le_refl _) _, by simp⟩
        case round =>
          obtain ⟨n, rfl, hn, H2, H1, HK, hbel2, hz2⟩ := hrel
          have k0 := HK.out
          have q0 : wr.cell? ⟨w.heap.size, 0, none⟩ = some (.int .i64 0) := by rw [cell_of_block k0]; rfl
          have q1 : wr.cell? ⟨w.heap.size, 1, none⟩ = some (.string ⟨#[]⟩) := by rw [cell_of_block k0]; rfl
          have q2 : wr.cell? ⟨w.heap.size, 2, none⟩ = some (.int .i64 0) := by rw [cell_of_block k0]; rfl
          have q3 : wr.cell? ⟨w.heap.size, 3, none⟩ = some (.int .i64 0) := by rw [cell_of_block k0]; rfl
          have qf : ∀ j, wr.frozen? ⟨w.heap.size, j, none⟩ = false := frozen_of_block k0
          clear k0
          rcases (by omega : n = 0 ∨ n = 1 ∨ n = 2) with rfl | rfl | rfl
          · have fin : r = .error 90 := by rw [← HR.out, signTok_eq, if_neg (H2.out (by omega)), if_neg (H1.out (by omega))]
            have FIN := Lib.hid fin
            clear fin
            go_wp2_with fail
            refine bodyPost_ret (v := .tuple #[.agg #[.int .i64 0, .string ⟨#[]⟩, .int .i64 0, .int .i64 0], .int .i64 0, .int .i64 90]) (by simp [results, Tryd.results25, go_sem, q0, q1, q2, q3, hz2, Nat.ne_of_lt hz2]) rfl ⟨((((hbel2.setCell (Nat.le_refl _) _).setCell (Nat.le_refl _) _).setCell (Nat.le_refl _) _).setCell (Nat.le_refl _) _), ?_⟩
            rw [FIN.out]
            exact ⟨_, _, _, _, _, rfl⟩
          · have hk1 : (k : Int) + 1 ≤ s.size := by omega
            have hxl : (s.extract k (k + 1)).data.toList = (s.data.toList.drop k).take 1 := cut_list s k 1
            have hxs : (s.extract k (k + 1)).data.toList.length = 1 := by rw [len_list, ByteArray.size_extract]; omega
            have hxm : (⟨((s.data.toList.drop k).take 1).toArray⟩ : ByteArray) = s.extract k (k + 1) := by rw [← hxl]
            have HXM := Lib.hid hxm
            have hmem : (s.extract k (k + 1)).data.toList ∈ signList ↔ (s.data.toList.drop k).take 1 ∈ one22 := by rw [sign_mem1 hxs, hxl]
            clear hxl hxs hxm
            go_wp2_with fail
            refine (r_Sign (s.extract k (k + 1)) _).mono ?_
            rintro e w3 ⟨rfl, B3⟩
            have k0 := below_block B3 (by omega) HK.out
            have HK3 := Lib.hid k0
            have u0 : w3.cell? ⟨w.heap.size, 0, none⟩ = some (.int .i64 0) := by rw [cell_of_block k0]; rfl
            have u1 : w3.cell? ⟨w.heap.size, 1, none⟩ = some (.string ⟨#[]⟩) := by rw [cell_of_block k0]; rfl
            have u2 : w3.cell? ⟨w.heap.size, 2, none⟩ = some (.int .i64 0) := by rw [cell_of_block k0]; rfl
            have u3 : w3.cell? ⟨w.heap.size, 3, none⟩ = some (.int .i64 0) := by rw [cell_of_block k0]; rfl
            have uf : ∀ j, w3.frozen? ⟨w.heap.size, j, none⟩ = false := frozen_of_block k0
            have hz3 : w.heap.size < w3.heap.size := by have := B3.size; omega
            have hbel3 : Below w.heap.size w w3 := bthen hbel2 B3
            clear k0 q0 q1 q2 q3 qf B3
            by_cases hm : (s.data.toList.drop k).take 1 ∈ one22
            · rw [decide_eq_true (hmem.2 hm)]
              have fin : r = .ok (⟨6, (s.data.toList.drop k).take 1, 0, 0⟩, 1) := by rw [← HR.out, signTok_eq, if_neg (H2.out (by omega)), if_pos hm]
              have FIN := Lib.hid fin
              clear fin hm hmem
              go_wp2_with fail
              refine bodyPost_ret (v := .tuple #[.agg #[.int .i64 6, .string (s.extract k (k + 1)), .int .i64 0, .int .i64 k], .int .i64 (k + 1), .int .i64 0]) (by simp [results, Tryd.results25, go_sem, u0, u1, u2, u3, hz3, Nat.ne_of_lt hz3]) rfl ⟨((((hbel3.setCell (Nat.le_refl _) _).setCell (Nat.le_refl _) _).setCell (Nat.le_refl _) _).setCell (Nat.le_refl _) _), ?_⟩
              rw [FIN.out]
              simp only [HXM.out]
              rfl
            · rw [decide_eq_false (fun h => hm (hmem.1 h))]
              have HM := Lib.hid hm
              clear hm hmem
              go_wp2_with fail
              go_roundw
              case rel => exact ⟨0, rfl, by omega, fun _ => H2.out (by omega), fun _ => HM.out, HK3, hbel3, hz3⟩
              case measure => simp [intOf]
          · by_cases hk2 : k + 2 ≤ s.size
            · have hk1 : (k : Int) + 2 ≤ s.size := by omega
              have hxl : (s.extract k (k + 2)).data.toList = (s.data.toList.drop k).take 2 := cut_list s k 2
              have hxs : (s.extract k (k + 2)).data.toList.length = 2 := by rw [len_list, ByteArray.size_extract]; omega
              have hxm : (⟨((s.data.toList.drop k).take 2).toArray⟩ : ByteArray) = s.extract k (k + 2) := by rw [← hxl]
              have HXM := Lib.hid hxm
              have hmem : (s.extract k (k + 2)).data.toList ∈ signList ↔ (s.data.toList.drop k).take 2 ∈ two4 := by rw [sign_mem2 hxs, hxl]
              clear hxl hxs hxm
              go_wp2_with fail
              refine (r_Sign (s.extract k (k + 2)) _).mono ?_
              rintro e w3 ⟨rfl, B3⟩
              have k0 := below_block B3 (by omega) HK.out
              have HK3 := Lib.hid k0
              have u0 : w3.cell? ⟨w.heap.size, 0, none⟩ = some (.int .i64 0) := by rw [cell_of_block k0]; rfl
              have u1 : w3.cell? ⟨w.heap.size, 1, none⟩ = some (.string ⟨#[]⟩) := by rw [cell_of_block k0]; rfl
              have u2 : w3.cell? ⟨w.heap.size, 2, none⟩ = some (.int .i64 0) := by rw [cell_of_block k0]; rfl
              have u3 : w3.cell? ⟨w.heap.size, 3, none⟩ = some (.int .i64 0) := by rw [cell_of_block k0]; rfl
              have uf : ∀ j, w3.frozen? ⟨w.heap.size, j, none⟩ = false := frozen_of_block k0
              have hz3 : w.heap.size < w3.heap.size := by have := B3.size; omega
              have hbel3 : Below w.heap.size w w3 := bthen hbel2 B3
              clear k0 q0 q1 q2 q3 qf B3
              by_cases hm : (s.data.toList.drop k).take 2 ∈ two4
              · rw [decide_eq_true (hmem.2 hm)]
                have fin : r = .ok (⟨6, (s.data.toList.drop k).take 2, 0, 0⟩, 2) := by rw [← HR.out, signTok_eq, if_pos hm]
                have FIN := Lib.hid fin
                clear fin hm hmem
                go_wp2_with fail
                refine bodyPost_ret (v := .tuple #[.agg #[.int .i64 6, .string (s.extract k (k + 2)), .int .i64 0, .int .i64 k], .int .i64 (k + 2), .int .i64 0]) (by simp [results, Tryd.results25, go_sem, u0, u1, u2, u3, hz3, Nat.ne_of_lt hz3]) rfl ⟨((((hbel3.setCell (Nat.le_refl _) _).setCell (Nat.le_refl _) _).setCell (Nat.le_refl _) _).setCell (Nat.le_refl _) _), ?_⟩
                rw [FIN.out]
                simp only [HXM.out]
                rfl
              · rw [decide_eq_false (fun h => hm (hmem.1 h))]
                have HM := Lib.hid hm
                clear hm hmem
                go_wp2_with fail
                go_roundw
                case rel => exact ⟨1, rfl, by omega, fun _ => HM.out, (fun h => by omega), HK3, hbel3, hz3⟩
                case measure => simp [intOf]
            · have hk1 : ¬ (k : Int) + 2 ≤ s.size := by omega
              have HM : Hid (¬ (s.data.toList.drop k).take 2 ∈ two4) := fun h => by
                have h2 := two4_len _ h
                rw [List.length_take, List.length_drop, len_list] at h2
                omega
              go_wp2_with fail
              go_roundw
              case rel => exact ⟨1, rfl, by omega, fun _ => HM.out, (fun h => by omega), HK, hbel2, hz2⟩
              case measure => simp [intOf]
end Go.Proofs.YtkieeaajhomdoaaDoor
set_option linter.unusedVariables false
set_option linter.unusedSimpArgs false
namespace Go.Proofs.YtkieeaajhomdoaaDoor
open Go.RowKit Go.Maps Go.MapKept
set_option maxRecDepth 100000 in
set_option maxHeartbeats 4000000 in
theorem r_Lex (s : ByteArray) (w : World) (hs : s.size ≤ 140737488351232) (r : Except (Int × Int) (List Tok)) (hres : lex s.data.toList = r) :
    Calls Tryd.prog 12 #[.string s] w (AtLex r w) := by
  have HRES := Lib.hid hres
  clear hres
  obtain ⟨i0, hi, hz0, hz1, hz2⟩ := info_parts info_tok
  have HI := Lib.hid hi
  have HZ0 := Lib.hid hz0
  have HZ1 := Lib.hid hz1
  have HZ2 := Lib.hid hz2
  clear hi hz0 hz1 hz2
  by_cases hlong : (16384 : Int) < s.size
  · go_enter Tryd.func12, Tryd.ntmps12
    go_wp2_with fail
    go_ret3
    refine ⟨Below.refl _ _, ?_⟩
    rw [← HRES.out, lex, if_pos (by rw [len_list]; omega)]
    rfl
  · have hrest : Rest s.data.toList 0 [] r := by
      rw [← HRES.out, lex, if_neg (by rw [len_list]; omega)]
      rfl
    have HREST := Lib.hid hrest
    clear hrest
    go_enter Tryd.func12, Tryd.ntmps12
    go_wp2_with fail
    refine (r_skip s 0 _ hs (Nat.zero_le _)).mono ?_
    rintro e w1 ⟨k1, ok1, rfl, rfl, hk1, hk2, hok, hno⟩
    have HOK := Lib.hid hok
    have HNO := Lib.hid hno
    clear hok hno
    go_wp2_with fail
    go_loopw [5, 6, 7] (fun v i o wr => ∃ (k : Nat) (acc : List Tok) (A : Option Addr) (C : Nat) (ok : Bool), v = .slice A acc.length C ∧ k ≤ s.size ∧ i = .int .i64 k ∧ o = .bool ok ∧ acc.length ≤ 6000 ∧ Aside (wr.ownsRow w1.heap.size 34 4 (.slice A acc.length C) acc.length (toksCells acc)) ∧
        Hid (ok = true → Rest (s.data.toList.drop k) k acc r ∧ ∀ h : k < s.size, isBlank s[k] = false ∧ [40, 42].isPrefixOf (s[k] :: s.data.toList.drop (k + 1)) = false) ∧ Hid (ok = false → r = .error (k, 90)) ∧ Below w1.heap.size w1 wr) (fun _ i _ _ => s.size - (intOf i).toNat)
    case atStart => exact ⟨k1, [], none, 0, ok1, rfl, hk2, rfl, rfl, by simp, ⟨by simp [toksCells], .inl ⟨rfl, rfl⟩⟩, fun h => ⟨(HOK.out h).1 [] r (by simpa using HREST.out), (HOK.out h).2⟩, fun h => HNO.out h [] r (by simpa using HREST.out), Below.refl _ _⟩
    case round =>
      obtain ⟨k, acc, A, C, ok, rfl, hk, rfl, rfl, hacc, hown, HR, HN, hB⟩ := hrel
      cases ok with
      | false =>
        have hr := HN.out rfl
        have HRR := Lib.hid hr
        clear hr
        go_wp2_with fail
        go_ret3
        refine ⟨hB, ?_⟩
        rw [HRR.out]
        rfl
      | true =>
        obtain ⟨hrest, hnb⟩ := HR.out rfl
        by_cases hlt : k < s.size
        · have hki : (k : Int) < s.size := by omega
          obtain ⟨hbl, hp⟩ := hnb hlt
          have HDR := Lib.hid (drop_cons s k hlt)
          have HBL := Lib.hid hbl
          have HP := Lib.hid hp
          have hrl : Rest (s[k] :: s.data.toList.drop (k + 1)) k acc r := by rw [← HDR.out]; exact hrest
          have HRL := Lib.hid hrl
          have hlen : (s[k] :: s.data.toList.drop (k + 1)).length = s.size - k := by rw [← HDR.out, List.length_drop, len_list]
          have HLEN := Lib.hid hlen
          obtain ⟨r1, hr1⟩ : ∃ r1, tok (s[k] :: s.data.toList.drop (k + 1)) = r1 := ⟨_, rfl⟩
          have HT := Lib.hid hr1
          have hfine := tok_fine (s[k] :: s.data.toList.drop (k + 1))
          rw [hr1, TokFine, HLEN.out] at hfine
          obtain ⟨hf1, hf2⟩ := hfine
          clear hbl hp hrl hlen hrest hnb hr1
          go_wp2_with fail
          refine (r_one s k _ hs hlt r1 (by rw [HDR.out]; exact HT.out)).mono ?_
          rintro e w2 ⟨B2, hw⟩
          cases r1 with
          | error c =>
            have hc := hf2 c rfl
            have hr := HRL.out.bad HBL.out HP.out HT.out
            have HRR := Lib.hid hr
            have hc0 : (c == 0) = false := by rw [beq_eq_false_iff_ne]; omega
            have hc1 : (c != 0) = true := by rw [bne_iff_ne]; omega
            clear hr hc hf1 hf2
            obtain ⟨kk, y, mm, aa, nn, rfl⟩ := hw
            go_wp2_with fail
            go_ret3
            refine ⟨(bthen hB B2).alloc (bthen hB B2).size _, ?_⟩
            rw [HRR.out]
            rfl
          | ok tn =>
            obtain ⟨⟨tk, tx, tn, ta⟩, n⟩ := tn
            obtain ⟨hn1, hn2, hta⟩ := hf1 _ _ rfl
            clear hf1 hf2
            simp only at hw
            subst hw
            by_cases h6 : acc.length = 6000
            · have hr := HRL.out.many HBL.out HP.out HT.out h6
              have HRR := Lib.hid hr
              have h6b : ((acc.length : Int) == 6000) = true := by rw [beq_iff_eq]; omega
              clear hr h6
              go_wp2_with fail
              go_ret3
              refine ⟨(bthen hB B2).alloc (bthen hB B2).size _, ?_⟩
              rw [HRR.out]
              rfl
            · have hr := HRL.out.tok HBL.out HP.out HT.out h6
              rw [← HDR.out, List.drop_drop] at hr
              have HRR := Lib.hid hr
              have H6 := Lib.hid h6
              have h6b : ((acc.length : Int) == 6000) = false := by rw [beq_eq_false_iff_ne]; omega
              have hown2 : Aside (w2.ownsRow w1.heap.size 34 4 (.slice A acc.length C) acc.length (toksCells acc)) := ⟨own_below hown.out B2⟩
              have hb2 : w1.heap.size ≤ w2.heap.size := (bthen hB B2).size
              have hbel2 : Below w1.heap.size w1 w2 := bthen hB B2
              clear hr h6
              go_wp2_with (at_builtin; refine wpList_append_own _ rfl _ _ 23 rfl w1.heap.size 34 i0 _ 4 40 Tryd.underlying23 HI.out HZ0.out HZ1.out HZ2.out rfl (by decide) _ acc.length _ rfl ((hown2.out.alloc _).alloc _) ⟨w2.heap.size + 1, 0, none⟩ 1 1 (tokCells ⟨tk, tx, tn, k⟩) rfl rfl ?c1 ?c2 ?c3 ?c4 ?c5 ?_)
              case c1 => exact fun j u hu => new_cells (by simp) (by simpa [tokCells] using hu)
              case c2 => exact tok_one _
              case c3 => unfold maxLen; omega
              case c4 => omega
              case c5 => simp; omega
              intro v3 w3 hown3 hgrow hiff
              clear hiff
              have hbel3 : Below w1.heap.size w1 w3 := by
                refine Below.grown ?_ hgrow ?_ (fun b hb => own_base hown2.out b hb)
                · exact (hbel2.alloc hbel2.size _).alloc (by simp; omega) _
                · simp; omega
              obtain ⟨g, C3, rfl⟩ : ∃ g C3, v3 = .slice (some g) (acc.length + 1) C3 := by
                rcases hown3.2 with ⟨_, h⟩ | ⟨g, cap, cur, h, _⟩
                · omega
                · exact ⟨_, _, h⟩
              have hown4 := Aside.mk hown3
              clear hown3 hgrow hown2 hown
              go_wp2_with fail
              refine (r_skip s (k + n) _ hs (by omega)).mono ?_
              rintro e w4 ⟨k4, ok4, rfl, rfl, hk3, hk4, hok, hno⟩
              have HOK4 := Lib.hid hok
              have HNO4 := Lib.hid hno
              clear hok hno
              go_wp2_with fail
              go_roundw
              case rel =>
                have hl : (acc ++ [(⟨tk, tx, tn, k⟩ : Tok)]).length = acc.length + 1 := by simp
                refine ⟨k4, acc ++ [⟨tk, tx, tn, k⟩], some g, C3, ok4, by rw [hl], by omega, rfl, rfl, ?_, ?_, (fun h => ⟨(HOK4.out h).1 _ _ HRR.out, (HOK4.out h).2⟩), (fun h => HNO4.out h _ _ HRR.out), hbel3⟩
                · rw [hl]; have := H6.out; omega
                rw [hl, toksCells_snoc]
                exact hown4
              case measure => simp [intOf]; omega
        · have hki : ¬ (k : Int) < s.size := by omega
          have h0 := hrest
          rw [drop_nil s k (by omega)] at h0
          have HR0 := Lib.hid h0.nil
          clear hrest hnb h0
          go_wp2_with fail
          go_ret3
          refine ⟨hB, ?_⟩
          rw [HR0.out]
          exact ⟨_, _, rfl, Nat.le_refl _, hown.out⟩
end Go.Proofs.YtkieeaajhomdoaaDoor
set_option linter.unusedVariables false
set_option linter.unusedSimpArgs false
namespace Go.Proofs.YtkieeaajhomdoaaDoor
open Go.RowKit Go.Maps Go.MapKept
def sameT (p : Bool) (x y : Tok) : Bool := x.kind == y.kind && x.text == y.text && x.n == y.n && (!p || x.at_ == y.at_)
def sameL (p : Bool) : List Tok → List Tok → Bool
  | [], [] => true
  | x :: a, y :: b => sameT p x y && sameL p a b
  | _, _ => false
theorem sameL_len {p : Bool} : ∀ {a b : List Tok}, a.length ≠ b.length → sameL p a b = false
  | [], [], h => by simp at h
  | [], _ :: _, _ => rfl
  | _ :: _, [], _ => rfl
  | x :: a, y :: b, h => by simp only [sameL, sameL_len (p := p) (a := a) (b := b) (by simpa using h), Bool.and_false]
theorem sameL_at {p : Bool} : ∀ {a b : List Tok} (k : Nat) (ha : k < a.length) (hb : k < b.length), sameT p a[k] b[k] = false → sameL p a b = false
  | x :: a, y :: b, 0, _, _, h => by simp only [List.getElem_cons_zero] at h; simp [sameL, h]
  | x :: a, y :: b, k + 1, ha, hb, h => by
    simp only [List.getElem_cons_succ] at h
    simp only [sameL, sameL_at (p := p) k (by simpa using ha) (by simpa using hb) h, Bool.and_false]
theorem sameL_all {p : Bool} : ∀ {a b : List Tok}, a.length = b.length → (∀ k, (ha : k < a.length) → (hb : k < b.length) → sameT p a[k] b[k] = true) → sameL p a b = true
  | [], [], _, _ => rfl
  | [], _ :: _, h, _ => by simp at h
  | _ :: _, [], h, _ => by simp at h
  | x :: a, y :: b, h, hs => by
    have h0 := hs 0 (by simp) (by simp)
    simp only [List.getElem_cons_zero] at h0
    simp only [sameL, h0, Bool.true_and]
    exact sameL_all (by simpa using h) (fun k ha hb => by have := hs (k + 1) (by simpa using ha) (by simpa using hb); simpa using this)
theorem grow2 {w wr : World} (h : Below w.heap.size w wr) (x y : Obj) (z : Nat) : Below w.heap.size w (((wr.alloc x).alloc y).drewN z) := ((h.alloc h.size _).alloc (by have := h.size; simp; omega) _).trans (bdrew _ _ _)
theorem cell_keep {w w1 : World} (h : Below w.heap.size w w1) {a : Addr} {v : Value} (hc : w.cell? a = some v) : w1.cell? a = some v := (h.cell (World.block_lt_of_cell? w a hc)).trans hc
/-- A slice of tokens that is read. -/
def ReadsToks (w : World) (v : Value) (l : List Tok) : Prop := ∃ A c, v = .slice A l.length c ∧ l.length ≤ 3518437208780 ∧ (0 < l.length → ∃ b o, A = some ⟨b, o, none⟩ ∧ ∀ i, (h : i < l.length) →
  w.cell? ⟨b, o + i * 4, none⟩ = some (.int .i64 l[i].kind) ∧ w.cell? ⟨b, o + i * 4 + 1, none⟩ = some (.string ⟨l[i].text.toArray⟩) ∧ w.cell? ⟨b, o + i * 4 + 2, none⟩ = some (.int .i64 l[i].n) ∧ w.cell? ⟨b, o + i * 4 + 3, none⟩ = some (.int .i64 l[i].at_))
theorem ReadsToks.stays {w w' : World} {v : Value} {l : List Tok} (h : ReadsToks w v l) (hb : Below w.heap.size w w') : ReadsToks w' v l := by
  obtain ⟨A, c, rfl, hl, h⟩ := h
  refine ⟨A, c, rfl, hl, fun h0 => ?_⟩
  obtain ⟨b, o, rfl, hc⟩ := h h0
  refine ⟨b, o, rfl, fun i hi => ?_⟩
  obtain ⟨h1, h2, h3, h4⟩ := hc i hi
  exact ⟨(hb.cell (World.block_lt_of_cell? w _ h1)).trans h1, (hb.cell (World.block_lt_of_cell? w _ h2)).trans h2, (hb.cell (World.block_lt_of_cell? w _ h3)).trans h3, (hb.cell (World.block_lt_of_cell? w _ h4)).trans h4⟩
theorem toksCells_at : ∀ (l : List Tok) (i : Nat) (h : i < l.length) (j : Nat), j < 4 → (toksCells l)[i * 4 + j]? = (tokCells l[i])[j]?
  | x :: l, 0, _, j, hj => by
    show (tokCells x ++ toksCells l)[0 * 4 + j]? = _
    rw [List.getElem?_append_left (by simp [tokCells]; omega)]
    simp
  | x :: l, i + 1, h, j, hj => by
    show (tokCells x ++ toksCells l)[(i + 1) * 4 + j]? = _
    rw [List.getElem?_append_right (by simp [tokCells]; omega)]
    have := toksCells_at l i (by simpa using h) j hj
    rw [show (i + 1) * 4 + j - (tokCells x).length = i * 4 + j from by simp [tokCells]; omega]
    simpa using this
theorem own_reads {w : World} {base : Nat} {v : Value} {l : List Tok} (h : w.ownsRow base 34 4 v l.length (toksCells l)) (hl : l.length ≤ 3518437208780) : ReadsToks w v l := by
  obtain ⟨h1, ⟨rfl, h2⟩ | ⟨g, cap, cur, rfl, hg, hh, hn, hc, hs, ht⟩⟩ := h
  · exact ⟨none, 0, by rw [h2], hl, fun h => by omega⟩
  · refine ⟨_, cap, rfl, hl, fun _ => ⟨g, 0, rfl, fun i hi => ?_⟩⟩
    have key : ∀ j, j < 4 → w.cell? ⟨g, 0 + i * 4 + j, none⟩ = (tokCells l[i])[j]? := fun j hj => by
      rw [cell_of_block hh, ← toksCells_at l i hi j hj, ← ht, Nat.zero_add, List.getElem?_take_of_lt (by omega)]
      simp
    exact ⟨key 0 (by omega), key 1 (by omega), key 2 (by omega), key 3 (by omega)⟩
set_option maxRecDepth 100000 in
set_option maxHeartbeats 4000000 in
theorem r_Same (u v : Value) (a b : List Tok) (p : Bool) (w : World) (hu : ReadsToks w u a) (hv : ReadsToks w v b) :
    Calls Tryd.prog 13 #[u, v, .bool p] w (Gives (.bool (sameL p a b)) w) := by
  obtain ⟨A, ca, rfl, hla, hra⟩ := hu
  obtain ⟨B, cb, rfl, hlb, hrb⟩ := hv
  obtain ⟨r, hr⟩ : ∃ r, sameL p a b = r := ⟨_, rfl⟩
  rw [hr]
  have HR := Lib.hid hr
  have HA := Lib.hid hra
  have HB := Lib.hid hrb
  clear hr hra hrb
  by_cases hne : a.length = b.length
  · have hnb : ((a.length : Int) != (b.length : Int)) = false := by rw [bne_eq_false_iff_eq]; omega
    have HNE := Lib.hid hne
    have hlb2 : b.length ≤ a.length := by omega
    have hlb3 : a.length ≤ b.length := by omega
    clear hne
    go_enter Tryd.func13, Tryd.ntmps13
    go_wp2_with fail
    go_loopw [7] (fun i wr => ∃ k : Nat, k ≤ a.length ∧ i = .int .i64 k ∧ Hid (∀ j, (ha : j < a.length) → (hb : j < b.length) → j < k → sameT p a[j] b[j] = true) ∧ Below w.heap.size w wr) (fun i _ => a.length - (intOf i).toNat)
    case atStart => exact ⟨0, by omega, rfl, fun j _ _ h => by omega, Below.refl _ _⟩
    case round =>
      obtain ⟨k, hk, rfl, HS, hB⟩ := hrel
      by_cases hlt : k < a.length
      · have hki : (k : Int) < a.length := by omega
        have hkb : k < b.length := by omega
        have hkbi : (k : Int) < b.length := by omega
        obtain ⟨ba, oa, rfl, hca⟩ := HA.out (by omega)
        obtain ⟨bb, ob, rfl, hcb⟩ := HB.out (by omega)
        obtain ⟨a0, a1, a2, a3⟩ := hca k hlt
        obtain ⟨b0, b1, b2, b3⟩ := hcb k hkb
        obtain ⟨⟨xk, xt, xn, xa⟩, hx⟩ : ∃ x, a[k] = x := ⟨_, rfl⟩
        obtain ⟨⟨yk, yt, yn, ya⟩, hy⟩ : ∃ y, b[k] = y := ⟨_, rfl⟩
        rw [hx] at a0 a1 a2 a3
        rw [hy] at b0 b1 b2 b3
        have a0 := cell_keep hB a0
        have a1 := cell_keep hB a1
        have a2 := cell_keep hB a2
        have a3 := cell_keep hB a3
        have b0 := cell_keep hB b0
        have b1 := cell_keep hB b1
        have b2 := cell_keep hB b2
        have b3 := cell_keep hB b3
        have la := World.block_lt_of_cell? wr _ a0
        have lb := World.block_lt_of_cell? wr _ b0
        simp only at a0 a1 a2 a3 b0 b1 b2 b3 la lb
        have HX := Lib.hid hx
        have HY := Lib.hid hy
        clear hx hy hca hcb
        have hno : sameT p a[k] b[k] = false → r = false := fun h => by rw [← HR.out]; exact sameL_at k hlt hkb h
        have nextS : sameT p a[k] b[k] = true → Hid (∀ j, (ha : j < a.length) → (hb : j < b.length) → j < k + 1 → sameT p a[j] b[j] = true) := fun h j h1 h2 h3 => by
          by_cases e : j = k
          · subst e; exact h
          · exact HS.out j h1 h2 (by omega)
        have HNO := Lib.hid hno
        have NX := Lib.hid nextS
        clear hno nextS
        by_cases c1 : xk = yk
        · subst c1
          by_cases c2 : xt = yt
          · subst c2
            by_cases c3 : xn = yn
            · subst c3
              cases p with
              | false =>
                have HN := NX.out (by rw [HX.out, HY.out]; simp [sameT])
                go_wp2_with fail
                go_region
                all_goals go_wp2_with fail
                all_goals go_roundw
                all_goals first | exact ⟨k + 1, by omega, by go_num, HN, grow2 hB _ _ _⟩ | (simp [intOf]; omega)
              | true =>
                by_cases c4 : xa = ya
                · subst c4
                  have HN := NX.out (by rw [HX.out, HY.out]; simp [sameT])
                  go_wp2_with fail
                  go_region
                  all_goals go_wp2_with fail
                  all_goals go_roundw
                  all_goals first | exact ⟨k + 1, by omega, by go_num, HN, grow2 hB _ _ _⟩ | (simp [intOf]; omega)
                · have FIN := Lib.hid (HNO.out (by rw [HX.out, HY.out]; simp [sameT, c4]))
                  have c4b : (xa != ya) = true := by rw [bne_iff_ne]; exact c4
                  clear c4
                  go_wp2_with fail
                  go_region
                  all_goals go_wp2_with fail
                  all_goals go_ret
                  all_goals exact ⟨by rw [FIN.out]; rfl, grow2 hB _ _ _⟩
            · have FIN := Lib.hid (HNO.out (by rw [HX.out, HY.out]; simp [sameT, c3]))
              have c3b : (xn != yn) = true := by rw [bne_iff_ne]; exact c3
              clear c3
              go_wp2_with fail
              go_region
              all_goals go_wp2_with fail
              all_goals go_ret
              all_goals exact ⟨by rw [FIN.out]; rfl, grow2 hB _ _ _⟩
          · have FIN := Lib.hid (HNO.out (by rw [HX.out, HY.out]; simp [sameT, c2]))
            have c2b : (xt != yt) = true := by rw [bne_iff_ne]; exact c2
            have c2c : (xt == yt) = false := by rw [beq_eq_false_iff_ne]; exact c2
            clear c2
            go_wp2_with fail
            go_region
            all_goals go_wp2_with fail
            all_goals go_ret
            all_goals exact ⟨by rw [FIN.out]; rfl, grow2 hB _ _ _⟩
        · have FIN := Lib.hid (HNO.out (by rw [HX.out, HY.out]; simp [sameT, c1]))
          have c1b : (xk != yk) = true := by rw [bne_iff_ne]; exact c1
          clear c1
          go_wp2_with fail
          go_region
          all_goals go_wp2_with fail
          all_goals go_ret
          all_goals exact ⟨by rw [FIN.out]; rfl, grow2 hB _ _ _⟩
      · have hki : ¬ (k : Int) < a.length := by omega
        have FIN : Hid (r = true) := by show _ = _; rw [← HR.out]; exact sameL_all HNE.out (fun j h1 h2 => HS.out j h1 h2 (by omega))
        go_wp2_with fail
        go_ret
        exact ⟨by rw [FIN.out]; rfl, hB⟩
  · have hnb : ((a.length : Int) != (b.length : Int)) = true := by rw [bne_iff_ne]; omega
    have FIN : Hid (r = false) := by show _ = _; rw [← HR.out]; exact sameL_len hne
    clear hne
    go_enter Tryd.func13, Tryd.ntmps13
    go_wp2_with fail
    go_ret
    exact ⟨by rw [FIN.out]; rfl, Below.refl _ _⟩
end Go.Proofs.YtkieeaajhomdoaaDoor
set_option linter.unusedVariables false
set_option linter.unusedSimpArgs false
namespace Go.Proofs.YtkieeaajhomdoaaDoor
open Go.RowKit Go.Maps Go.MapKept
theorem sameL_refl (p : Bool) : ∀ l : List Tok, sameL p l l = true
  | [] => rfl
  | x :: l => by simp only [sameL, sameL_refl p l, Bool.and_true]; simp [sameT]
theorem lexF_len : ∀ (f : Nat) (l : List UInt8) (k : Nat) (acc t : List Tok), acc.length ≤ 6000 → lexF f l k acc = .ok t → t.length ≤ 6000
  | 0, l, k, acc, t, h, e => by cases e
  | f + 1, [], k, acc, t, h, e => by simp only [lexF, Except.ok.injEq] at e; subst e; exact h
  | f + 1, c :: r, k, acc, t, h, e => by
    unfold lexF at e
    simp only at e
    split at e
    · exact lexF_len f _ _ _ _ h e
    · split at e
      · split at e
        · cases e
        · exact lexF_len f _ _ _ _ h e
      · split at e
        · cases e
        · split at e
          · cases e
          · rename_i h6
            exact lexF_len f _ _ _ _ (by simp only [List.length_append, List.length_cons, List.length_nil]; omega) e
theorem lex_len {l : List UInt8} {t : List Tok} (h : lex l = .ok t) : t.length ≤ 6000 := by
  unfold lex at h
  split at h
  · cases h
  · exact lexF_len _ _ _ _ _ (by simp) h
def lexOut : Except (Int × Int) (List Tok) → List Tok × Int × Int
  | .ok l => (l, 0, 0)
  | .error (a, c) => ([], a, c)
theorem AtLex.out {s : List UInt8} {r : Except (Int × Int) (List Tok)} {w w' : World} {e : Ending} (hr : lex s = r) (h : AtLex r w e w') :
    ∃ A C, e = .returned (.tuple #[.slice A (lexOut r).1.length C, .int .i64 (lexOut r).2.1, .int .i64 (lexOut r).2.2]) ∧ ReadsToks w' (.slice A (lexOut r).1.length C) (lexOut r).1 ∧ Below w.heap.size w w' := by
  obtain ⟨hB, h⟩ := h
  cases r with
  | ok l =>
    obtain ⟨v, base, rfl, h1, h2⟩ := h
    have hl := lex_len hr
    have hrd := own_reads h2 (by omega)
    obtain ⟨A, C, hv, h5⟩ := hrd
    subst hv
    exact ⟨A, C, rfl, ⟨A, C, rfl, h5⟩, hB⟩
  | error ac =>
    obtain ⟨a, c⟩ := ac
    exact ⟨none, 0, h, ⟨none, 0, rfl, by simp [lexOut], fun h => by simp [lexOut] at h⟩, hB⟩
def wake1 : List UInt8 := [120, 58, 61, 48, 70, 70, 72, 59, 40, 42, 32, 97, 32, 40, 42, 32, 98, 32, 42, 41, 32, 42, 41]
def wake2 : List UInt8 := [97, 32, 49, 46, 53]
def wakeToks : List Tok := [⟨1, [120], 0, 0⟩, ⟨6, [58, 61], 0, 1⟩, ⟨3, [], 255, 3⟩, ⟨6, [59], 0, 7⟩]
theorem lex_wake1 : lex wake1 = .ok wakeToks := by kernel_rfl
theorem lex_wake2 : lex wake2 = .error (2, 90) := by kernel_rfl
set_option maxRecDepth 100000 in
set_option maxHeartbeats 1600000 in
theorem wakes9_any (w : World) (hv : Vars w) : Calls Tryd.prog 10 #[] w (Gives (.bool true) w) := by
  have HV := Lib.hid hv
  clear hv
  go_enter Tryd.func10, Tryd.ntmps10
  go_wp2_with fail
  refine (Lex_any ⟨wake1.toArray⟩ _ HV.out (by decide) _ lex_wake1).mono ?_
  rintro e w1 h1
  obtain ⟨A, C, rfl, hr, hB⟩ := h1.out lex_wake1
  obtain ⟨A', C', e, hl, hc⟩ := hr
  simp only [Value.slice.injEq] at e
  obtain ⟨rfl, _, rfl⟩ := e
  obtain ⟨b, o, hA, hd⟩ := hc (by decide)
  subst hA
  obtain ⟨_, _, h255, _⟩ := hd 2 (by decide)
  have H255 : Hid (w1.cell? ⟨b, o + 2 * 4 + 2, none⟩ = some (.int .i64 255)) := h255
  clear hd hc h255 hl h1
  rw [show (lexOut (.ok wakeToks)).1.length = 4 from rfl, show (lexOut (.ok wakeToks)).2.1 = 0 from rfl, show (lexOut (.ok wakeToks)).2.2 = 0 from rfl]
  go_wp2_with fail
  refine (Lex_any ⟨wake2.toArray⟩ _ (HV.out.stays hB) (by decide) _ lex_wake2).mono ?_
  rintro e w2 h2
  obtain ⟨hB2, h3⟩ := h2
  simp only at h3
  subst h3
  have h255 : w2.cell? ⟨b, o + 8 + 2, none⟩ = some (.int .i64 255) := cell_keep hB2 H255.out
  go_wp2_with fail
  go_ret
  exact ⟨rfl, bthen hB hB2⟩
set_option maxRecDepth 100000 in
set_option maxHeartbeats 1600000 in
theorem TokenReads_any (s : ByteArray) (w : World) (hv : Vars w) (hs : s.size ≤ 140737488351232) : Calls Tryd.prog 3 #[.string s] w (Gives (.bool true) w) := by
  have HV := Lib.hid hv
  clear hv
  by_cases hlong : (20000 : Int) < s.size
  · go_enter Tryd.func3, Tryd.ntmps3
    go_wp2_with fail
    refine (wakes9_any _ HV.out).mono ?_
    rintro e w1 ⟨rfl, hB⟩
    go_wp2_with fail
    go_ret
    exact ⟨rfl, hB⟩
  · obtain ⟨r, hr⟩ : ∃ r, lex s.data.toList = r := ⟨_, rfl⟩
    have HR := Lib.hid hr
    clear hr
    obtain ⟨toks, a1, c1, ho⟩ : ∃ toks a1 c1, lexOut r = (toks, a1, c1) := ⟨_, _, _, rfl⟩
    go_enter Tryd.func3, Tryd.ntmps3
    go_wp2_with fail
    refine (Lex_any s _ HV.out hs r HR.out).mono ?_
    intro e w1 h1
    obtain ⟨A, C, rfl, hr1, hB1⟩ := h1.out HR.out
    rw [ho] at hr1
    rw [ho]
    have HR1 := Lib.hid hr1
    have HO := Lib.hid ho
    clear h1 hr1 ho
    go_wp2_with fail
    refine (r_Lex s _ hs r HR.out).mono ?_
    intro e w2 h2
    obtain ⟨A2, C2, rfl, hr2, hB2⟩ := h2.out HR.out
    rw [HO.out] at hr2
    rw [HO.out]
    have HR2 := Lib.hid hr2
    clear h2 hr2
    go_wp2_with fail
    refine (r_Same _ _ toks toks true _ (HR1.out.stays hB2) HR2.out).mono ?_
    rw [sameL_refl]
    rintro e w3 ⟨rfl, hB3⟩
    go_wp2_with fail
    refine (wakes9_any _ (HV.out.stays (bthen (bthen hB1 hB2) hB3))).mono ?_
    rintro e w4 ⟨rfl, hB4⟩
    go_wp2_with fail
    go_ret
    exact ⟨rfl, bthen (bthen (bthen hB1 hB2) hB3) hB4⟩
end Go.Proofs.YtkieeaajhomdoaaDoor
set_option linter.unusedVariables false
set_option linter.unusedSimpArgs false
namespace Go.Proofs.YtkieeaajhomdoaaDoor
open Go.ChangeShapes Go.WideShapes Go.ChangeAt Go.RowKit
open Go.ChangeMaps (open_string shut_string)
theorem tabIs_of_reads {P : Program} {W : World} {name : String} {k : IntKind} {zs : List Int} {g : Nat} {t e : TypeId} {n : Nat}
    (hg : P.globalNamed name = some g) (hty : (P.globals[g]?).map (·.type) = some t) (ht : P.underlying t = some (.array n e)) (he : P.underlying e = some (.int k)) (hce : P.cellsOf e = 1) (hct : P.cellsOf t = n)
    (h : Lib.VarReads P W name (Lib.tabData k zs)) : Lib.TabIs P W name k zs := by
  obtain ⟨g', t', cs, fuel, p, hg', ht', hvar, hd⟩ := h
  obtain rfl := Option.some.inj (hg.symm.trans hg')
  obtain rfl := Option.some.inj (hty.symm.trans ht')
  unfold Lib.TabIs
  rw [hvar, ← Lib.cells_of_tab ht he hce hct hd]
theorem iface_of_reads {P : Program} {W : World} {name : String} {d : DataW Unit} {g : Nat} {t : TypeId} {ms : Array (String × TypeId)}
    (hg : P.globalNamed name = some g) (hty : (P.globals[g]?).map (·.type) = some t) (ht : P.underlying t = some (.interface ms))
    (h : Lib.VarReads P W name d) : ∃ ev, W.cell? ⟨g, 0, none⟩ = some ev ∧ (ev = .nilIface ∨ ∃ te pe, ev = .iface te pe) := by
  obtain ⟨g', t', cs, fuel, p, hg', ht', hvar, hd⟩ := h
  obtain rfl := Option.some.inj (hg.symm.trans hg')
  obtain rfl := Option.some.inj (hty.symm.trans ht')
  have key : ∃ ev, cs = #[ev] ∧ (ev = .nilIface ∨ ∃ te pe, ev = .iface te pe) := by
    cases fuel with
    | zero => simp [DataW.trod] at hd
    | succ n =>
      obtain ⟨l⟩ := cs
      match l, hd with
      | [], hd => simp [DataW.trod, ht] at hd
      | [v], hd => cases v <;> simp [DataW.trod, ht] at hd <;> simp
      | _ :: _ :: _, hd => simp [DataW.trod, ht] at hd
  obtain ⟨ev, rfl, hev⟩ := key
  exact ⟨ev, by have := World.var?_cell hg hvar 0; simpa using this, hev⟩
end Go.Proofs.YtkieeaajhomdoaaDoor
set_option linter.unusedVariables false
set_option linter.unusedSimpArgs false
namespace Go.Proofs.YtkieeaajhomdoaaDoor
theorem run_join {p : UInt8 → Bool} (hp : p 10 = false) (t : List UInt8) : ∀ l : List UInt8, run p (l ++ 10 :: t) = run p l
  | [] => by rw [List.nil_append, run_cons_neg hp]; rfl
  | c :: l => by
    cases hc : p c with
    | true => rw [List.cons_append, run_cons_pos hc, run_cons_pos hc, run_join hp t l]
    | false => rw [List.cons_append, run_cons_neg hc, run_cons_neg hc]
theorem get_join {c : UInt8} (hc : c ≠ 10) (t l : List UInt8) {n : Nat} (hn : n ≤ l.length) : ((l ++ 10 :: t)[n]? = some c) ↔ l[n]? = some c := by
  rcases Nat.lt_or_ge n l.length with h | h
  · rw [List.getElem?_append_left h]
  · have : n = l.length := by omega
    subst this
    rw [List.getElem?_append_right (Nat.le_refl _), List.getElem?_eq_none (Nat.le_refl l.length)]
    simp [hc.symm]
theorem num_join (t l : List UInt8) : numTok (l ++ 10 :: t) = numTok l := by
  have hr := run_join (p := isHex) (by decide) t l
  have hle := run_le isHex l
  have htk : (l ++ 10 :: t).take (run isHex l) = l.take (run isHex l) := List.take_append_of_le_length hle
  unfold numTok
  simp only [hr, htk]
  have e72 := get_join (c := 72) (by decide) t l hle
  have e88 := get_join (c := 88) (by decide) t l hle
  have e46 : ((l ++ 10 :: t)[run isHex l]? = some 46 ∧ (l ++ 10 :: t)[run isHex l + 1]? ≠ some 46) ↔ (l[run isHex l]? = some 46 ∧ l[run isHex l + 1]? ≠ some 46) := by
    rw [get_join (c := 46) (by decide) t l hle]
    constructor
    · rintro ⟨h1, h2⟩
      exact ⟨h1, fun h => h2 ((get_join (by decide) t l (by have := lt_of_get h1; omega)).2 h)⟩
    · rintro ⟨h1, h2⟩
      exact ⟨h1, fun h => h2 ((get_join (by decide) t l (by have := lt_of_get h1; omega)).1 h)⟩
  simp only [e72, e88, e46]
theorem text_join (t l : List UInt8) : textTok (l ++ 10 :: t) = textTok l := by
  have hr := run_join (p := isPlain) (by decide) t l
  have hle := run_le isPlain l
  have htk : (l ++ 10 :: t).take (run isPlain l) = l.take (run isPlain l) := List.take_append_of_le_length hle
  unfold textTok
  simp only [hr, htk, get_join (c := 34) (by decide) t l hle]
theorem prefix_join (t : List UInt8) : ∀ (w l : List UInt8), (10 : UInt8) ∉ w → w.isPrefixOf (l ++ 10 :: t) = w.isPrefixOf l
  | [], _, _ => by simp [List.isPrefixOf]
  | x :: w, [], h => by
    have : (x == 10) = false := by rw [beq_eq_false_iff_ne]; intro e; exact h (by simp [e])
    simp [List.isPrefixOf, this]
  | x :: w, c :: l, h => by
    simp only [List.cons_append, List.isPrefixOf]
    rw [prefix_join t w l (fun h2 => h (by simp [h2]))]
theorem sign_no10 : ∀ w ∈ signList, (10 : UInt8) ∉ w := by decide
theorem find_congr {α : Type} {p q : α → Bool} : ∀ (l : List α), (∀ x ∈ l, p x = q x) → l.find? p = l.find? q
  | [], _ => rfl
  | x :: l, h => by
    rw [List.find?_cons, List.find?_cons, h x (by simp), find_congr l (fun y hy => h y (by simp [hy]))]
theorem sign_join (t l : List UInt8) : signTok (l ++ 10 :: t) = signTok l := by
  unfold signTok
  rw [find_congr signList (fun w hw => prefix_join t w l (sign_no10 w hw))]
theorem tok_join (t : List UInt8) (c : UInt8) (l : List UInt8) : tok (c :: (l ++ 10 :: t)) = tok (c :: l) := by
  have hr : run isInside (c :: (l ++ 10 :: t)) = run isInside (c :: l) := run_join (p := isInside) (by decide) t (c :: l)
  have htk : (c :: (l ++ 10 :: t)).take (run isInside (c :: l)) = (c :: l).take (run isInside (c :: l)) := List.take_append_of_le_length (l₁ := c :: l) (l₂ := 10 :: t) (run_le _ _)
  have hn : numTok (c :: (l ++ 10 :: t)) = numTok (c :: l) := num_join t (c :: l)
  have hs : signTok (c :: (l ++ 10 :: t)) = signTok (c :: l) := sign_join t (c :: l)
  have hx := text_join t l
  unfold tok
  simp only [hr, htk, hn, hs, hx]
theorem cmt_other {c : UInt8} {r : List UInt8} (d : Int) (h1 : ¬ (c = 40 ∧ r.head? = some 42)) (h2 : ¬ (c = 42 ∧ r.head? = some 41)) : cmt (c :: r) d = (cmt r d).map (1 + ·) := by
  rw [cmt.eq_def]
  split
  · rename_i e
    simp only [List.cons.injEq] at e
    obtain ⟨rfl, rfl⟩ := e
    exact absurd ⟨rfl, rfl⟩ h1
  · rename_i e
    simp only [List.cons.injEq] at e
    obtain ⟨rfl, rfl⟩ := e
    exact absurd ⟨rfl, rfl⟩ h2
  · rename_i e
    simp only [List.cons.injEq] at e
    obtain ⟨rfl, rfl⟩ := e
    rfl
  · rename_i e; simp at e
theorem cmt_join (t : List UInt8) : ∀ (l : List UInt8) (d : Int) (n : Nat), cmt l d = some n → cmt (l ++ t) d = some n
  | [], d, n, h => by simp [cmt] at h
  | [c], d, n, h => by have := cmt_bound _ _ _ h; simp at this; omega
  | c :: c2 :: r, d, n, h => by
    by_cases h1 : c = 40 ∧ c2 = 42
    · obtain ⟨rfl, rfl⟩ := h1
      have h : (cmt r (d + 1)).map (2 + ·) = some n := h
      obtain ⟨m, hm, rfl⟩ := Option.map_eq_some_iff.1 h
      show (cmt (r ++ t) (d + 1)).map (2 + ·) = _
      rw [cmt_join t _ _ _ hm]; rfl
    · by_cases h2 : c = 42 ∧ c2 = 41
      · obtain ⟨rfl, rfl⟩ := h2
        have h : (if d - 1 = 0 then some 2 else (cmt r (d - 1)).map (2 + ·)) = some n := h
        show (if d - 1 = 0 then some 2 else (cmt (r ++ t) (d - 1)).map (2 + ·)) = _
        split at h
        · rename_i h0; rw [if_pos h0]; exact h
        · rename_i h0
          rw [if_neg h0]
          obtain ⟨m, hm, rfl⟩ := Option.map_eq_some_iff.1 h
          rw [cmt_join t _ _ _ hm]; rfl
      · rw [cmt_other d (by simpa using h1) (by simpa using h2)] at h
        obtain ⟨m, hm, rfl⟩ := Option.map_eq_some_iff.1 h
        show cmt (c :: (c2 :: (r ++ t))) d = _
        rw [cmt_other d (by simpa using h1) (by simpa using h2)]
        have ih : cmt (c2 :: (r ++ t)) d = some m := cmt_join t _ _ _ hm
        rw [ih]; rfl
theorem drop_join (t : List UInt8) (c : UInt8) (r : List UInt8) {n : Nat} (h : n ≤ (c :: r).length) : (c :: (r ++ 10 :: t)).drop n = (c :: r).drop n ++ 10 :: t := by
  have := List.drop_append_of_le_length (l₁ := c :: r) (l₂ := 10 :: t) h
  simpa only [List.cons_append] using this
/-- What is read of the first text with the second behind it. -/
theorem rest_join (t : List UInt8) (N : Nat) : ∀ (l : List UInt8), l.length = N → ∀ (k : Nat) (acc : List Tok) (R R' : Except (Int × Int) (List Tok)), Rest l k acc R → Rest (l ++ 10 :: t) k acc R' →
    (∃ toks, R = .ok toks ∧ Rest (10 :: t) (k + l.length) toks R') ∨ ∃ p e, R = .error (p, e) ∧ (e = 90 ∨ R' = R) := by
  induction N using Nat.strongRecOn with
  | _ N ih =>
    intro l hl k acc R R' h h'
    match l with
    | [] => exact .inl ⟨acc, h.nil, h'⟩
    | c :: r =>
      simp only [List.cons_append] at h'
      have hpre : [40, 42].isPrefixOf (c :: (r ++ 10 :: t)) = [40, 42].isPrefixOf (c :: r) := prefix_join t [40, 42] (c :: r) (by decide)
      simp only [List.length_cons] at hl ⊢
      cases hb : isBlank c with
      | true =>
        have := ih r.length (by omega) r rfl _ _ _ _ (h.blank hb) (h'.blank hb)
        rw [show k + (r.length + 1) = k + 1 + r.length by omega]
        exact this
      | false =>
        cases hp : [40, 42].isPrefixOf (c :: r) with
        | true =>
          rw [hp] at hpre
          cases hc : cmt (c :: r) 0 with
          | none => exact .inr ⟨_, _, h.cmtBad hb hp hc, .inl rfl⟩
          | some m =>
            have hm := cmt_bound _ _ _ hc
            have hc' : cmt (c :: (r ++ 10 :: t)) 0 = some m := cmt_join (10 :: t) _ _ _ hc
            have h2 := h'.cmtOk hb hpre hc'
            rw [drop_join t c r hm.2] at h2
            have e : ((c :: r).drop m).length = r.length + 1 - m := by rw [List.length_drop, List.length_cons]
            simp only [List.length_cons] at hm
            have := ih _ (by rw [e]; omega) _ rfl _ _ _ _ (h.cmtOk hb hp hc) h2
            rw [e, show k + m + (r.length + 1 - m) = k + (r.length + 1) by omega] at this
            exact this
        | false =>
          rw [hp] at hpre
          have ht' := tok_join t c r
          cases ht : tok (c :: r) with
          | error e =>
            rw [ht] at ht'
            exact .inr ⟨_, _, h.bad hb hp ht, .inr (by rw [h.bad hb hp ht, h'.bad hb hpre ht'])⟩
          | ok tn =>
            obtain ⟨x, m⟩ := tn
            rw [ht] at ht'
            have hm := (tok_fine (c :: r)).1 x m ht
            by_cases h6 : acc.length = 6000
            · exact .inr ⟨_, _, h.many hb hp ht h6, .inr (by rw [h.many hb hp ht h6, h'.many hb hpre ht' h6])⟩
            · have h2 := h'.tok hb hpre ht' h6
              rw [drop_join t c r hm.2.1] at h2
              have e : ((c :: r).drop m).length = r.length + 1 - m := by rw [List.length_drop, List.length_cons]
              simp only [List.length_cons] at hm
              have := ih _ (by rw [e]; omega) _ rfl _ _ _ _ (h.tok hb hp ht h6) h2
              rw [e, show k + m + (r.length + 1 - m) = k + (r.length + 1) by omega] at this
              exact this
def shift (d : Nat) (x : Tok) : Tok := { x with at_ := x.at_ + d }
/-- The same text at another place, behind other tokens. -/
theorem rest_shift (d : Nat) (A : List Tok) (N : Nat) : ∀ (l : List UInt8), l.length = N → ∀ (k : Nat) (acc : List Tok) (R R' : Except (Int × Int) (List Tok)), A.length + acc.length + l.length < 6000 → Rest l k acc R → Rest l (k + d) (A ++ acc.map (shift d)) R' →
    (∃ toks, R = .ok toks ∧ R' = .ok (A ++ toks.map (shift d)) ∧ toks.length ≤ acc.length + l.length) ∨ ∃ p e, R = .error (p, e) ∧ R' = .error (p + d, e) := by
  induction N using Nat.strongRecOn with
  | _ N ih =>
    intro l hl k acc R R' hz h h'
    match l with
    | [] => exact .inl ⟨acc, h.nil, h'.nil, by simp⟩
    | c :: r =>
      simp only [List.length_cons] at hl hz ⊢
      cases hb : isBlank c with
      | true =>
        have h2 := h'.blank hb
        rw [show k + d + 1 = k + 1 + d by omega] at h2
        have := ih r.length (by omega) r rfl _ _ _ _ (by omega) (h.blank hb) h2
        rcases this with ⟨toks, h1, h2, h3⟩ | this
        · exact .inl ⟨toks, h1, h2, by omega⟩
        · exact .inr this
      | false =>
        cases hp : [40, 42].isPrefixOf (c :: r) with
        | true =>
          cases hc : cmt (c :: r) 0 with
          | none => exact .inr ⟨_, _, h.cmtBad hb hp hc, by rw [h'.cmtBad hb hp hc]; simp only [Int.natCast_add]⟩
          | some m =>
            have hm := cmt_bound _ _ _ hc
            have h2 := h'.cmtOk hb hp hc
            rw [show k + d + m = k + m + d by omega] at h2
            have e : ((c :: r).drop m).length = r.length + 1 - m := by rw [List.length_drop, List.length_cons]
            simp only [List.length_cons] at hm
            have := ih _ (by rw [e]; omega) _ rfl _ _ _ _ (by rw [e]; omega) (h.cmtOk hb hp hc) h2
            rcases this with ⟨toks, h1, h2, h3⟩ | this
            · exact .inl ⟨toks, h1, h2, by rw [e] at h3; omega⟩
            · exact .inr this
        | false =>
          cases ht : tok (c :: r) with
          | error e => exact .inr ⟨_, _, h.bad hb hp ht, by rw [h'.bad hb hp ht]; simp only [Int.natCast_add]⟩
          | ok tn =>
            obtain ⟨x, m⟩ := tn
            have hm := (tok_fine (c :: r)).1 x m ht
            have h6 : ¬ acc.length = 6000 := by omega
            have h6' : ¬ (A ++ acc.map (shift d)).length = 6000 := by rw [List.length_append, List.length_map]; omega
            have h2 := h'.tok hb hp ht h6'
            rw [show k + d + m = k + m + d by omega, List.append_assoc, show acc.map (shift d) ++ [{ x with at_ := ((k + d : Nat) : Int) }] = (acc ++ [{ x with at_ := (k : Int) }]).map (shift d) by
              rw [List.map_append]; simp only [List.map_cons, List.map_nil, shift, Int.natCast_add]] at h2
            have e : ((c :: r).drop m).length = r.length + 1 - m := by rw [List.length_drop, List.length_cons]
            simp only [List.length_cons] at hm
            have := ih _ (by rw [e]; omega) _ rfl _ _ _ _ (by rw [e, List.length_append]; simp only [List.length_cons, List.length_nil]; omega) (h.tok hb hp ht h6) h2
            rcases this with ⟨toks, h1, h2, h3⟩ | this
            · exact .inl ⟨toks, h1, h2, by rw [e, List.length_append] at h3; simp only [List.length_cons, List.length_nil] at h3; omega⟩
            · exact .inr this
theorem lex_rest {l : List UInt8} (h : l.length ≤ 16384) : Rest l 0 [] (lex l) := by
  unfold Rest lex
  rw [if_neg (by omega)]
/-- Two texts with a line's end between. -/
theorem lex_join (s t : List UInt8) (hst : s.length + t.length ≤ 4000) :
    (∃ p e, lex s = .error (p, e) ∧ (e = 90 ∨ lex (s ++ 10 :: t) = lex s)) ∨
    ∃ l, lex s = .ok l ∧ l.length ≤ s.length ∧ ((∃ p e, lex t = .error (p, e) ∧ lex (s ++ 10 :: t) = .error (p + (s.length + 1 : Nat), e)) ∨
      ∃ k, lex t = .ok k ∧ k.length ≤ t.length ∧ lex (s ++ 10 :: t) = .ok (l ++ k.map (shift (s.length + 1)))) := by
  have hs := lex_rest (l := s) (by omega)
  have ht := lex_rest (l := t) (by omega)
  have hj := lex_rest (l := s ++ 10 :: t) (by rw [List.length_append, List.length_cons]; omega)
  have hs2 : (∃ toks, lex s = .ok toks ∧ lex s = .ok ([] ++ toks.map (shift 0)) ∧ toks.length ≤ 0 + s.length) ∨ ∃ p e, lex s = .error (p, e) ∧ lex s = .error (p + (0 : Nat), e) :=
    rest_shift 0 [] s.length s rfl 0 [] _ _ (by simp only [List.length_nil]; omega) hs hs
  rcases rest_join t s.length s rfl _ _ _ _ hs hj with ⟨l, hl, hr⟩ | h
  · have hll : l.length ≤ s.length := by
      rcases hs2 with ⟨l2, h1, _, h3⟩ | ⟨p, e, h1, _⟩
      · rw [hl] at h1
        simp only [Except.ok.injEq] at h1
        subst h1
        omega
      · rw [hl] at h1; cases h1
    refine .inr ⟨l, hl, hll, ?_⟩
    have h2 := hr.blank (by decide)
    rcases rest_shift (s.length + 1) l t.length t rfl 0 [] _ (lex (s ++ 10 :: t)) (by simp only [List.length_nil]; omega) ht (by simpa [Nat.add_assoc] using h2) with ⟨k, h3, h4, h5⟩ | ⟨p, e, h3, h4⟩
    · exact .inr ⟨k, h3, by simpa using h5, h4⟩
    · exact .inl ⟨p, e, h3, h4⟩
  · obtain ⟨p, e, h1, h2⟩ := h
    exact .inl ⟨p, e, h1, h2⟩
theorem rest_at (B : Nat) (N : Nat) : ∀ (l : List UInt8), l.length = N → ∀ (k : Nat) (acc : List Tok) (toks : List Tok), k + l.length ≤ B → (∀ x ∈ acc, 0 ≤ x.at_ ∧ x.at_ < B) → Rest l k acc (.ok toks) → ∀ x ∈ toks, 0 ≤ x.at_ ∧ x.at_ < B := by
  induction N using Nat.strongRecOn with
  | _ N ih =>
    intro l hl k acc toks hB hacc h
    match l with
    | [] =>
      have := h.nil
      simp only [Except.ok.injEq] at this
      subst this
      exact hacc
    | c :: r =>
      simp only [List.length_cons] at hl hB
      cases hb : isBlank c with
      | true => exact ih r.length (by omega) r rfl _ _ _ (by omega) hacc (h.blank hb)
      | false =>
        cases hp : [40, 42].isPrefixOf (c :: r) with
        | true =>
          cases hc : cmt (c :: r) 0 with
          | none => have := h.cmtBad hb hp hc; cases this
          | some m =>
            have hm := cmt_bound _ _ _ hc
            have e : ((c :: r).drop m).length = r.length + 1 - m := by rw [List.length_drop, List.length_cons]
            simp only [List.length_cons] at hm
            exact ih _ (by rw [e]; omega) _ rfl _ _ _ (by rw [e]; omega) hacc (h.cmtOk hb hp hc)
        | false =>
          cases ht : tok (c :: r) with
          | error e => have := h.bad hb hp ht; cases this
          | ok tn =>
            obtain ⟨x, m⟩ := tn
            have hm := (tok_fine (c :: r)).1 x m ht
            by_cases h6 : acc.length = 6000
            · have := h.many hb hp ht h6; cases this
            · have e : ((c :: r).drop m).length = r.length + 1 - m := by rw [List.length_drop, List.length_cons]
              simp only [List.length_cons] at hm
              refine ih _ (by rw [e]; omega) _ rfl _ _ _ (by rw [e]; omega) ?_ (h.tok hb hp ht h6)
              intro y hy
              rcases List.mem_append.1 hy with hy | hy
              · exact hacc y hy
              · simp only [List.mem_cons, List.not_mem_nil, or_false] at hy
                subst hy
                show 0 ≤ (k : Int) ∧ (k : Int) < B
                omega
theorem lex_at {l : List UInt8} {toks : List Tok} (h : lex l = .ok toks) (i : Nat) (hi : i < toks.length) : 0 ≤ toks[i].at_ ∧ toks[i].at_ < l.length := by
  have hl : l.length ≤ 16384 := by
    unfold lex at h
    split at h
    · cases h
    · omega
  have hr := lex_rest hl
  rw [h] at hr
  exact rest_at l.length _ l rfl 0 [] toks (by omega) (fun x hx => by simp at hx) hr _ (List.getElem_mem hi)
theorem lexF_err_fine : ∀ (f : Nat) (l : List UInt8) (k : Nat) (acc : List Tok) (p e : Int), l.length < f → lexF f l k acc = .error (p, e) → (e = 2 ∨ e = 3 ∨ e = 90 ∨ e = 91) ∧ (k : Int) ≤ p ∧ p < k + l.length
  | 0, l, k, acc, p, e, hf, h => by omega
  | f + 1, [], k, acc, p, e, hf, h => by cases h
  | f + 1, c :: r, k, acc, p, e, hf, h => by
    simp only [List.length_cons] at hf ⊢
    cases hb : isBlank c with
    | true =>
      rw [lexF_blank _ _ _ _ _ hb] at h
      have := lexF_err_fine f r (k + 1) acc p e (by omega) h
      omega
    | false =>
      cases hp : [40, 42].isPrefixOf (c :: r) with
      | true =>
        cases hc : cmt (c :: r) 0 with
        | none =>
          rw [lexF_cmt_bad _ _ _ _ _ hb hp hc] at h
          simp only [Except.error.injEq, Prod.mk.injEq] at h
          omega
        | some m =>
          have hm := cmt_bound _ _ _ hc
          rw [lexF_cmt _ _ _ _ _ _ hb hp hc] at h
          have e1 : ((c :: r).drop m).length = r.length + 1 - m := by rw [List.length_drop, List.length_cons]
          simp only [List.length_cons] at hm
          have := lexF_err_fine f _ _ acc p e (by rw [e1]; omega) h
          rw [e1] at this
          omega
      | false =>
        have hfine := tok_fine (c :: r)
        cases ht : tok (c :: r) with
        | error e' =>
          rw [lexF_err _ _ _ _ _ _ hb hp ht] at h
          have := hfine.2 e' ht
          simp only [Except.error.injEq, Prod.mk.injEq] at h
          omega
        | ok tn =>
          obtain ⟨x, m⟩ := tn
          have hm := hfine.1 x m ht
          by_cases h6 : acc.length = 6000
          · rw [lexF_many _ _ _ _ _ _ _ hb hp ht h6] at h
            simp only [Except.error.injEq, Prod.mk.injEq] at h
            omega
          · rw [lexF_tok _ _ _ _ _ _ _ hb hp ht h6] at h
            have e1 : ((c :: r).drop m).length = r.length + 1 - m := by rw [List.length_drop, List.length_cons]
            simp only [List.length_cons] at hm
            have := lexF_err_fine f _ _ _ p e (by rw [e1]; omega) h
            rw [e1] at this
            omega
theorem lex_err {l : List UInt8} {p e : Int} (h : lex l = .error (p, e)) : (e = 2 ∨ e = 3 ∨ e = 90 ∨ e = 91) ∧ 0 ≤ p ∧ (p < l.length ∨ p = 0) := by
  unfold lex at h
  split at h
  · simp only [Except.error.injEq, Prod.mk.injEq] at h
    omega
  · have := lexF_err_fine _ _ _ _ _ _ (Nat.lt_succ_self _) h
    omega
end Go.Proofs.YtkieeaajhomdoaaDoor
set_option linter.unusedVariables false
set_option linter.unusedSimpArgs false
namespace Go.Proofs.YtkieeaajhomdoaaDoor
open Go.RowKit Go.Maps Go.MapKept
/-- Blocks outside lo..hi are as they were. -/
structure Spares (lo hi : Nat) (w w' : World) : Prop where
  os : w'.os = w.os
  tape : w'.tape = w.tape
  output : w'.output = w.output
  size : w.heap.size ≤ w'.heap.size
  block : ∀ k, k < w.heap.size → ¬ (lo ≤ k ∧ k < hi) → w'.heap[k]? = w.heap[k]?
theorem Spares.refl (lo hi : Nat) (w : World) : Spares lo hi w w := ⟨rfl, rfl, rfl, Nat.le_refl _, fun _ _ _ => rfl⟩
theorem Spares.trans {lo hi : Nat} {a b c : World} (h : Spares lo hi a b) (k : Spares lo hi b c) : Spares lo hi a c :=
  ⟨k.os.trans h.os, k.tape.trans h.tape, k.output.trans h.output, Nat.le_trans h.size k.size, fun i hi hn => (k.block i (Nat.lt_of_lt_of_le hi h.size) hn).trans (h.block i hi hn)⟩
theorem Spares.of_below {lo hi : Nat} {a b : World} (h : Below a.heap.size a b) : Spares lo hi a b := ⟨h.os, h.tape, h.output, h.size, fun i hi _ => h.block i hi⟩
theorem Spares.below {lo hi B : Nat} {a b c : World} (h : Below B a b) (k : Spares lo hi b c) (h1 : B ≤ lo) (h2 : B ≤ b.heap.size) : Below B a c :=
  ⟨k.os.trans h.os, k.tape.trans h.tape, k.output.trans h.output, Nat.le_trans h.size k.size, fun i hi => (k.block i (by omega) (by omega)).trans (h.block i hi)⟩
theorem Spares.own {lo hi : Nat} {w w' : World} {base : Nat} {e : TypeId} {size n : Nat} {v : Value} {xs : List Value} (k : Spares lo hi w w') (h : w.ownsRow base e size v n xs) (hb : hi ≤ base) : w'.ownsRow base e size v n xs := by
  refine ⟨h.1, ?_⟩
  rcases h.2 with h | ⟨g, cap, cur, h1, h2, h3, h4⟩
  · exact .inl h
  · refine .inr ⟨g, cap, cur, h1, h2, ?_, h4⟩
    have hg : g < w.heap.size := by
      rcases Nat.lt_or_ge g w.heap.size with h | h
      · exact h
      · rw [Array.getElem?_eq_none h] at h3; cases h3
    rw [k.block g hg (by omega)]
    exact h3
theorem Spares.grown {lo hi : Nat} {a b c : World} {row : Option Nat} (h : Spares lo hi a b) (hg : b.grownBy c row) (hr : ∀ k, row = some k → (lo ≤ k ∧ k < hi) ∨ a.heap.size ≤ k) : Spares lo hi a c :=
  ⟨hg.os.trans h.os, hg.tape.trans h.tape, hg.output.trans h.output, Nat.le_trans h.size hg.size, fun i hi hn => (hg.block i (Nat.lt_of_lt_of_le hi h.size) (fun e => by
    rcases hr i e.symm with h | h
    · exact hn h
    · omega)).trans (h.block i hi hn)⟩
theorem own_drop {w : World} {base base' : Nat} {e : TypeId} {size n : Nat} {v : Value} {xs : List Value} (h : w.ownsRow base e size v n xs) (hb : base' ≤ base) : w.ownsRow base' e size v n xs := by
  refine ⟨h.1, ?_⟩
  rcases h.2 with h | ⟨g, cap, cur, h1, h2, h3⟩
  · exact .inl h
  · exact .inr ⟨g, cap, cur, h1, by omega, h3⟩
theorem own_lt {w : World} {base : Nat} {e : TypeId} {size n : Nat} {v : Value} {xs : List Value} (h : w.ownsRow base e size v n xs) (k : Nat) (hk : v.ownBlock = some k) : k < w.heap.size := by
  rcases h.2 with ⟨rfl, _⟩ | ⟨g, cap, cur, rfl, hb, h3, _⟩
  · simp [Value.ownBlock] at hk
  · have : g = k := by simpa [Value.ownBlock] using hk
    subst this
    rcases Nat.lt_or_ge g w.heap.size with h | h
    · exact h
    · rw [Array.getElem?_eq_none h] at h3; cases h3
theorem toksCells_len (l : List Tok) : (toksCells l).length = l.length * 4 := by
  induction l with
  | nil => rfl
  | cons x l ih => rw [show toksCells (x :: l) = tokCells x ++ toksCells l from rfl, List.length_append, ih]; simp [tokCells]; omega
theorem cat_list (s t : ByteArray) : (s ++ ⟨#[10]⟩ ++ t).data.toList = s.data.toList ++ 10 :: t.data.toList := by simp [ByteArray.data_append]
set_option maxRecDepth 100000 in
set_option maxHeartbeats 4000000 in
theorem TokenJoins_any (s t : ByteArray) (w : World) (hv : Vars w) (hss : s.size ≤ 140737488351232) (hts : t.size ≤ 140737488351232) : Calls Tryd.prog 6 #[.string s, .string t] w (Gives (.bool true) w) := by
  have HV := Lib.hid hv
  clear hv
  by_cases hlong : (4000 : Int) < (s.size : Int) + t.size
  · go_enter Tryd.func6, Tryd.ntmps6
    go_wp2_with fail
    refine (wakes9_any _ HV.out).mono ?_
    rintro e w1 ⟨rfl, hB⟩
    go_wp2_with fail
    go_ret
    exact ⟨rfl, hB⟩
  · have hlong2 : (s.size : Int) + t.size ≤ 4000 := by omega
    have hsi : (s.size : Int) ≤ 4000 := by omega
    have hti : (t.size : Int) ≤ 4000 := by omega
    have hn1 : ¬ (9223372036854775807 < s.size + 1) := by omega
    have hn2 : ¬ (9223372036854775807 < s.size + 1 + t.size) := by omega
    obtain ⟨S, hS⟩ : ∃ S : ByteArray, s ++ (⟨#[10]⟩ : ByteArray) ++ t = S := ⟨_, rfl⟩
    have hSs : S.size ≤ 140737488351232 := by rw [← hS, ByteArray.size_append, ByteArray.size_append]; show s.size + 1 + t.size ≤ _; omega
    have hSl : S.data.toList = s.data.toList ++ 10 :: t.data.toList := by rw [← hS, cat_list]
    have hj := lex_join s.data.toList t.data.toList (by rw [len_list, len_list]; omega)
    rw [← hSl, len_list, len_list] at hj
    have HSL := Lib.hid hSl
    have HS := Lib.hid hS
    clear hlong hSl hS
    rcases hj with ⟨p, e, h1, h2⟩ | ⟨l, h1, hll, ⟨p, e, h2, h3⟩ | ⟨k, h2, hkl, h3⟩⟩
    · have he := lex_err h1
      have hq1 : ((e != 0) : Bool) = true := by rw [bne_iff_ne]; omega
      have H1 := Lib.hid h1
      have H2 := Lib.hid h2
      clear h1 h2 he
      obtain ⟨r2, hr2⟩ : ∃ r, lex t.data.toList = r := ⟨_, rfl⟩
      obtain ⟨r3, hr3⟩ : ∃ r, lex S.data.toList = r := ⟨_, rfl⟩
      have HR2 := Lib.hid hr2
      have HR3 := Lib.hid hr3
      clear hr2 hr3
      obtain ⟨toks2, a2, c2, ho2⟩ : ∃ toks a1 c1, lexOut r2 = (toks, a1, c1) := ⟨_, _, _, rfl⟩
      have HO2 := Lib.hid ho2
      clear ho2
      go_enter Tryd.func6, Tryd.ntmps6
      go_wp2_with fail
      refine (Lex_any s _ HV.out hss _ H1.out).mono ?_
      rintro e1 w1 ⟨hB1, h1⟩
      simp only at h1
      subst h1
      go_wp2_with fail
      refine (Lex_any t _ (HV.out.stays hB1) hts r2 HR2.out).mono ?_
      intro e w2 h2
      obtain ⟨A2, C2, rfl, _, hB2⟩ := h2.out HR2.out
      rw [HO2.out]
      clear h2
      go_wp2_with fail
      rw [HS.out]
      refine (Lex_any S _ (HV.out.stays (bthen hB1 hB2)) hSs r3 HR3.out).mono ?_
      rintro e3 w3 ⟨hB3, h3⟩
      cases r3 with
      | error pe =>
        obtain ⟨p3, e3'⟩ := pe
        have he3 := lex_err HR3.out
        have hq3 : ((e3' != 0) : Bool) = true := by rw [bne_iff_ne]; omega
        clear he3
        simp only at h3
        subst h3
        go_wp2_with fail
        refine (wakes9_any _ (HV.out.stays (bthen (bthen hB1 hB2) hB3))).mono ?_
        rintro e w4 ⟨rfl, hB4⟩
        go_wp2_with fail
        go_ret
        exact ⟨rfl, bthen (bthen (bthen hB1 hB2) hB3) hB4⟩
      | ok l3 =>
        have he : e = 90 := by
          rcases H2.out with h | h
          · exact h
          · rw [HR3.out, H1.out] at h; cases h
        subst he
        obtain ⟨v3, base3, rfl, _, _⟩ := h3
        go_wp2_with fail
        refine (wakes9_any _ (HV.out.stays (bthen (bthen hB1 hB2) hB3))).mono ?_
        rintro e w4 ⟨rfl, hB4⟩
        go_wp2_with fail
        go_ret
        exact ⟨rfl, bthen (bthen (bthen hB1 hB2) hB3) hB4⟩
    · have he := lex_err h2
      rw [len_list] at he
      have hq1 : ((e != 0) : Bool) = true := by rw [bne_iff_ne]; omega
      have hp0 : 0 ≤ p := he.2.1
      have hp1 : p ≤ 4000 := by omega
      have hpe : p + ((s.size + 1 : Nat) : Int) = p + s.size + 1 := by omega
      rw [hpe] at h3
      have H1 := Lib.hid h1
      have H2 := Lib.hid h2
      have H3 := Lib.hid h3
      clear h1 h2 h3 he hpe
      go_enter Tryd.func6, Tryd.ntmps6
      go_wp2_with fail
      refine (Lex_any s _ HV.out hss _ H1.out).mono ?_
      rintro e1 w1 ⟨hB1, v1, base1, rfl, _, hrow1⟩
      have HROW1 := Lib.hid hrow1
      clear hrow1
      go_wp2_with fail
      refine (Lex_any t _ (HV.out.stays hB1) hts _ H2.out).mono ?_
      rintro e2 w2 ⟨hB2, h2⟩
      simp only at h2
      subst h2
      go_wp2_with fail
      rw [HS.out]
      refine (Lex_any S _ (HV.out.stays (bthen hB1 hB2)) hSs _ H3.out).mono ?_
      rintro e3 w3 ⟨hB3, h3⟩
      simp only at h3
      subst h3
      go_wp2_with fail
      refine (wakes9_any _ (HV.out.stays (bthen (bthen hB1 hB2) hB3))).mono ?_
      rintro e w4 ⟨rfl, hB4⟩
      go_wp2_with fail
      go_ret
      exact ⟨rfl, bthen (bthen (bthen hB1 hB2) hB3) hB4⟩
    · obtain ⟨i0, hi, hz0, hz1, hz2⟩ := info_parts info_tok
      have HI := Lib.hid hi
      have HZ0 := Lib.hid hz0
      have HZ1 := Lib.hid hz1
      have HZ2 := Lib.hid hz2
      clear hi hz0 hz1 hz2
      have hkm : (k.length : Int) ≤ 4000 := by omega
      have hlm : (l.length : Int) ≤ 4000 := by omega
      have hats : ∀ (i : Nat) (h : i < k.length), 0 ≤ k[i].at_ ∧ k[i].at_ ≤ 4000 := by
        intro i h
        have := lex_at h2 i h
        rw [len_list] at this
        omega
      have H1 := Lib.hid h1
      have H2 := Lib.hid h2
      have H3 := Lib.hid h3
      have HAT := Lib.hid hats
      clear h1 h2 h3 hats
      go_enter Tryd.func6, Tryd.ntmps6
      go_wp2_with fail
      refine (Lex_any s _ HV.out hss _ H1.out).mono ?_
      rintro e1 w1 ⟨hB1, v1, base1, rfl, hb1, hrow1⟩
      have HROW1 := Aside.mk hrow1
      obtain ⟨A1, C1, rfl⟩ : ∃ A C, v1 = .slice A l.length C := by
        obtain ⟨A, C, h, _⟩ := own_reads hrow1 (by omega)
        exact ⟨A, C, h⟩
      clear hrow1
      go_wp2_with fail
      refine (Lex_any t _ (HV.out.stays hB1) hts _ H2.out).mono ?_
      rintro e2 w2 ⟨hB2, v2, base2, rfl, hb2, hrow2⟩
      have HROW2 := Aside.mk hrow2
      obtain ⟨A2, C2, rfl, _, hrd2⟩ := own_reads hrow2 (by omega)
      have HRD2 := Lib.hid hrd2
      clear hrow2 hrd2
      go_wp2_with fail
      rw [HS.out]
      refine (Lex_any S _ (HV.out.stays (bthen hB1 hB2)) hSs _ H3.out).mono ?_
      rintro e3 w3 ⟨hB3, v3, base3, rfl, hb3, hrow3⟩
      have hl3 : (l ++ k.map (shift (s.size + 1))).length = l.length + k.length := by rw [List.length_append, List.length_map]
      have HROW3 := Aside.mk hrow3
      obtain ⟨A3, C3, rfl, _, _⟩ := own_reads hrow3 (by rw [hl3]; omega)
      rw [hl3] at HROW3
      rw [hl3]
      have HL3 := Lib.hid hl3
      clear hrow3 hl3
      have s12 := hB1.size
      have s23 := hB2.size
      have s34 := hB3.size
      have HOWN0 : Aside (w3.ownsRow w.heap.size 34 4 (.slice A1 l.length C1) l.length (toksCells l)) := ⟨own_drop (own_below (own_below HROW1.out hB2) hB3) hb1⟩
      have HLO0 : Hid (∀ b, (Value.slice A1 l.length C1).ownBlock = some b → (w.heap.size ≤ b ∧ b < w1.heap.size) ∨ w3.heap.size ≤ b) := fun b hb => .inl ⟨by have := own_base HROW1.out b hb; omega, own_lt HROW1.out b hb⟩
      have HROW2' : Aside (w3.ownsRow base2 34 4 (.slice A2 k.length C2) k.length (toksCells k)) := ⟨own_below HROW2.out hB3⟩
      go_wp2_with fail
      go_loopw [5, 14] (fun v i wr => ∃ (j : Nat) (A : Option Addr) (C : Nat), v = .slice A (l.length + j) C ∧ j ≤ k.length ∧ i = .int .i64 j ∧ Aside (wr.ownsRow w.heap.size 34 4 (.slice A (l.length + j) C) (l.length + j) (toksCells (l ++ (k.take j).map (shift (s.size + 1))))) ∧ Hid (∀ b, (Value.slice A (l.length + j) C).ownBlock = some b → (w.heap.size ≤ b ∧ b < w1.heap.size) ∨ w3.heap.size ≤ b) ∧ Spares w.heap.size w1.heap.size w3 wr) (fun _ i _ => k.length - (intOf i).toNat)
      case atStart => exact ⟨0, A1, C1, rfl, by omega, rfl, ⟨by simpa using HOWN0.out⟩, HLO0, Spares.refl _ _ _⟩
      case round =>
        obtain ⟨j, A, C, rfl, hj, rfl, hown, HLO, hSp⟩ := hrel
        by_cases hlt : j < k.length
        · have hjk : (j : Int) < k.length := by omega
          obtain ⟨b2, o2, rfl, hc2⟩ : ∃ b o, A2 = some ⟨b, o, none⟩ ∧ ∀ i, (h : i < k.length) → wr.cell? ⟨b, o + i * 4, none⟩ = some (.int .i64 k[i].kind) ∧ wr.cell? ⟨b, o + i * 4 + 1, none⟩ = some (.string ⟨k[i].text.toArray⟩) ∧ wr.cell? ⟨b, o + i * 4 + 2, none⟩ = some (.int .i64 k[i].n) ∧ wr.cell? ⟨b, o + i * 4 + 3, none⟩ = some (.int .i64 k[i].at_) := by
            obtain ⟨A', C', e, _, h⟩ := own_reads (hSp.own HROW2'.out hb2) (by omega)
            simp only [Value.slice.injEq] at e
            obtain ⟨rfl, _, rfl⟩ := e
            exact h (by omega)
          obtain ⟨c0, c1, c2, c3⟩ := hc2 j hlt
          have hat := HAT.out j hlt
          obtain ⟨⟨xk, xt, xn, xa⟩, hx⟩ : ∃ x, k[j] = x := ⟨_, rfl⟩
          rw [hx] at c0 c1 c2 c3 hat
          have la := World.block_lt_of_cell? wr _ c0
          simp only at c0 c1 c2 c3 la hat
          obtain ⟨hat0, hat1⟩ := hat
          have HX := Lib.hid hx
          clear hx hc2
          go_wp2_with (at_builtin; refine wpList_append_own_at _ rfl _ _ 23 rfl w.heap.size 34 i0 _ 4 40 Tryd.underlying23 HI.out HZ0.out HZ1.out HZ2.out rfl (by decide) _ (l.length + j) _ rfl ((hown.out.alloc _).alloc _) ⟨wr.heap.size + 1, 0, none⟩ 1 1 (tokCells ⟨xk, xt, xn, xa + (s.size + 1)⟩) rfl rfl ?c1 ?c2 ?c3 ?c4 ?c5 ?_)
          case c1 => exact fun j u hu => new_cells (by simp) (by simpa [tokCells] using hu)
          case c2 => exact tok_one _
          case c3 => unfold maxLen; omega
          case c4 => omega
          case c5 => have := hSp.size; simp; omega
          intro v3 w4 hown3 hgrow hiff hblk
          clear hiff
          have hsp3 : Spares w.heap.size w1.heap.size w3 w4 := by
            refine Spares.grown (hSp.trans (Spares.of_below (((Below.refl _ _).alloc (Nat.le_refl _) _).alloc (by simp) _))) hgrow ?_
            intro b hb
            exact HLO.out b hb
          obtain ⟨g, C3', rfl⟩ : ∃ g C3, v3 = .slice (some g) (l.length + j + 1) C3 := by
            rcases hown3.2 with ⟨_, h⟩ | ⟨g, cap, cur, h, _⟩
            · omega
            · exact ⟨_, _, h⟩
          have hlo3 : Hid (∀ b, (Value.slice (some g) (l.length + j + 1) C3').ownBlock = some b → (w.heap.size ≤ b ∧ b < w1.heap.size) ∨ w3.heap.size ≤ b) := by
            intro b hb
            rcases hblk with h | h
            · exact HLO.out b (by rw [← h]; exact hb)
            · have e := hb.symm.trans h
              simp only [Option.some.injEq] at e
              have := hSp.size
              refine .inr ?_
              rw [e]
              omega
          have hown4 := Aside.mk hown3
          clear hown3 hgrow hown hblk HLO
          go_wp2_with fail
          go_roundw
          case rel =>
            refine ⟨j + 1, some g, C3', rfl, by omega, by go_num, ?_, hlo3, hsp3⟩
            have e : k.take (j + 1) = k.take j ++ [(⟨xk, xt, xn, xa⟩ : Tok)] := by
              rw [List.take_add_one, List.getElem?_eq_getElem hlt, HX.out]; rfl
            rw [e, List.map_append, ← List.append_assoc, List.map_cons, List.map_nil, toksCells_snoc]
            rw [List.map_take]
            exact hown4
          case measure => simp [intOf]; omega
        · have hjk : j = k.length := by omega
          subst hjk
          have hrA : ReadsToks wr (.slice A3 (l.length + k.length) C3) (l ++ k.map (shift (s.size + 1))) := by
            have := own_reads (l := l ++ k.map (shift (s.size + 1))) (by rw [HL3.out]; exact hSp.own HROW3.out (by omega)) (by rw [HL3.out]; omega)
            exact this
          have hrB : ReadsToks wr (.slice A (l.length + k.length) C) (l ++ k.map (shift (s.size + 1))) := by
            have h := hown.out
            rw [List.take_length] at h
            exact own_reads (l := l ++ k.map (shift (s.size + 1))) (by rw [HL3.out]; exact h) (by rw [HL3.out]; omega)
          have HRA := Lib.hid hrA
          have HRB := Lib.hid hrB
          have hBr : Below w.heap.size w wr := (bthen (bthen hB1 hB2) hB3 |> fun h => hSp.below h (Nat.le_refl _) (by omega))
          clear hrA hrB
          go_wp2_with fail
          refine (r_Same _ _ _ _ true _ HRA.out HRB.out).mono ?_
          rw [sameL_refl]
          rintro e w5 ⟨rfl, hB5⟩
          go_wp2_with fail
          refine (wakes9_any _ (HV.out.stays (bthen hBr hB5))).mono ?_
          rintro e w6 ⟨rfl, hB6⟩
          go_wp2_with fail
          go_ret
          exact ⟨rfl, bthen (bthen hBr hB5) hB6⟩
end Go.Proofs.YtkieeaajhomdoaaDoor
set_option linter.unusedVariables false
set_option linter.unusedSimpArgs false
namespace Go.Proofs.YtkieeaajhomdoaaDoor
open Go.RowKit Go.Maps Go.MapKept
/-! Numbers in sixteen digits. -/
def digL (d : Nat) : UInt8 := UInt8.ofNat (if d < 10 then 48 + d else 87 + d)
def hexLow (n : Nat) : List UInt8 := if n < 16 then [digL n] else hexLow (n / 16) ++ [digL (n % 16)]
decreasing_by omega
theorem hexLow_small {n : Nat} (h : n < 16) : hexLow n = [digL n] := by rw [hexLow, if_pos h]
theorem hexLow_step {n : Nat} (h : 16 ≤ n) : hexLow n = hexLow (n / 16) ++ [digL (n % 16)] := by rw [hexLow, if_neg (by omega)]
theorem hexLow_pos (n : Nat) : 1 ≤ (hexLow n).length := by
  rw [hexLow]
  split
  · simp
  · rw [List.length_append]; simp
theorem hexLow_len (n : Nat) (h : n < 4294967296) : (hexLow n).length ≤ 8 := by
  have key : ∀ (k n : Nat), n < 16 ^ (k + 1) → (hexLow n).length ≤ k + 1 := by
    intro k
    induction k with
    | zero => intro n h; rw [hexLow_small (by simpa using h)]; simp
    | succ k ih =>
      intro n h
      by_cases hs : n < 16
      · rw [hexLow_small hs]; simp
      · rw [hexLow_step (by omega), List.length_append]
        have := ih (n / 16) (by rw [Nat.pow_succ] at h; omega)
        simp only [List.length_cons, List.length_nil]
        omega
  exact key 7 n h
set_option maxRecDepth 100000 in
theorem pow2_any (w : World) : Calls Tryd.prog 143 #[.int .i64 16] w (fun e w' => e = .returned (.bool true) ∧ w' = w) := by
  have h1 : (bits BinOp.and IntKind.i64 16 15 == 0) = true := by decide
  go_enter Tryd.func143, Tryd.ntmps143
  go_wp2_with fail
  go_ret
  exact ⟨rfl, rfl⟩
set_option maxRecDepth 100000 in
theorem tz64_any (w : World) (h : w.cell? ⟨10, 15, none⟩ = some (.int .u8 4)) : Calls Tryd.prog 156 #[.int .u64 16] w (fun e w' => e = .returned (.int .i64 4) ∧ w' = w) := by
  have h1 : (IntKind.u64.wrap (bits BinOp.and IntKind.u64 16 (IntKind.u64.wrap (-16)) * 285870213051353865) / 288230376151711744).toNat = 15 := by decide
  have h2 : IntKind.u64.wrap (bits BinOp.and IntKind.u64 16 (IntKind.u64.wrap (-16)) * 285870213051353865) / 288230376151711744 = 15 := by decide
  go_enter Tryd.func156, Tryd.ntmps156
  go_wp2_with fail
  go_ret
  exact ⟨rfl, rfl⟩
set_option maxRecDepth 100000 in
theorem tz_any (w : World) (h : w.cell? ⟨10, 15, none⟩ = some (.int .u8 4)) : Calls Tryd.prog 144 #[.int .u64 16] w (fun e w' => e = .returned (.int .i64 4) ∧ w' = w) := by
  have H := Lib.hid h
  clear h
  go_enter Tryd.func144, Tryd.ntmps144
  go_wp2_with fail
  refine (tz64_any _ H.out).mono ?_
  rintro e w1 ⟨rfl, rfl⟩
  go_wp2_with fail
  go_ret
  exact ⟨rfl, rfl⟩
theorem digL_get (d : Nat) (h : d < 16) : (#[48, 49, 50, 51, 52, 53, 54, 55, 56, 57, 97, 98, 99, 100, 101, 102, 103, 104, 105, 106, 107, 108, 109, 110, 111, 112, 113, 114, 115, 116, 117, 118, 119, 120, 121, 122] : Array UInt8)[d]? = some (digL d) := by
  have : ∀ d : Fin 16, (#[48, 49, 50, 51, 52, 53, 54, 55, 56, 57, 97, 98, 99, 100, 101, 102, 103, 104, 105, 106, 107, 108, 109, 110, 111, 112, 113, 114, 115, 116, 117, 118, 119, 120, 121, 122] : Array UInt8)[d.1]? = some (digL d.1) := by decide
  exact this ⟨d, h⟩
theorem digB (r : Nat) (h : r < 36) (h16 : r < 16) : (⟨#[48, 49, 50, 51, 52, 53, 54, 55, 56, 57, 97, 98, 99, 100, 101, 102, 103, 104, 105, 106, 107, 108, 109, 110, 111, 112, 113, 114, 115, 116, 117, 118, 119, 120, 121, 122]⟩ : ByteArray)[r]'h = digL r := by
  have := digL_get r h16
  rw [Array.getElem?_eq_getElem (by exact h)] at this
  exact Option.some.inj this
theorem drop_set (arr : Array Value) (i : Nat) (v : Value) (h1 : 1 ≤ i) (h2 : i ≤ arr.size) : (arr.setIfInBounds (i - 1) v).toList.drop (i - 1) = v :: arr.toList.drop i := by
  rw [Array.toList_setIfInBounds, List.drop_set, if_neg (by omega), Nat.sub_self, List.drop_eq_getElem_cons (by simp; omega), List.set_cons_zero, show i - 1 + 1 = i by omega]
theorem add_off (g o j : Nat) : (⟨g, o, none⟩ : Addr).add j = ⟨g, o + j, none⟩ := by unfold Addr.add; split <;> simp_all
set_option maxRecDepth 100000 in
set_option maxHeartbeats 1600000 in
theorem bits_any (n : Nat) (w : World) (hn : (n : Int) ≤ 4294967295) (h : w.cell? ⟨10, 15, none⟩ = some (.int .u8 4)) : Calls Tryd.prog 126 #[.slice none 0 0, .int .u64 n, .int .i64 16, .bool false, .bool false] w (fun e w' => e = .returned (.tuple #[.slice none 0 0, .string ⟨(hexLow n).toArray⟩]) ∧ Below w.heap.size w w') := by
  have H := Lib.hid h
  clear h
  go_enter Tryd.func126, Tryd.ntmps126
  go_wp2_with fail
  refine (pow2_any _).mono ?_
  rintro e w1 ⟨rfl, rfl⟩
  go_wp2_with fail
  refine (tz_any _ (((Below.refl w.heap.size w).alloc (Nat.le_refl _) _).cell (World.block_lt_of_cell? w _ H.out) |>.trans H.out)).mono ?_
  rintro e w1 ⟨rfl, rfl⟩
  go_wp2_with fail
  go_loopw [1, 13] (fun u i wr => ∃ (m ii : Nat) (suf : List UInt8) (arr : Array Value), u = .int .u64 m ∧ i = .int .i64 ii ∧ (m : Int) ≤ 4294967295 ∧ ii + suf.length = 65 ∧ Hid (hexLow n = hexLow m ++ suf) ∧ Hid (wr.heap[w.heap.size]? = some (.cells arr 188 (0, 0))) ∧ arr.size = 65 ∧ Hid (arr.toList.drop ii = suf.map fun c => .int .u8 c.toNat) ∧ Below w.heap.size w wr) (fun u _ _ => (intOf u).toNat)
  case atStart => exact ⟨n, 65, [], _, rfl, rfl, hn, rfl, by simp [Hid], alloc_block _ _, rfl, rfl, (Below.refl _ _).alloc (Nat.le_refl _) _⟩
  case round =>
    obtain ⟨m, ii, suf, arr, rfl, rfl, hm, hii, HX, HB, hsz, HA, hB⟩ := hrel
    have hlen := hexLow_len n (by omega)
    rw [HX.out, List.length_append] at hlen
    have hp := hexLow_pos m
    have hi1 : 57 ≤ ii := by omega
    have hi65 : ii ≤ 65 := by omega
    have hfz : wr.frozen? ⟨w.heap.size, ii - 1, none⟩ = false := frozen_of_block HB.out _
    have hcl : wr.cell? ⟨w.heap.size, ii - 1, none⟩ = some arr[ii - 1] := by rw [cell_of_block HB.out, Array.getElem?_eq_getElem (by omega)]
    clear hlen hp
    by_cases hge : 16 ≤ m
    · have hgei : (16 : Int) ≤ m := by omega
      have hst := hexLow_step hge
      have hand := bits_and_u64_nat m 15 (by omega) (by omega)
      rw [show m &&& 15 = m % 16 from Nat.and_two_pow_sub_one_eq_mod m 4] at hand
      obtain ⟨r, hr⟩ : ∃ r, m % 16 = r := ⟨_, rfl⟩
      obtain ⟨q, hq⟩ : ∃ q, m / 16 = q := ⟨_, rfl⟩
      rw [hr, hq] at hst
      rw [hr] at hand
      have hr16 : (r : Int) < 16 := by omega
      have hand : bits .and .u64 (m : Int) 15 = (r : Int) := hand
      have hqm : (q : Int) < m := by omega
      have hqe : (m : Int) / 16 = q := by omega
      have HST := Lib.hid hst
      clear hst hr hq
      go_wp2_with fail
      go_roundw
      case rel =>
        refine ⟨q, ii - 1, digL r :: suf, _, rfl, by go_num, by omega, by simp only [List.length_cons]; omega, ?_, setCell_block HB.out _ _, by rw [Array.size_setIfInBounds]; exact hsz, ?_, hB.setCell (Nat.le_refl _) _⟩
        · rw [Hid, HX.out, HST.out, List.append_assoc]; rfl
        · rw [Hid, drop_set _ _ _ (by omega) (by omega), HA.out, digB r (by omega) (by omega)]
          rfl
      case measure => simp [intOf]; omega
    · have hgei : (m : Int) < 16 := by omega
      have hx := HX.out
      rw [hexLow_small (n := m) (by omega)] at hx
      have hK : (hexLow n).length = 65 - (ii - 1) := by rw [hx, List.length_append]; simp only [List.length_cons, List.length_nil]; omega
      have hsl : ∀ W : World, (Instr.sliceAt 188 (.pointer (some ⟨w.heap.size, 0, none⟩)) (some (.int .i64 ((ii : Int) - 1))) none none).run Tryd.prog W = .ok (.slice (some ⟨w.heap.size, ii - 1, none⟩) (hexLow n).length (hexLow n).length) W := by
        intro W
        rw [hK]
        have h65 : Tryd.prog.arrayLen 188 = 65 := by kernel_rfl
        rw [run_sliceAt_array_l W _ _ (by kernel_rfl) .i64 _ (by omega) (by rw [h65]; omega), h65]
        have e : ((ii : Int) - 1).toNat = ii - 1 := by omega
        rw [e]
        simp [go_sem]
        omega
      have hcv := run_convert_bytes_back (P := Tryd.prog) (wr.setCell ⟨w.heap.size, ii - 1, none⟩ (.int .u8 (((⟨#[48, 49, 50, 51, 52, 53, 54, 55, 56, 57, 97, 98, 99, 100, 101, 102, 103, 104, 105, 106, 107, 108, 109, 110, 111, 112, 113, 114, 115, 116, 117, 118, 119, 120, 121, 122]⟩ : ByteArray)[m]'(by show m < 36; omega)).toNat : Nat))) 31 9 5 ⟨w.heap.size, ii - 1, none⟩ (hexLow n).length (hexLow n) Tryd.underlying31 Tryd.underlying5 Tryd.underlying9 (fun j hj => by
        have hb := setCell_block HB.out (ii - 1) (.int .u8 (((⟨#[48, 49, 50, 51, 52, 53, 54, 55, 56, 57, 97, 98, 99, 100, 101, 102, 103, 104, 105, 106, 107, 108, 109, 110, 111, 112, 113, 114, 115, 116, 117, 118, 119, 120, 121, 122]⟩ : ByteArray)[m]'(by show m < 36; omega)).toNat : Nat))
        have hd := drop_set arr ii (.int .u8 (((⟨#[48, 49, 50, 51, 52, 53, 54, 55, 56, 57, 97, 98, 99, 100, 101, 102, 103, 104, 105, 106, 107, 108, 109, 110, 111, 112, 113, 114, 115, 116, 117, 118, 119, 120, 121, 122]⟩ : ByteArray)[m]'(by show m < 36; omega)).toNat : Nat)) (by omega) (by omega)
        rw [HA.out, digB m (by omega) (by omega)] at hd
        have e : (arr.setIfInBounds (ii - 1) (.int .u8 ((digL m).toNat : Nat))).toList.drop (ii - 1) = (hexLow n).map fun c => .int .u8 c.toNat := by
          rw [hd, hx]; rfl
        rw [add_off, cell_of_block hb, digB m (by omega) (by omega), ← Array.getElem?_toList, ← List.getElem?_drop, e, List.getElem?_map, List.getElem?_eq_getElem hj]
        rfl)
      have HX2 := Lib.hid hx
      clear hx hK
      go_wp2_with fail
      go_ret2
      exact ⟨rfl, hB.setCell (Nat.le_refl _) _⟩
set_option maxRecDepth 100000 in
set_option maxHeartbeats 1600000 in
theorem fmt_any (n : Nat) (w : World) (hn : (n : Int) ≤ 4294967295) (h : w.cell? ⟨10, 15, none⟩ = some (.int .u8 4)) : Calls Tryd.prog 110 #[.int .u64 n, .int .i64 16] w (fun e w' => e = .returned (.string ⟨(hexLow n).toArray⟩) ∧ Below w.heap.size w w') := by
  have H := Lib.hid h
  clear h
  go_enter Tryd.func110, Tryd.ntmps110
  go_wp2_with fail
  refine (bits_any n _ hn H.out).mono ?_
  rintro e w1 ⟨rfl, hB⟩
  go_wp2_with fail
  go_ret
  exact ⟨rfl, hB⟩
set_option maxRecDepth 100000 in
set_option maxHeartbeats 1600000 in
theorem FormatUint_any (n : Nat) (w : World) (hn : (n : Int) ≤ 4294967295) (h : w.cell? ⟨10, 15, none⟩ = some (.int .u8 4)) : Calls Tryd.prog 89 #[.int .u64 n, .int .i64 16] w (fun e w' => e = .returned (.string ⟨(hexLow n).toArray⟩) ∧ Below w.heap.size w w') := by
  have H := Lib.hid h
  clear h
  go_enter Tryd.func89, Tryd.ntmps89
  go_wp2_with fail
  refine (fmt_any n _ hn H.out).mono ?_
  rintro e w1 ⟨rfl, hB⟩
  go_wp2_with fail
  go_ret
  exact ⟨rfl, hB⟩
end Go.Proofs.YtkieeaajhomdoaaDoor
/-
  DERIVED: THE SHELF's CONTRACTS AT THIS DUMP, IN PLAIN WORDS (tools/lay-plain.mjs out of 'TrydShelf.lean', which tools/lay-shelf.mjs wrote): THE SAME DECLARATIONS UNDER THE SAME NAMES: 'import', 'namespace', 'open', 'def', 'theorem' AND NOTHING ELSE: no command of the shelf's: FOR A HAND-IN. Each laying: the table of numbers ('.._ren') and one theorem, a field a fact of the dump's own or the kernel's comparison; each contract: ONE APPLICATION.
-/
namespace Go.Proofs
open Go.Shelf
def Tryd.lays158_ren : Go.Shelf.Ren := ⟨fun | 158 => 88 | 165 => 63 | 166 => 64 | 167 => 107 | 169 => 65 | 230 => 108 | 203 => 109 | 240 => 90 | 241 => 91 | 197 => 133 | 118 => 134 | 168 => 135 | 270 => 136 | 262 => 137 | 276 => 111 | 277 => 112 | 260 => 152 | 242 => 153 | 313 => 154 | 278 => 159 | 274 => 160 | 275 => 161 | n => n, fun | 9 => 9 | 4 => 4 | 3 => 3 | 5 => 5 | 72 => 99 | 0 => 0 | 76 => 103 | 75 => 102 | 107 => 148 | 70 => 97 | 20 => 20 | 37 => 31 | 127 => 134 | 21 => 21 | 105 => 174 | 164 => 149 | 162 => 197 | 203 => 195 | 119 => 109 | 46 => 117 | 139 => 206 | 138 => 205 | 51 => 36 | 160 => 207 | 208 => 215 | 206 => 213 | 80 => 105 | n => n, fun | 13 => 6 | 3 => 7 | 4 => 8 | n => n⟩
theorem Tryd.lays158 : Go.Proofs.Lays.n158 Tryd.prog Tryd.lays158_ren := {
  mixed := by kernel_rfl
  f118 := Tryd.func134.trans (congrArg some (by kernel_rfl))
  f158 := Tryd.func88.trans (congrArg some (by kernel_rfl))
  f165 := Tryd.func63.trans (congrArg some (by kernel_rfl))
  f166 := Tryd.func64.trans (congrArg some (by kernel_rfl))
  f167 := Tryd.func107.trans (congrArg some (by kernel_rfl))
  f168 := Tryd.func135.trans (congrArg some (by kernel_rfl))
  f169 := Tryd.func65.trans (congrArg some (by kernel_rfl))
  f197 := Tryd.func133.trans (congrArg some (by kernel_rfl))
  f203 := Tryd.func109.trans (congrArg some (by kernel_rfl))
  f230 := Tryd.func108.trans (congrArg some (by kernel_rfl))
  f240 := Tryd.func90.trans (congrArg some (by kernel_rfl))
  f241 := Tryd.func91.trans (congrArg some (by kernel_rfl))
  f242 := Tryd.func153.trans (congrArg some (by kernel_rfl))
  f260 := Tryd.func152.trans (congrArg some (by kernel_rfl))
  f262 := Tryd.func137.trans (congrArg some (by kernel_rfl))
  f270 := Tryd.func136.trans (congrArg some (by kernel_rfl))
  f274 := Tryd.func160.trans (congrArg some (by kernel_rfl))
  f275 := Tryd.func161.trans (congrArg some (by kernel_rfl))
  f276 := Tryd.func111.trans (congrArg some (by kernel_rfl))
  f277 := Tryd.func112.trans (congrArg some (by kernel_rfl))
  f278 := Tryd.func159.trans (congrArg some (by kernel_rfl))
  f313 := Tryd.func154.trans (congrArg some (by kernel_rfl))
  t0 := Tryd.underlying0
  a0 := Tryd.isAgg0
  z0 := Tryd.sizeOf0
  v0 := Tryd.zeroValue0
  t3 := Tryd.underlying3
  a3 := Tryd.isAgg3
  z3 := Tryd.sizeOf3
  v3 := Tryd.zeroValue3
  t4 := Tryd.underlying4
  a4 := Tryd.isAgg4
  z4 := Tryd.sizeOf4
  v4 := Tryd.zeroValue4
  t5 := Tryd.underlying5
  a5 := Tryd.isAgg5
  z5 := Tryd.sizeOf5
  v5 := Tryd.zeroValue5
  t9 := Tryd.underlying9
  a9 := Tryd.isAgg9
  z9 := Tryd.sizeOf9
  v9 := Tryd.zeroValue9
  t20 := Tryd.underlying20
  a20 := Tryd.isAgg20
  z20 := Tryd.sizeOf20
  v20 := Tryd.zeroValue20
  t21 := Tryd.underlying21
  a21 := Tryd.isAgg21
  z21 := Tryd.sizeOf21
  v21 := Tryd.zeroValue21
  t37 := Tryd.underlying31
  a37 := Tryd.isAgg31
  z37 := Tryd.sizeOf31
  v37 := Tryd.zeroValue31
  t46 := Tryd.underlying117
  a46 := Tryd.isAgg117
  z46 := Tryd.sizeOf117
  v46 := Tryd.zeroValue117
  t51 := Tryd.underlying36
  a51 := Tryd.isAgg36
  z51 := Tryd.sizeOf36
  v51 := Tryd.zeroValue36
  t70 := Tryd.underlying97
  a70 := Tryd.isAgg97
  z70 := Tryd.sizeOf97
  v70 := Tryd.zeroValue97
  t72 := Tryd.underlying99
  a72 := Tryd.isAgg99
  z72 := Tryd.sizeOf99
  v72 := Tryd.zeroValue99
  t75 := Tryd.underlying102
  a75 := Tryd.isAgg102
  z75 := Tryd.sizeOf102
  v75 := Tryd.zeroValue102
  t76 := Tryd.underlying103
  a76 := Tryd.isAgg103
  z76 := Tryd.sizeOf103
  v76 := Tryd.zeroValue103
  t105 := Tryd.underlying174
  a105 := Tryd.isAgg174
  z105 := Tryd.sizeOf174
  v105 := Tryd.zeroValue174
  t107 := Tryd.underlying148
  a107 := Tryd.isAgg148
  z107 := Tryd.sizeOf148
  v107 := Tryd.zeroValue148
  t119 := Tryd.underlying109
  a119 := Tryd.isAgg109
  z119 := Tryd.sizeOf109
  t127 := Tryd.underlying134
  a127 := Tryd.isAgg134
  z127 := Tryd.sizeOf134
  v127 := Tryd.zeroValue134
  t138 := Tryd.underlying205
  a138 := Tryd.isAgg205
  z138 := Tryd.sizeOf205
  v138 := Tryd.zeroValue205
  t139 := Tryd.underlying206
  a139 := Tryd.isAgg206
  z139 := Tryd.sizeOf206
  v139 := Tryd.zeroValue206
  t160 := Tryd.underlying207
  a160 := Tryd.isAgg207
  z160 := Tryd.sizeOf207
  v160 := Tryd.zeroValue207
  t162 := Tryd.underlying197
  a162 := Tryd.isAgg197
  z162 := Tryd.sizeOf197
  v162 := Tryd.zeroValue197
  t164 := Tryd.underlying149
  a164 := Tryd.isAgg149
  z164 := Tryd.sizeOf149
  v164 := Tryd.zeroValue149
  t203 := Tryd.underlying195
  a203 := Tryd.isAgg195
  z203 := Tryd.sizeOf195
  v203 := Tryd.zeroValue195
  t206 := Tryd.underlying213
  a206 := Tryd.isAgg213
  z206 := Tryd.sizeOf213
  v206 := Tryd.zeroValue213
  t208 := Tryd.underlying215
  a208 := Tryd.isAgg215
  z208 := Tryd.sizeOf215
  v208 := Tryd.zeroValue215
  g3 := by kernel_rfl
  g4 := by kernel_rfl
  g13 := by kernel_rfl }
theorem Tryd.Builder_Extra_158 : Builder.Extra Tryd.prog Tryd.lays158_ren := {
  sizeBuilder := by kernel_rfl
  liesBuilder := by kernel_rfl
  t5 := Tryd.underlying5
  a5 := Tryd.isAgg5
  z5 := Tryd.sizeOf5
  v5 := Tryd.zeroValue5
  infoByte := by kernel_rfl
  cellsByte := by kernel_rfl
  sizeByte := by kernel_rfl
  neB5 := by decide }
open Go.RowKit in
theorem Tryd.strings_ToUpper_ascii (s : ByteArray) (w : World) (hs : s.size ≤ 140737488355328) (hascii : ∀ (j : Nat) (b : UInt8), s.data.toList[j]? = some b → b.toNat < 128) :
    Calls Tryd.prog 88 #[.string s] w fun e w' => e = .returned (.string ⟨(Lib.toUpperA s.data.toList).toArray⟩) ∧ Below w.heap.size w w' := Any.strings_ToUpper_ascii Tryd.lays158 Tryd.Builder_Extra_158 s w hs hascii
def Tryd.lays156_ren : Go.Shelf.Ren := ⟨fun | 156 => 35 | 165 => 63 | 166 => 64 | 169 => 65 | 240 => 90 | 241 => 91 | 276 => 111 | 277 => 112 | n => n, fun | 31 => 60 | 9 => 9 | 3 => 3 | 4 => 4 | 0 => 0 | 20 => 20 | 72 => 99 | 76 => 103 | 70 => 97 | 37 => 31 | 75 => 102 | 127 => 134 | 164 => 149 | 5 => 5 | 80 => 105 | n => n, fun | n => n⟩
theorem Tryd.lays156 : Go.Proofs.Lays.n156 Tryd.prog Tryd.lays156_ren := {
  mixed := by kernel_rfl
  f156 := Tryd.func35.trans (congrArg some (by kernel_rfl))
  f165 := Tryd.func63.trans (congrArg some (by kernel_rfl))
  f166 := Tryd.func64.trans (congrArg some (by kernel_rfl))
  f169 := Tryd.func65.trans (congrArg some (by kernel_rfl))
  f240 := Tryd.func90.trans (congrArg some (by kernel_rfl))
  f241 := Tryd.func91.trans (congrArg some (by kernel_rfl))
  f276 := Tryd.func111.trans (congrArg some (by kernel_rfl))
  f277 := Tryd.func112.trans (congrArg some (by kernel_rfl))
  t0 := Tryd.underlying0
  a0 := Tryd.isAgg0
  z0 := Tryd.sizeOf0
  v0 := Tryd.zeroValue0
  t3 := Tryd.underlying3
  a3 := Tryd.isAgg3
  z3 := Tryd.sizeOf3
  v3 := Tryd.zeroValue3
  t4 := Tryd.underlying4
  a4 := Tryd.isAgg4
  z4 := Tryd.sizeOf4
  v4 := Tryd.zeroValue4
  t9 := Tryd.underlying9
  a9 := Tryd.isAgg9
  z9 := Tryd.sizeOf9
  v9 := Tryd.zeroValue9
  t20 := Tryd.underlying20
  a20 := Tryd.isAgg20
  z20 := Tryd.sizeOf20
  v20 := Tryd.zeroValue20
  t31 := Tryd.underlying60
  a31 := Tryd.isAgg60
  z31 := Tryd.sizeOf60
  v31 := Tryd.zeroValue60
  t37 := Tryd.underlying31
  a37 := Tryd.isAgg31
  z37 := Tryd.sizeOf31
  v37 := Tryd.zeroValue31
  t70 := Tryd.underlying97
  a70 := Tryd.isAgg97
  z70 := Tryd.sizeOf97
  v70 := Tryd.zeroValue97
  t72 := Tryd.underlying99
  a72 := Tryd.isAgg99
  z72 := Tryd.sizeOf99
  v72 := Tryd.zeroValue99
  t75 := Tryd.underlying102
  a75 := Tryd.isAgg102
  z75 := Tryd.sizeOf102
  v75 := Tryd.zeroValue102
  t76 := Tryd.underlying103
  a76 := Tryd.isAgg103
  z76 := Tryd.sizeOf103
  v76 := Tryd.zeroValue103
  t127 := Tryd.underlying134
  a127 := Tryd.isAgg134
  z127 := Tryd.sizeOf134
  v127 := Tryd.zeroValue134
  t164 := Tryd.underlying149
  a164 := Tryd.isAgg149
  z164 := Tryd.sizeOf149
  v164 := Tryd.zeroValue149 }
theorem Tryd.Builder_Extra_156 : Builder.Extra Tryd.prog Tryd.lays156_ren := {
  sizeBuilder := by kernel_rfl
  liesBuilder := by kernel_rfl
  t5 := Tryd.underlying5
  a5 := Tryd.isAgg5
  z5 := Tryd.sizeOf5
  v5 := Tryd.zeroValue5
  infoByte := by kernel_rfl
  cellsByte := by kernel_rfl
  sizeByte := by kernel_rfl
  neB5 := by decide }
open Go.RowKit in
theorem Tryd.strings_Join_none (a : Option Addr) (c : Nat) (sep : ByteArray) (w : World) :
    Calls Tryd.prog 35 #[.slice a 0 c, .string sep] w fun e w' => e = .returned (.string ⟨#[]⟩) ∧ w' = w := Any.strings_Join_none Tryd.lays156 Tryd.Builder_Extra_156 a c sep w
open Go.RowKit in
theorem Tryd.strings_Join (bk o c : Nat) (xs : List ByteArray) (sep : ByteArray) (w : World) (hcells : ∀ (j : Nat) x, xs[j]? = some x → w.cell? ⟨bk, o + j, none⟩ = some (.string x)) (hbk : bk < w.heap.size) (hN : xs.length ≤ 140737488355328) (hcap : xs.length ≤ c) (hlen : (Lib.join (xs.map (·.data.toList)) sep.data.toList).length ≤ 140737488355328) :
    Calls Tryd.prog 35 #[.slice (some ⟨bk, o, none⟩) xs.length c, .string sep] w fun e w' => e = .returned (.string ⟨(Lib.join (xs.map (·.data.toList)) sep.data.toList).toArray⟩) ∧ Below w.heap.size w w' := Any.strings_Join Tryd.lays156 Tryd.Builder_Extra_156 bk o c xs sep w hcells hbk hN hcap hlen
def Tryd.laysM171_ren : Go.Shelf.Ren := ⟨fun | 171 => 56 | 243 => 78 | 246 => 100 | 283 => 123 | 284 => 124 | 285 => 125 | 286 => 126 | 129 => 141 | 317 => 140 | 318 => 142 | 319 => 143 | 320 => 144 | 337 => 155 | 338 => 156 | n => n, fun | 3 => 3 | 9 => 9 | 2 => 2 | 4 => 4 | 171 => 167 | 0 => 0 | 53 => 112 | 37 => 31 | 5 => 5 | 173 => 170 | 212 => 187 | 51 => 36 | 20 => 20 | 213 => 188 | 46 => 117 | 232 => 210 | 233 => 211 | n => n, fun | 17 => 5 | 18 => 9 | 19 => 10 | n => n⟩
theorem Tryd.laysM171 : Go.Proofs.LaysM.n171 Tryd.prog Tryd.laysM171_ren := {
  mixed := by kernel_rfl
  f129 := Tryd.func141.trans (congrArg some (by kernel_rfl))
  f171 := Tryd.func56.trans (congrArg some (by kernel_rfl))
  f243 := Tryd.func78.trans (congrArg some (by kernel_rfl))
  f246 := Tryd.func100.trans (congrArg some (by kernel_rfl))
  f283 := Tryd.func123.trans (congrArg some (by kernel_rfl))
  f284 := Tryd.func124.trans (congrArg some (by kernel_rfl))
  f285 := Tryd.func125.trans (congrArg some (by kernel_rfl))
  f286 := Tryd.func126.trans (congrArg some (by kernel_rfl))
  f317 := Tryd.func140.trans (congrArg some (by kernel_rfl))
  f318 := Tryd.func142.trans (congrArg some (by kernel_rfl))
  f319 := Tryd.func143.trans (congrArg some (by kernel_rfl))
  f320 := Tryd.func144.trans (congrArg some (by kernel_rfl))
  f337 := Tryd.func155.trans (congrArg some (by kernel_rfl))
  f338 := Tryd.func156.trans (congrArg some (by kernel_rfl))
  t0 := Tryd.underlying0
  a0 := Tryd.isAgg0
  z0 := Tryd.sizeOf0
  v0 := Tryd.zeroValue0
  t2 := Tryd.underlying2
  a2 := Tryd.isAgg2
  z2 := Tryd.sizeOf2
  v2 := Tryd.zeroValue2
  t3 := Tryd.underlying3
  a3 := Tryd.isAgg3
  z3 := Tryd.sizeOf3
  v3 := Tryd.zeroValue3
  t4 := Tryd.underlying4
  a4 := Tryd.isAgg4
  z4 := Tryd.sizeOf4
  v4 := Tryd.zeroValue4
  t5 := Tryd.underlying5
  a5 := Tryd.isAgg5
  z5 := Tryd.sizeOf5
  v5 := Tryd.zeroValue5
  t9 := Tryd.underlying9
  a9 := Tryd.isAgg9
  z9 := Tryd.sizeOf9
  v9 := Tryd.zeroValue9
  t20 := Tryd.underlying20
  a20 := Tryd.isAgg20
  z20 := Tryd.sizeOf20
  v20 := Tryd.zeroValue20
  t37 := Tryd.underlying31
  a37 := Tryd.isAgg31
  z37 := Tryd.sizeOf31
  v37 := Tryd.zeroValue31
  t46 := Tryd.underlying117
  a46 := Tryd.isAgg117
  z46 := Tryd.sizeOf117
  v46 := Tryd.zeroValue117
  t51 := Tryd.underlying36
  a51 := Tryd.isAgg36
  z51 := Tryd.sizeOf36
  v51 := Tryd.zeroValue36
  t53 := Tryd.underlying112
  a53 := Tryd.isAgg112
  z53 := Tryd.sizeOf112
  v53 := Tryd.zeroValue112
  t171 := Tryd.underlying167
  a171 := Tryd.isAgg167
  z171 := Tryd.sizeOf167
  v171 := Tryd.zeroValue167
  t173 := Tryd.underlying170
  a173 := Tryd.isAgg170
  z173 := Tryd.sizeOf170
  v173 := Tryd.zeroValue170
  t212 := Tryd.underlying187
  a212 := Tryd.isAgg187
  z212 := Tryd.sizeOf187
  v212 := Tryd.zeroValue187
  t213 := Tryd.underlying188
  a213 := Tryd.isAgg188
  z213 := Tryd.sizeOf188
  t232 := Tryd.underlying210
  a232 := Tryd.isAgg210
  z232 := Tryd.sizeOf210
  v232 := Tryd.zeroValue210
  t233 := Tryd.underlying211
  a233 := Tryd.isAgg211
  z233 := Tryd.sizeOf211
  v233 := Tryd.zeroValue211
  g17 := by kernel_rfl
  g18 := by kernel_rfl
  g19 := by kernel_rfl
  i0 := by kernel_rfl
  i2 := by kernel_rfl
  i3 := by kernel_rfl
  i4 := by kernel_rfl
  i5 := by kernel_rfl
  i9 := by kernel_rfl
  i20 := by kernel_rfl
  i37 := by kernel_rfl
  i46 := by kernel_rfl
  i51 := by kernel_rfl
  i53 := by kernel_rfl
  i171 := by kernel_rfl
  i173 := by kernel_rfl
  i212 := by kernel_rfl
  i232 := by kernel_rfl
  i233 := by kernel_rfl
  m17 := by kernel_rfl
  m18 := by kernel_rfl
  m19 := by kernel_rfl }
open Go.RowKit Go.Sort Go.Lib in
theorem Tryd.strconv_Itoa (n : Int) (h0 : -9223372036854775808 ≤ n) (h1 : n ≤ 9223372036854775807) (w : World) (htab : Lib.TabIs Tryd.prog w "internal/strconv.uint64pow10" .u64 Lib.pow10Tab) :
    Calls Tryd.prog 56 #[.int .i64 n] w fun e w' => e = .returned (.string ⟨(Lib.itoa n).toArray⟩) ∧ ∃ k os, w' = grow (w.drewN k) os := Any.strconv_Itoa Tryd.laysM171 n h0 h1 w htab
end Go.Proofs
set_option linter.unusedVariables false
set_option linter.unusedSimpArgs false
namespace Go.Proofs.YtkieeaajhomdoaaDoor
open Go.RowKit Go.Maps Go.MapKept
/-- What is asked of the library's variables where tokens are written. -/
structure VarsT (w : World) : Prop where
  vars : Vars w
  trail : w.cell? ⟨10, 15, none⟩ = some (.int .u8 4)
  pow : Lib.TabIs Tryd.prog w "internal/strconv.uint64pow10" .u64 Lib.pow10Tab
theorem VarsT.stays {w w' : World} (h : VarsT w) (hb : Below w.heap.size w w') : VarsT w' :=
  ⟨h.vars.stays hb, (hb.cell (World.block_lt_of_cell? w _ h.trail)).trans h.trail, Joins.tab_stays (g := 5) (by kernel_rfl) h.pow hb (Nat.le_refl _)⟩
def hexUp (n : Nat) : List UInt8 := Lib.toUpperA (hexLow n)
def hexedL (n : Nat) (always : Bool) : List UInt8 := if always || (match hexUp n with | c :: _ => decide (57 < c.toNat) | [] => false) then 48 :: hexUp n else hexUp n
theorem digL_ascii : ∀ d, d < 16 → (digL d).toNat < 128 := by
  intro d h
  have : ∀ d : Fin 16, (digL d.1).toNat < 128 := by decide
  exact this ⟨d, h⟩
theorem hexLow_ascii (n : Nat) : ∀ c ∈ hexLow n, c.toNat < 128 := by
  induction n using Nat.strongRecOn with
  | _ n ih =>
    rw [hexLow]
    split
    · intro c hc
      simp only [List.mem_cons, List.not_mem_nil, or_false] at hc
      subst hc
      exact digL_ascii _ (by omega)
    · intro c hc
      rcases List.mem_append.1 hc with hc | hc
      · exact ih (n / 16) (by omega) c hc
      · simp only [List.mem_cons, List.not_mem_nil, or_false] at hc
        subst hc
        exact digL_ascii _ (by omega)
set_option maxRecDepth 100000 in
set_option maxHeartbeats 1600000 in
theorem hexed_any (n : Nat) (always : Bool) (w : World) (hv : VarsT w) (hn : (n : Int) ≤ 4294967295) : Calls Tryd.prog 62 #[.int .u32 n, .bool always] w (fun e w' => e = .returned (.string ⟨(hexedL n always).toArray⟩) ∧ Below w.heap.size w w') := by
  have HV := Lib.hid hv
  clear hv
  obtain ⟨S, hS⟩ : ∃ S : ByteArray, (⟨(hexUp n).toArray⟩ : ByteArray) = S := ⟨_, rfl⟩
  have hlen := hexLow_len n (by omega)
  have hpos := hexLow_pos n
  have hSz : S.size = (hexLow n).length := by rw [← hS]; show (hexUp n).toArray.size = _; simp [hexUp, Lib.toUpperA]
  have hSl : S.data.toList = hexUp n := by rw [← hS]
  have hS0 : 0 < S.size := by omega
  have hS0i : (0 : Int) < S.size := by omega
  have hS8 : (S.size : Int) ≤ 8 := by omega
  have hSc : ¬ (9223372036854775807 < 1 + S.size) := by omega
  have hcons : hexUp n = S[0] :: S.data.toList.drop 1 := by rw [← hSl]; exact drop_cons S 0 hS0
  have hput : (⟨#[48]⟩ : ByteArray) ++ S = ⟨(48 :: hexUp n).toArray⟩ := by
    rw [← hS]
    apply ByteArray.ext
    simp [ByteArray.data_append]
  have HS := Lib.hid hS
  have HCONS := Lib.hid hcons
  have HPUT := Lib.hid hput
  clear hSz hSl hcons hput
  go_enter Tryd.func62, Tryd.ntmps62
  go_wp2_with fail
  refine (FormatUint_any n _ hn HV.out.trail).mono ?_
  rintro e w1 ⟨rfl, hB⟩
  go_wp2_with fail
  refine (Tryd.strings_ToUpper_ascii ⟨(hexLow n).toArray⟩ _ (by show (hexLow n).toArray.size ≤ _; simp; omega) ?_).mono ?_
  · intro j b hj
    exact hexLow_ascii n b (List.mem_of_getElem? hj)
  rintro e w2 ⟨rfl, hB2⟩
  rw [show (⟨(Lib.toUpperA (⟨(hexLow n).toArray⟩ : ByteArray).data.toList).toArray⟩ : ByteArray) = S from hS]
  clear hS
  cases always with
  | true =>
    go_wp2_with fail
    go_ret
    exact ⟨by rw [HPUT.out, hexedL, if_pos (by simp)]; rfl, bthen hB hB2⟩
  | false =>
    by_cases hbig : (57 : Int) < (S[0].toNat : Nat)
    · go_wp2_with fail
      go_ret
      refine ⟨?_, bthen hB hB2⟩
      rw [HPUT.out, hexedL, if_pos (by rw [HCONS.out]; simp; omega)]
      rfl
    · go_wp2_with fail
      go_ret
      refine ⟨?_, bthen hB hB2⟩
      show Ending.returned (.string S) = _
      rw [hexedL, if_neg (by rw [HCONS.out]; simp; omega), HS.out]
end Go.Proofs.YtkieeaajhomdoaaDoor
set_option linter.unusedVariables false
set_option linter.unusedSimpArgs false
namespace Go.Proofs.YtkieeaajhomdoaaDoor
/-! A token as it stands, over lists of bytes. -/
def u32 (n : Int) : Nat := (n % 4294967296).toNat
def spell (t : Tok) : List UInt8 :=
  if t.kind = 3 then (if t.n < 0 then hexedL (u32 t.n) true ++ [72] else Lib.itoa t.n)
  else if t.kind = 4 then hexedL (u32 t.n) false ++ [88]
  else if t.kind = 5 then 34 :: (t.text ++ [34])
  else t.text
def isWord (s : List UInt8) : Prop := 1 ≤ s.length ∧ s.length ≤ 24 ∧ (∃ c r, s = c :: r ∧ isLetter c = true) ∧ ∀ c ∈ s, isInside c = true
def isQuot (s : List UInt8) : Prop := s.length ≤ 64 ∧ ∀ c ∈ s, isPlain c = true
def GoodT (t : Tok) : Prop :=
  (t.kind = 1 ∧ t.n = 0 ∧ isWord t.text ∧ t.text ∉ keyList) ∨ (t.kind = 2 ∧ t.n = 0 ∧ t.text ∈ keyList) ∨
  (t.kind = 3 ∧ t.text = [] ∧ -2147483648 ≤ t.n ∧ t.n < 2147483648) ∨ (t.kind = 4 ∧ t.text = [] ∧ 0 ≤ t.n ∧ t.n < 256) ∨
  (t.kind = 5 ∧ t.n = 0 ∧ isQuot t.text) ∨ (t.kind = 6 ∧ t.n = 0 ∧ t.text ∈ signList)
/-- What the program asks of a spelling. -/
def Spelt (t : Tok) : Prop := spell t ≠ [] ∧ (spell t).length ≤ 66 ∧ [40, 42].isPrefixOf (spell t) = false ∧ tok (spell t) = .ok ({ t with at_ := 0 }, (spell t).length)
theorem run_all {p : UInt8 → Bool} {l : List UInt8} (h : ∀ c ∈ l, p c = true) : run p l = l.length :=
  run_eq (Nat.le_refl _) (fun c hc => h c (List.mem_of_mem_take hc)) (fun h => absurd h (Nat.lt_irrefl _))
theorem all_run {p : UInt8 → Bool} {l : List UInt8} (h : run p l = l.length) : ∀ c ∈ l, p c = true := fun c hc => run_take_all c (by rw [h, List.take_length]; exact hc)
theorem run_stop {p : UInt8 → Bool} {l : List UInt8} {z : UInt8} {Z : List UInt8} (h : ∀ c ∈ l, p c = true) (hz : p z = false) : run p (l ++ z :: Z) = l.length :=
  run_eq (by simp) (fun c hc => h c (by rwa [List.take_append_of_le_length (Nat.le_refl _), List.take_length] at hc)) (fun hlt => by
    rw [List.getElem_append_right (Nat.le_refl _)]; simpa using hz)
/-! numbers -/
def digU (d : Nat) : UInt8 := UInt8.ofNat (if d < 10 then 48 + d else 55 + d)
theorem digU_up : ∀ d, d < 16 → Lib.upperB (digL d) = digU d := by
  intro d h
  have : ∀ d : Fin 16, Lib.upperB (digL d.1) = digU d.1 := by decide
  exact this ⟨d, h⟩
theorem digU_facts : ∀ d, d < 16 → isHex (digU d) = true ∧ hexDig (digU d) = d ∧ ((digU d).toNat ≤ 57 → isDigit (digU d) = true) := by
  intro d h
  have : ∀ d : Fin 16, isHex (digU d.1) = true ∧ hexDig (digU d.1) = d.1 ∧ ((digU d.1).toNat ≤ 57 → isDigit (digU d.1) = true) := by decide
  exact this ⟨d, h⟩
theorem hexUp_small {n : Nat} (h : n < 16) : hexUp n = [digU n] := by rw [hexUp, hexLow_small h, Lib.toUpperA, List.map_cons, digU_up n h]; rfl
theorem hexUp_step {n : Nat} (h : 16 ≤ n) : hexUp n = hexUp (n / 16) ++ [digU (n % 16)] := by
  rw [hexUp, hexLow_step h, Lib.toUpperA, List.map_append, List.map_cons, digU_up _ (by omega)]; rfl
theorem hexUp_len (n : Nat) : (hexUp n).length = (hexLow n).length := by simp [hexUp, Lib.toUpperA]
theorem hexUp_hex (n : Nat) : ∀ c ∈ hexUp n, isHex c = true := by
  induction n using Nat.strongRecOn with
  | _ n ih =>
    intro c hc
    by_cases h : n < 16
    · rw [hexUp_small h] at hc
      simp only [List.mem_cons, List.not_mem_nil, or_false] at hc
      subst hc
      exact (digU_facts n h).1
    · rw [hexUp_step (by omega)] at hc
      rcases List.mem_append.1 hc with hc | hc
      · exact ih (n / 16) (by omega) c hc
      · simp only [List.mem_cons, List.not_mem_nil, or_false] at hc
        subst hc
        exact (digU_facts _ (by omega)).1
theorem nv_snoc (b : Nat) (l : List UInt8) (c : UInt8) : numVal b (l ++ [c]) = numVal b l * b + hexDig c := by simp [numVal]
theorem numVal_zero (b : Nat) (l : List UInt8) : numVal b (48 :: l) = numVal b l := by
  show List.foldl _ (0 * b + hexDig 48) l = _
  rw [Nat.zero_mul]; rfl
theorem hexUp_val (n : Nat) : numVal 16 (hexUp n) = n := by
  induction n using Nat.strongRecOn with
  | _ n ih =>
    by_cases h : n < 16
    · rw [hexUp_small h]
      show 0 * 16 + hexDig (digU n) = n
      rw [(digU_facts n h).2.1]; omega
    · rw [hexUp_step (by omega), nv_snoc, ih _ (by omega), (digU_facts _ (by omega)).2.1]; omega
theorem hexUp_digit (c : UInt8) (h : isHex c = true) (h2 : c.toNat ≤ 57) : isDigit c = true := by
  simp only [isHex, isDigit, Bool.or_eq_true, Bool.and_eq_true, decide_eq_true_eq] at h ⊢
  omega
theorem hexedL_facts (n : Nat) (a : Bool) : (∃ c r, hexedL n a = c :: r ∧ isDigit c = true) ∧ (∀ c ∈ hexedL n a, isHex c = true) ∧ numVal 16 (hexedL n a) = n ∧ (hexedL n a).length ≤ (hexLow n).length + 1 := by
  have hp : 1 ≤ (hexUp n).length := by rw [hexUp_len]; exact hexLow_pos n
  obtain ⟨c, r, hcr⟩ : ∃ c r, hexUp n = c :: r := by
    match hexUp n, hp with
    | c :: r, _ => exact ⟨c, r, rfl⟩
  have hx := hexUp_hex n
  have hv := hexUp_val n
  have hl := hexUp_len n
  unfold hexedL
  rw [hcr] at hx hv hl ⊢
  simp only
  by_cases h : (a || decide (57 < c.toNat)) = true
  · rw [if_pos h]
    refine ⟨⟨48, _, rfl, rfl⟩, ?_, ?_, ?_⟩
    · intro d hd
      rcases List.mem_cons.1 hd with rfl | hd
      · rfl
      · exact hx d hd
    · rw [numVal_zero, hv]
    · rw [List.length_cons, hl]; omega
  · rw [if_neg h]
    refine ⟨⟨c, r, rfl, ?_⟩, hx, hv, by rw [hl]; omega⟩
    simp only [Bool.or_eq_true, decide_eq_true_eq, not_or] at h
    exact hexUp_digit c (hx c (by simp)) (by omega)
theorem dec_facts (n : Nat) : (∀ c ∈ Lib.decDigits n, isDigit c = true) ∧ numVal 10 (Lib.decDigits n) = n ∧ 1 ≤ (Lib.decDigits n).length := by
  have hd : ∀ d, d < 10 → isDigit (UInt8.ofNat (48 + d)) = true ∧ hexDig (UInt8.ofNat (48 + d)) = d := by
    intro d h
    have : ∀ d : Fin 10, isDigit (UInt8.ofNat (48 + d.1)) = true ∧ hexDig (UInt8.ofNat (48 + d.1)) = d.1 := by decide
    exact this ⟨d, h⟩
  induction n using Nat.strongRecOn with
  | _ n ih =>
    by_cases h : n < 10
    · rw [Lib.decDigits, dif_pos h]
      refine ⟨?_, ?_, by simp⟩
      · intro c hc
        simp only [List.mem_cons, List.not_mem_nil, or_false] at hc
        subst hc
        exact (hd n h).1
      · show 0 * 10 + hexDig _ = n
        rw [(hd n h).2]; omega
    · rw [Lib.decDigits, dif_neg h]
      obtain ⟨h1, h2, h3⟩ := ih (n / 10) (by omega)
      refine ⟨?_, ?_, by rw [List.length_append]; omega⟩
      · intro c hc
        rcases List.mem_append.1 hc with hc | hc
        · exact h1 c hc
        · simp only [List.mem_cons, List.not_mem_nil, or_false] at hc
          subst hc
          exact (hd _ (by omega)).1
      · rw [nv_snoc, h2, (hd _ (by omega)).2]; omega
theorem digit_letter {c : UInt8} (h : isDigit c = true) : isLetter c = false := by
  simp only [isDigit, Bool.and_eq_true, decide_eq_true_eq] at h
  simp only [isLetter, Bool.or_eq_false_iff, Bool.and_eq_false_iff, decide_eq_false_iff_not]
  omega
theorem digit_hex {c : UInt8} (h : isDigit c = true) : isHex c = true := by simp [isHex, h]
theorem tok_digit {c : UInt8} {r : List UInt8} (h : isDigit c = true) : tok (c :: r) = numTok (c :: r) := by
  simp only [tok, digit_letter h, h, Bool.false_eq_true, if_false, if_true]
theorem num_hex (l : List UInt8) (h : ∀ c ∈ l, isHex c = true) : numTok (l ++ [72]) = if numVal 16 l < 4294967296 then .ok (⟨3, [], if numVal 16 l < 2147483648 then numVal 16 l else (numVal 16 l : Int) - 4294967296, 0⟩, l.length + 1) else .error 91 := by
  have hr := run_stop (p := isHex) (z := 72) (Z := []) h (by decide)
  unfold numTok
  simp only [hr, List.take_left]
  rw [if_pos (by simp)]
theorem num_chr (l : List UInt8) (h : ∀ c ∈ l, isHex c = true) : numTok (l ++ [88]) = if numVal 16 l < 256 then .ok (⟨4, [], numVal 16 l, 0⟩, l.length + 1) else .error 91 := by
  have hr := run_stop (p := isHex) (z := 88) (Z := []) h (by decide)
  unfold numTok
  simp only [hr, List.take_left]
  rw [if_neg (by simp), if_pos (by simp)]
theorem num_dec (l : List UInt8) (h : ∀ c ∈ l, isDigit c = true) : numTok l = if numVal 10 l < 2147483648 then .ok (⟨3, [], numVal 10 l, 0⟩, l.length) else .error 91 := by
  have hr := run_all (p := isHex) (l := l) (fun c hc => digit_hex (h c hc))
  have hd := run_all (p := isDigit) (l := l) h
  unfold numTok
  simp only [hr, List.take_length, hd, List.getElem?_eq_none (Nat.le_refl l.length)]
  simp
theorem opt_ok {r : Except Int (Tok × Nat)} {x : Tok × Nat} (h : (match r with | .ok y => some y | .error _ => none) = some x) : r = .ok x := by
  cases r with
  | ok y => simp only [Option.some.injEq] at h; rw [h]
  | error e => cases h
theorem key_tok : ∀ w ∈ keyList, w ≠ [] ∧ w.length ≤ 66 ∧ [40, 42].isPrefixOf w = false ∧ tok w = .ok (⟨2, w, 0, 0⟩, w.length) := by
  have key : ∀ w ∈ keyList, w ≠ [] ∧ w.length ≤ 66 ∧ [40, 42].isPrefixOf w = false ∧ (match tok w with | .ok y => some y | .error _ => none) = some ((⟨2, w, 0, 0⟩ : Tok), w.length) := by decide +kernel
  exact fun w hw => ⟨(key w hw).1, (key w hw).2.1, (key w hw).2.2.1, opt_ok (key w hw).2.2.2⟩
theorem sign_tok : ∀ w ∈ signList, w ≠ [] ∧ w.length ≤ 66 ∧ [40, 42].isPrefixOf w = false ∧ tok w = .ok (⟨6, w, 0, 0⟩, w.length) := by
  have key : ∀ w ∈ signList, w ≠ [] ∧ w.length ≤ 66 ∧ [40, 42].isPrefixOf w = false ∧ (match tok w with | .ok y => some y | .error _ => none) = some ((⟨6, w, 0, 0⟩ : Tok), w.length) := by decide +kernel
  exact fun w hw => ⟨(key w hw).1, (key w hw).2.1, (key w hw).2.2.1, opt_ok (key w hw).2.2.2⟩
theorem dec_len (n : Nat) (h : n < 10000000000000000000) : (Lib.decDigits n).length ≤ 19 := by
  have key : ∀ (k n : Nat), n < 10 ^ (k + 1) → (Lib.decDigits n).length ≤ k + 1 := by
    intro k
    induction k with
    | zero => intro n h; rw [Lib.decDigits, dif_pos (by simpa using h)]; simp
    | succ k ih =>
      intro n h
      rw [Lib.decDigits]
      split
      · simp
      · rw [List.length_append]
        have := ih (n / 10) (by rw [Nat.pow_succ] at h; omega)
        simp only [List.length_cons, List.length_nil]
        omega
  exact key 18 n h
/-- Of what kind the token of a text is. -/
theorem tok_kind {s : List UInt8} {y : Tok} {n : Nat} (h : tok s = .ok (y, n)) :
    (∃ c r, s = c :: r ∧ isLetter c = true ∧ n = run isInside s ∧ y.n = 0 ∧ y.text = s.take n ∧ ((y.kind = 2 ∧ s.take n ∈ keyList) ∨ (y.kind = 1 ∧ s.take n ∉ keyList ∧ n ≤ 24))) ∨
    (y.kind = 3 ∨ y.kind = 4) ∨
    (∃ r, s = 34 :: r ∧ textTok r = .ok (y, n)) ∨
    (∃ w ∈ signList, y = ⟨6, w, 0, 0⟩ ∧ n = w.length ∧ w.isPrefixOf s = true) := by
  match s with
  | [] => cases h
  | c :: r =>
    unfold tok at h
    simp only at h
    split at h
    · rename_i h1
      refine .inl ⟨c, r, rfl, h1, ?_⟩
      have hle := run_le isInside (c :: r)
      unfold wordTok at h
      split at h
      · rename_i hk
        simp only [Except.map, Except.ok.injEq, Prod.mk.injEq] at h
        obtain ⟨rfl, rfl⟩ := h
        exact ⟨rfl, rfl, rfl, .inl ⟨rfl, hk⟩⟩
      · split at h
        · cases h
        · rename_i hk hl
          simp only [Except.map, Except.ok.injEq, Prod.mk.injEq] at h
          obtain ⟨rfl, rfl⟩ := h
          rw [List.length_take_of_le hle] at hl
          exact ⟨rfl, rfl, rfl, .inr ⟨rfl, hk, by omega⟩⟩
    · split at h
      · refine .inr (.inl ?_)
        unfold numTok at h
        simp only at h
        split at h
        · split at h
          · simp only [Except.ok.injEq, Prod.mk.injEq] at h
            obtain ⟨rfl, rfl⟩ := h
            exact .inl rfl
          · cases h
        · split at h
          · split at h
            · simp only [Except.ok.injEq, Prod.mk.injEq] at h
              obtain ⟨rfl, rfl⟩ := h
              exact .inr rfl
            · cases h
          · split at h
            · cases h
            · split at h
              · simp only [Except.ok.injEq, Prod.mk.injEq] at h
                obtain ⟨rfl, rfl⟩ := h
                exact .inl rfl
              · cases h
      · split at h
        · rename_i h3
          subst h3
          exact .inr (.inr (.inl ⟨r, rfl, h⟩))
        · unfold signTok at h
          split at h
          · rename_i w e
            simp only [Except.ok.injEq, Prod.mk.injEq] at h
            obtain ⟨rfl, rfl⟩ := h
            exact .inr (.inr (.inr ⟨w, List.mem_of_find?_eq_some e, rfl, rfl, List.find?_some (p := fun v : List UInt8 => v.isPrefixOf (c :: r)) e⟩))
          · cases h
theorem text_kind {r : List UInt8} {y : Tok} {n : Nat} (h : textTok r = .ok (y, n)) : y.kind = 5 ∧ y.n = 0 ∧ n = run isPlain r + 2 ∧ y.text = r.take (run isPlain r) ∧ run isPlain r ≤ 64 ∧ r[run isPlain r]? = some 34 := by
  unfold textTok at h
  simp only at h
  split at h
  · rename_i e
    split at h
    · cases h
    · simp only [Except.ok.injEq, Prod.mk.injEq] at h
      obtain ⟨rfl, rfl⟩ := h
      exact ⟨rfl, rfl, rfl, rfl, by omega, e⟩
  · cases h
theorem no_cmt {c : UInt8} {r : List UInt8} (h : c ≠ 40) : [40, 42].isPrefixOf (c :: r) = false := by
  have : ((40 : UInt8) == c) = false := by rw [beq_eq_false_iff_ne]; exact fun e => h e.symm
  simp [List.isPrefixOf, this]
theorem digit_ne {c : UInt8} (h : isDigit c = true) : c ≠ 40 := by rintro rfl; cases h
theorem letter_ne {c : UInt8} (h : isLetter c = true) : c ≠ 40 := by rintro rfl; cases h
theorem spelt_num {t : Tok} (hs : ∃ c r, spell t = c :: r ∧ isDigit c = true) (hl : (spell t).length ≤ 66) {y : Tok} {P : Prop} [Decidable P] (hn : numTok (spell t) = if P then .ok (y, (spell t).length) else .error 91) : Spelt t ↔ P ∧ y = { t with at_ := 0 } := by
  obtain ⟨c, r, hcr, hd⟩ := hs
  have ht : tok (spell t) = numTok (spell t) := by rw [hcr]; exact tok_digit hd
  have h1 : spell t ≠ [] := by rw [hcr]; simp
  have h3 : [40, 42].isPrefixOf (spell t) = false := by rw [hcr]; exact no_cmt (digit_ne hd)
  unfold Spelt
  rw [ht, hn]
  by_cases hp : P
  · rw [if_pos hp]
    constructor
    · rintro ⟨_, _, _, h⟩
      simp only [Except.ok.injEq, Prod.mk.injEq, and_true] at h
      exact ⟨hp, h⟩
    · rintro ⟨_, h⟩
      exact ⟨h1, hl, h3, by rw [h]⟩
  · rw [if_neg hp]
    constructor
    · rintro ⟨_, _, _, h⟩; cases h
    · rintro ⟨h, _⟩; exact absurd h hp
theorem spelt_iff (t : Tok) (hn0 : -9223372036854775808 ≤ t.n) (hn1 : t.n ≤ 9223372036854775807) : Spelt t ↔ GoodT t := by
  obtain ⟨k, x, n, a⟩ := t
  simp only at hn0 hn1
  by_cases h3 : k = 3
  · subst h3
    by_cases hneg : n < 0
    · have hsp : spell ⟨3, x, n, a⟩ = hexedL (u32 n) true ++ [72] := by simp [spell, hneg]
      obtain ⟨⟨c, r, hcr, hd⟩, hh, hv, hl⟩ := hexedL_facts (u32 n) true
      have hlt : u32 n < 4294967296 := by unfold u32; omega
      have hl8 := hexLow_len (u32 n) hlt
      have hN := num_hex _ hh
      rw [hv] at hN
      have key := spelt_num (t := ⟨3, x, n, a⟩) (y := ⟨3, [], if u32 n < 2147483648 then u32 n else (u32 n : Int) - 4294967296, 0⟩) (P := u32 n < 4294967296) ⟨c, r ++ [72], by rw [hsp, hcr]; rfl, hd⟩ (by rw [hsp, List.length_append]; simp only [List.length_cons, List.length_nil]; omega) (by rw [hsp, hN, List.length_append]; rfl)
      rw [key]
      simp only [GoodT, Tok.mk.injEq]
      have e : ((u32 n : Nat) : Int) = n % 4294967296 := by unfold u32; omega
      constructor
      · rintro ⟨_, _, hx, h, _⟩
        refine .inr (.inr (.inl ⟨trivial, hx.symm, ?_, by omega⟩))
        split at h <;> omega
      · rintro (⟨h, _⟩ | ⟨h, _⟩ | ⟨_, hx, h1, h2⟩ | ⟨h, _⟩ | ⟨h, _⟩ | ⟨h, _⟩)
        · omega
        · omega
        · refine ⟨hlt, trivial, hx.symm, ?_, trivial⟩
          split <;> omega
        · omega
        · omega
        · omega
    · have hsp : spell ⟨3, x, n, a⟩ = Lib.decDigits n.toNat := by simp [spell, hneg, Lib.itoa]
      obtain ⟨hd, hv, hp⟩ := dec_facts n.toNat
      obtain ⟨c, r, hcr⟩ : ∃ c r, Lib.decDigits n.toNat = c :: r := by
        match Lib.decDigits n.toNat, hp with
        | c :: r, _ => exact ⟨c, r, rfl⟩
      have hN := num_dec _ hd
      rw [hv] at hN
      have hl : (Lib.decDigits n.toNat).length ≤ 66 := by
        have := dec_len n.toNat (by omega)
        omega
      have key := spelt_num (t := ⟨3, x, n, a⟩) (y := ⟨3, [], n.toNat, 0⟩) (P := n.toNat < 2147483648) ⟨c, r, by rw [hsp, hcr], hd c (by rw [hcr]; simp)⟩ (by rw [hsp]; exact hl) (by rw [hsp, hN])
      rw [key]
      simp only [GoodT, Tok.mk.injEq]
      constructor
      · rintro ⟨hP, _, hx, h, _⟩
        exact .inr (.inr (.inl ⟨trivial, hx.symm, by omega, by omega⟩))
      · rintro (⟨h, _⟩ | ⟨h, _⟩ | ⟨_, hx, h1, h2⟩ | ⟨h, _⟩ | ⟨h, _⟩ | ⟨h, _⟩)
        · omega
        · omega
        · exact ⟨by omega, trivial, hx.symm, by omega, trivial⟩
        · omega
        · omega
        · omega
  · by_cases h4 : k = 4
    · subst h4
      have hsp : spell ⟨4, x, n, a⟩ = hexedL (u32 n) false ++ [88] := by simp [spell]
      obtain ⟨⟨c, r, hcr, hd⟩, hh, hv, hl⟩ := hexedL_facts (u32 n) false
      have hlt : u32 n < 4294967296 := by unfold u32; omega
      have hl8 := hexLow_len (u32 n) hlt
      have hN := num_chr _ hh
      rw [hv] at hN
      have key := spelt_num (t := ⟨4, x, n, a⟩) (y := ⟨4, [], u32 n, 0⟩) (P := u32 n < 256) ⟨c, r ++ [88], by rw [hsp, hcr]; rfl, hd⟩ (by rw [hsp, List.length_append]; simp only [List.length_cons, List.length_nil]; omega) (by rw [hsp, hN, List.length_append]; rfl)
      rw [key]
      simp only [GoodT, Tok.mk.injEq]
      have e : ((u32 n : Nat) : Int) = n % 4294967296 := by unfold u32; omega
      constructor
      · rintro ⟨hP, _, hx, h, _⟩
        exact .inr (.inr (.inr (.inl ⟨trivial, hx.symm, by omega, by omega⟩)))
      · rintro (⟨h, _⟩ | ⟨h, _⟩ | ⟨h, _⟩ | ⟨_, hx, h1, h2⟩ | ⟨h, _⟩ | ⟨h, _⟩)
        · omega
        · omega
        · omega
        · exact ⟨by omega, trivial, hx.symm, by omega, trivial⟩
        · omega
        · omega
    · by_cases h5 : k = 5
      · subst h5
        have hsp : spell ⟨5, x, n, a⟩ = 34 :: (x ++ [34]) := by simp [spell]
        unfold Spelt
        rw [hsp]
        have ht : tok (34 :: (x ++ [34])) = textTok (x ++ [34]) := rfl
        rw [ht]
        simp only [GoodT]
        constructor
        · rintro ⟨_, _, _, h⟩
          obtain ⟨_, h2, h3, h4', h5, h6⟩ := text_kind h
          simp only at h2 h4'
          simp only [List.length_cons, List.length_append, List.length_nil] at h3
          have hr : run isPlain (x ++ [34]) = x.length := by omega
          refine .inr (.inr (.inr (.inr (.inl ⟨trivial, h2, by rw [hr] at h5; exact h5, ?_⟩))))
          intro c hc
          refine run_take_all (l := x ++ [34]) c ?_
          rw [hr, List.take_left]
          exact hc
        · rintro (⟨h, _⟩ | ⟨h, _⟩ | ⟨h, _⟩ | ⟨h, _⟩ | ⟨_, hn, hl, hq⟩ | ⟨h, _⟩)
          · omega
          · omega
          · omega
          · omega
          · subst hn
            refine ⟨by simp, by simp only [List.length_cons, List.length_append, List.length_nil]; omega, rfl, ?_⟩
            have hr := run_stop (p := isPlain) (z := 34) (Z := []) hq (by decide)
            unfold textTok
            simp only [hr, List.take_left]
            rw [if_pos (by simp), if_neg (by omega)]
            simp
          · omega
      · have hsp : spell ⟨k, x, n, a⟩ = x := by simp [spell, h3, h4, h5]
        unfold Spelt
        rw [hsp]
        simp only [GoodT]
        constructor
        · rintro ⟨_, _, _, h⟩
          rcases tok_kind h with ⟨c, r, hc, h1, h2, h6, h7, h8⟩ | h1 | ⟨r, hr, h1⟩ | ⟨w, hw, h1, h2, h6⟩
          · simp only [List.take_length] at h6 h7 h8
            rcases h8 with ⟨h8, h9⟩ | ⟨h8, h9, h10⟩
            · exact .inr (.inl ⟨h8, h6, h9⟩)
            · refine .inl ⟨h8, h6, ⟨by rw [hc]; simp, h10, ⟨c, r, hc, h1⟩, all_run h2.symm⟩, h9⟩
          · simp only at h1; omega
          · have := (text_kind h1).1
            simp only at this
            omega
          · simp only [Tok.mk.injEq] at h1
            obtain ⟨rfl, rfl, rfl, _⟩ := h1
            exact .inr (.inr (.inr (.inr (.inr ⟨rfl, rfl, hw⟩))))
        · rintro (⟨rfl, rfl, ⟨h1, h2, ⟨c, r, hc, hlt⟩, hin⟩, hk⟩ | ⟨rfl, rfl, hk⟩ | ⟨h, _⟩ | ⟨h, _⟩ | ⟨h, _⟩ | ⟨rfl, rfl, hk⟩)
          · refine ⟨by rw [hc]; simp, by omega, by rw [hc]; exact no_cmt (letter_ne hlt), ?_⟩
            have hr := run_all hin
            rw [hc] at hr hk h2 ⊢
            unfold tok
            simp only [hlt, if_true, hr, List.take_length]
            rw [wordTok, if_neg hk, if_neg (by omega)]
            rfl
          · exact key_tok x hk
          · omega
          · omega
          · omega
          · exact sign_tok x hk
end Go.Proofs.YtkieeaajhomdoaaDoor
set_option linter.unusedVariables false
set_option linter.unusedSimpArgs false
namespace Go.Proofs.YtkieeaajhomdoaaDoor
open Go.RowKit Go.Maps Go.MapKept
theorem eqTok (k kk n nn a aa : Int) (s s2 : ByteArray) (w : World) : (binOp .eql 34 (.agg #[.int .i64 k, .string s, .int .i64 n, .int .i64 a]) (.agg #[.int .i64 kk, .string s2, .int .i64 nn, .int .i64 aa])).run Tryd.prog w = .ok (.bool (k == kk && s.toList == s2.toList && n == nn && a == aa)) w := by
  have hS : Tryd.prog.underlying 34 = some (.struct (Tryd.prog.fieldsOf 34)) := by kernel_rfl
  have hp : Tryd.prog.stoodInHeld 34 = false := by kernel_rfl
  rw [run_eql_struct, show (10000 : Nat) = 9999 + 1 from rfl, run_equalIn_agg w 9999 34 _ _ hS hp]
  simp only [Program.fieldsOf, Tryd.underlying34]
  go_simp
  by_cases h1 : k = kk <;> by_cases h2 : s.toList = s2.toList <;> by_cases h3 : n = nn <;> by_cases h4 : a = aa <;> simp [h1, h2, h3, h4]
theorem guardTok (x y : Operand) (xs ys : Array Value) (w : World) : (eqGuard .eql 34 x y (.agg xs) (.agg ys)).run Tryd.prog w = .ok () w := run_eqGuard_agg w .eql _ x y xs ys (by kernel_rfl)
def AtSpelt (t : Tok) (w : World) (e : Ending) (w' : World) : Prop := Below w.heap.size w w' ∧
  ((Spelt t ∧ e = .returned (.tuple #[.string ⟨(spell t).toArray⟩, .bool true])) ∨ (¬ Spelt t ∧ ∃ s, e = .returned (.tuple #[.string s, .bool false])))
set_option maxRecDepth 100000 in
set_option maxHeartbeats 4000000 in
theorem spelt_other (x : Value) (k n a : Int) (tx : List UInt8) (w : World) (hx : IsLexer w x) (hv : VarsT w) (htx : tx.length ≤ 1000) (h3 : (k == 3) = false) (h4 : (k == 4) = false) (h5 : (k == 5) = false) :
    Calls Tryd.prog 34 #[x, .agg #[.int .i64 k, .string ⟨tx.toArray⟩, .int .i64 n, .int .i64 a]] w (AtSpelt ⟨k, tx, n, a⟩ w) := by
  have hsp : spell ⟨k, tx, n, a⟩ = tx := by
    simp only [beq_eq_false_iff_ne] at h3 h4 h5
    simp [spell, h3, h4, h5]
  have HSP := Lib.hid hsp
  have HX := Lib.hid hx
  have HV := Lib.hid hv
  clear hsp hx hv
  obtain ⟨S, hS⟩ : ∃ S : ByteArray, (⟨tx.toArray⟩ : ByteArray) = S := ⟨_, rfl⟩
  have hSl : S.data.toList = spell ⟨k, tx, n, a⟩ := by rw [← hS, HSP.out]
  have hSz : (S.size : Int) ≤ 1000 := by rw [← len_list, hSl, HSP.out]; omega
  have HS := Lib.hid hS
  have HSL := Lib.hid hSl
  have HXL : Hid (S.data.toList = tx) := hSl.trans HSP.out
  rw [hS]
  clear hS hSl
  have hbl0 : (w.alloc (.cells #[.int .i64 k, .string S, .int .i64 n, .int .i64 a] 34)).heap[w.heap.size]? = some (.cells #[.int .i64 k, .string S, .int .i64 n, .int .i64 a] 34 (0, 0)) := alloc_block _ _
  have HBL0 := Lib.hid hbl0
  clear hbl0
  go_enter Tryd.func34, Tryd.ntmps34
  by_cases he : S.toList = []
  · have hno : ¬ Spelt ⟨k, tx, n, a⟩ := fun h => h.1 (by rw [← HSL.out, ← ByteArray.toList_eq]; exact he)
    have HNO := Lib.hid hno
    clear hno
    go_wp2_with fail
    go_ret2
    exact ⟨((Below.refl _ _).alloc (Nat.le_refl _) _), .inr ⟨HNO.out, _, rfl⟩⟩
  · have he2 : S.toList.isEmpty = false := by simpa using he
    by_cases hbig : (66 : Int) < S.size
    · have hno : ¬ Spelt ⟨k, tx, n, a⟩ := fun h => by
        have := h.2.1
        rw [← HSL.out, len_list] at this
        omega
      have HNO := Lib.hid hno
      clear hno
      go_wp2_with fail
      go_ret2
      exact ⟨((Below.refl _ _).alloc (Nat.le_refl _) _), .inr ⟨HNO.out, _, rfl⟩⟩
    · have hpos : 0 < S.size := by
        rcases Nat.lt_or_ge 0 S.size with h | h
        · exact h
        · exact absurd (by rw [ByteArray.toList_eq]; exact List.eq_nil_of_length_eq_zero (by rw [len_list]; omega)) he
      go_wp2_with fail
      refine (Tryd.strings_HasPrefix S ⟨#[40, 42]⟩ _).mono ?_
      rintro e w2 ⟨rfl, rfl⟩
      obtain ⟨pb, hpb⟩ : ∃ pb, Lib.hasPrefix S.data.toList (⟨#[40, 42]⟩ : ByteArray).data.toList = pb := ⟨_, rfl⟩
      rw [hpb]
      have hpb' : [40, 42].isPrefixOf (spell ⟨k, tx, n, a⟩) = pb := by rw [← HSL.out]; exact hpb
      clear hpb
      cases pb with
      | true =>
        have hno : ¬ Spelt ⟨k, tx, n, a⟩ := fun h => by
          have := h.2.2.1
          rw [hpb'] at this; cases this
        have HNO := Lib.hid hno
        clear hno hpb'
        go_wp2_with fail
        go_ret2
        exact ⟨((Below.refl _ _).alloc (Nat.le_refl _) _), .inr ⟨HNO.out, _, rfl⟩⟩
      | false =>
        have HPB := Lib.hid hpb'
        clear hpb'
        obtain ⟨r, hr⟩ : ∃ r, tok S.data.toList = r := ⟨_, rfl⟩
        have HR := Lib.hid hr
        clear hr
        go_wp2_with fail
        refine (token_any x S _ (HX.out.stays ((Below.refl _ _).alloc (Nat.le_refl _) _)) (HV.out.vars.stays ((Below.refl _ _).alloc (Nat.le_refl _) _)) (by omega) hpos r HR.out).mono ?_
        rintro e w2 ⟨B2, hw⟩
        have hblk := below_block B2 (block_lt HBL0.out) HBL0.out
        have hb0 := block_lt hblk
        have HBLK := Lib.hid hblk
        clear hblk
        have q0 := cell_of_block HBLK.out 0
        have q1 := cell_of_block HBLK.out 1
        have q2 := cell_of_block HBLK.out 2
        have q3 := cell_of_block HBLK.out 3
        have p3 := frozen_of_block HBLK.out 3
        simp at q0 q1 q2 q3
        have hB2 : Below w.heap.size w w2 := bthen ((Below.refl _ _).alloc (Nat.le_refl _) _) B2
        cases r with
        | error c =>
          obtain ⟨kk, y, mm, aa, nn, rfl⟩ := hw
          have hc := (tok_fine S.data.toList).2 c HR.out
          have hc0 : (c == 0) = false := by rw [beq_eq_false_iff_ne]; omega
          have hno : ¬ Spelt ⟨k, tx, n, a⟩ := fun h => by
            have := h.2.2.2
            rw [← HSL.out, HR.out] at this; cases this
          have HNO := Lib.hid hno
          clear hno hc
          go_wp2_with fail
          go_quiet (fail)
          go_wp2_with fail
          go_ret2
          exact ⟨((hB2.setCell (Nat.le_refl _) _).alloc (by simpa using hB2.size) _).trans (bdrew _ _ _), .inr ⟨HNO.out, _, rfl⟩⟩
        | ok tn =>
          obtain ⟨⟨tk, ty, tn, ta⟩, m⟩ := tn
          simp only at hw
          subst hw
          by_cases hm : m = S.size
          · have hm1 : ((m : Int) == S.size) = true := by rw [beq_iff_eq]; omega
            have heq := fun W => eqTok tk k tn n ta 0 ⟨ty.toArray⟩ S W
            have hgd := fun x y xs ys W => guardTok x y xs ys W
            have HM := Lib.hid hm
            clear hm
            go_wp2_with fail
            go_quiet (fail)
            generalize hBB : (tk == k && ty == ByteArray.toList S && tn == n && ta == 0) = BB
            have hX : ByteArray.toList S = tx := by rw [ByteArray.toList_eq]; exact HXL.out
            rw [hX] at hBB
            have hSe : (⟨(spell ⟨k, tx, n, a⟩).toArray⟩ : ByteArray) = S := by rw [← HSL.out]
            have hta : ta = 0 := ((tok_fine S.data.toList).1 _ _ HR.out).2.2
            have key : BB = true ↔ Spelt ⟨k, tx, n, a⟩ := by
              rw [← hBB, Bool.and_eq_true, Bool.and_eq_true, Bool.and_eq_true, beq_iff_eq, beq_iff_eq, beq_iff_eq, beq_iff_eq]
              constructor
              · rintro ⟨⟨⟨rfl, rfl⟩, rfl⟩, rfl⟩
                refine ⟨?_, ?_, HPB.out, ?_⟩
                · rw [← HSL.out]
                  exact fun h => he (by rw [ByteArray.toList_eq]; exact h)
                · rw [← HSL.out, len_list]; omega
                · rw [← HSL.out, HR.out, len_list, HM.out]
              · intro h
                have h4 := h.2.2.2
                rw [← HSL.out, HR.out] at h4
                simp only [Except.ok.injEq, Prod.mk.injEq, Tok.mk.injEq] at h4
                obtain ⟨⟨rfl, rfl, rfl, rfl⟩, _⟩ := h4
                exact ⟨⟨⟨rfl, rfl⟩, rfl⟩, rfl⟩
            have KEY := Lib.hid key
            have HSE := Lib.hid hSe
            clear key hBB hX hSe heq hgd
            go_wp2_with fail
            go_ret2
            refine ⟨((hB2.setCell (Nat.le_refl _) _).alloc (by simpa using hB2.size) _).trans (bdrew _ _ _), ?_⟩
            cases BB with
            | true => exact .inl ⟨KEY.out.1 rfl, by rw [HSE.out]; rfl⟩
            | false => exact .inr ⟨fun h => (by cases KEY.out.2 h), _, rfl⟩
          · have hm1 : ((m : Int) == S.size) = false := by rw [beq_eq_false_iff_ne]; omega
            have hno : ¬ Spelt ⟨k, tx, n, a⟩ := fun h => by
              have := h.2.2.2
              rw [← HSL.out, HR.out, len_list] at this
              simp only [Except.ok.injEq, Prod.mk.injEq] at this
              exact hm this.2
            have HNO := Lib.hid hno
            clear hno
            have HM := Lib.hid hm
            clear hm
            go_wp2_with fail
            go_quiet (fail)
            go_wp2_with fail
            go_ret2
            exact ⟨((hB2.setCell (Nat.le_refl _) _).alloc (by simpa using hB2.size) _).trans (bdrew _ _ _), .inr ⟨HNO.out, _, rfl⟩⟩
set_option maxRecDepth 100000 in
set_option maxHeartbeats 4000000 in
theorem spelt_text (x : Value) (n a : Int) (tx : List UInt8) (w : World) (hx : IsLexer w x) (hv : VarsT w) (htx : tx.length ≤ 1000) :
    Calls Tryd.prog 34 #[x, .agg #[.int .i64 5, .string ⟨tx.toArray⟩, .int .i64 n, .int .i64 a]] w (AtSpelt ⟨5, tx, n, a⟩ w) := by
  have hsp : spell ⟨5, tx, n, a⟩ = 34 :: (tx ++ [34]) := by simp [spell]
  have HSP := Lib.hid hsp
  have HX := Lib.hid hx
  have HV := Lib.hid hv
  clear hsp hx hv
  obtain ⟨Y, hY⟩ : ∃ Y : ByteArray, (⟨tx.toArray⟩ : ByteArray) = Y := ⟨_, rfl⟩
  have HXL : Hid (Y.data.toList = tx) := by rw [← hY]; rfl
  obtain ⟨k, hk⟩ : ∃ k : Int, k = 5 := ⟨_, rfl⟩
  obtain ⟨S, hS⟩ : ∃ S : ByteArray, (⟨#[34]⟩ : ByteArray) ++ Y ++ ⟨#[34]⟩ = S := ⟨_, rfl⟩
  have hSl : S.data.toList = spell ⟨5, tx, n, a⟩ := by rw [← hS, HSP.out, ← HXL.out]; simp [ByteArray.data_append]
  have hSz : (S.size : Int) ≤ 1100 := by rw [← len_list, hSl, HSP.out]; simp only [List.length_cons, List.length_append, List.length_nil]; omega
  have hYz : (Y.size : Int) ≤ 1000 := by rw [← len_list, HXL.out]; omega
  have hn1 : ¬ (9223372036854775807 < 1 + Y.size) := by omega
  have hn2 : ¬ (9223372036854775807 < 1 + Y.size + 1) := by omega
  have HSL := Lib.hid hSl
  rw [hY]
  have hbl0 : (w.alloc (.cells #[.int .i64 5, .string Y, .int .i64 n, .int .i64 a] 34)).heap[w.heap.size]? = some (.cells #[.int .i64 5, .string Y, .int .i64 n, .int .i64 a] 34 (0, 0)) := alloc_block _ _
  have HBL0 := Lib.hid hbl0
  clear hbl0 hY hSl
  go_enter Tryd.func34, Tryd.ntmps34
  by_cases he : S.toList = []
  · have hno : ¬ Spelt ⟨5, tx, n, a⟩ := fun h => h.1 (by rw [← HSL.out, ← ByteArray.toList_eq]; exact he)
    have HNO := Lib.hid hno
    clear hno
    go_wp2_with fail
    go_ret2
    exact ⟨((Below.refl _ _).alloc (Nat.le_refl _) _), .inr ⟨HNO.out, _, rfl⟩⟩
  · have he2 : S.toList.isEmpty = false := by simpa using he
    by_cases hbig : (66 : Int) < S.size
    · have hno : ¬ Spelt ⟨5, tx, n, a⟩ := fun h => by
        have := h.2.1
        rw [← HSL.out, len_list] at this
        omega
      have HNO := Lib.hid hno
      clear hno
      go_wp2_with fail
      go_ret2
      exact ⟨((Below.refl _ _).alloc (Nat.le_refl _) _), .inr ⟨HNO.out, _, rfl⟩⟩
    · have hpos : 0 < S.size := by
        rcases Nat.lt_or_ge 0 S.size with h | h
        · exact h
        · exact absurd (by rw [ByteArray.toList_eq]; exact List.eq_nil_of_length_eq_zero (by rw [len_list]; omega)) he
      go_wp2_with fail
      refine (Tryd.strings_HasPrefix S ⟨#[40, 42]⟩ _).mono ?_
      rintro e w2 ⟨rfl, rfl⟩
      obtain ⟨pb, hpb⟩ : ∃ pb, Lib.hasPrefix S.data.toList (⟨#[40, 42]⟩ : ByteArray).data.toList = pb := ⟨_, rfl⟩
      rw [hpb]
      have hpb' : [40, 42].isPrefixOf (spell ⟨5, tx, n, a⟩) = pb := by rw [← HSL.out]; exact hpb
      clear hpb
      cases pb with
      | true =>
        have hno : ¬ Spelt ⟨5, tx, n, a⟩ := fun h => by
          have := h.2.2.1
          rw [hpb'] at this; cases this
        have HNO := Lib.hid hno
        clear hno hpb'
        go_wp2_with fail
        go_ret2
        exact ⟨((Below.refl _ _).alloc (Nat.le_refl _) _), .inr ⟨HNO.out, _, rfl⟩⟩
      | false =>
        have HPB := Lib.hid hpb'
        clear hpb'
        obtain ⟨r, hr⟩ : ∃ r, tok S.data.toList = r := ⟨_, rfl⟩
        have HR := Lib.hid hr
        clear hr
        go_wp2_with fail
        refine (token_any x S _ (HX.out.stays ((Below.refl _ _).alloc (Nat.le_refl _) _)) (HV.out.vars.stays ((Below.refl _ _).alloc (Nat.le_refl _) _)) (by omega) hpos r HR.out).mono ?_
        rintro e w2 ⟨B2, hw⟩
        have hblk := below_block B2 (block_lt HBL0.out) HBL0.out
        have hb0 := block_lt hblk
        have HBLK := Lib.hid hblk
        clear hblk
        have q0 := cell_of_block HBLK.out 0
        have q1 := cell_of_block HBLK.out 1
        have q2 := cell_of_block HBLK.out 2
        have q3 := cell_of_block HBLK.out 3
        have p3 := frozen_of_block HBLK.out 3
        simp at q0 q1 q2 q3
        have hB2 : Below w.heap.size w w2 := bthen ((Below.refl _ _).alloc (Nat.le_refl _) _) B2
        cases r with
        | error c =>
          obtain ⟨kk, y, mm, aa, nn, rfl⟩ := hw
          have hc := (tok_fine S.data.toList).2 c HR.out
          have hc0 : (c == 0) = false := by rw [beq_eq_false_iff_ne]; omega
          have hno : ¬ Spelt ⟨5, tx, n, a⟩ := fun h => by
            have := h.2.2.2
            rw [← HSL.out, HR.out] at this; cases this
          have HNO := Lib.hid hno
          clear hno hc
          go_wp2_with fail
          go_quiet (fail)
          go_wp2_with fail
          go_ret2
          exact ⟨((hB2.setCell (Nat.le_refl _) _).alloc (by simpa using hB2.size) _).trans (bdrew _ _ _), .inr ⟨HNO.out, _, rfl⟩⟩
        | ok tn =>
          obtain ⟨⟨tk, ty, tn, ta⟩, m⟩ := tn
          simp only at hw
          subst hw
          by_cases hm : m = S.size
          · have hm1 : ((m : Int) == S.size) = true := by rw [beq_iff_eq]; omega
            have heq := fun W => eqTok tk 5 tn n ta 0 ⟨ty.toArray⟩ Y W
            have hgd := fun x y xs ys W => guardTok x y xs ys W
            have HM := Lib.hid hm
            clear hm
            go_wp2_with fail
            go_quiet (fail)
            generalize hBB : (tk == 5 && ty == ByteArray.toList Y && tn == n && ta == 0) = BB
            have hX : ByteArray.toList Y = tx := by rw [ByteArray.toList_eq]; exact HXL.out
            rw [hX] at hBB
            have hSe : (⟨(spell ⟨5, tx, n, a⟩).toArray⟩ : ByteArray) = S := by rw [← HSL.out]
            have hta : ta = 0 := ((tok_fine S.data.toList).1 _ _ HR.out).2.2
            have key : BB = true ↔ Spelt ⟨5, tx, n, a⟩ := by
              rw [← hBB, Bool.and_eq_true, Bool.and_eq_true, Bool.and_eq_true, beq_iff_eq, beq_iff_eq, beq_iff_eq, beq_iff_eq]
              constructor
              · rintro ⟨⟨⟨rfl, rfl⟩, rfl⟩, rfl⟩
                refine ⟨?_, ?_, HPB.out, ?_⟩
                · rw [← HSL.out]
                  exact fun h => he (by rw [ByteArray.toList_eq]; exact h)
                · rw [← HSL.out, len_list]; omega
                · rw [← HSL.out, HR.out, len_list, HM.out]
              · intro h
                have h4 := h.2.2.2
                rw [← HSL.out, HR.out] at h4
                simp only [Except.ok.injEq, Prod.mk.injEq, Tok.mk.injEq] at h4
                obtain ⟨⟨rfl, rfl, rfl, rfl⟩, _⟩ := h4
                exact ⟨⟨⟨rfl, rfl⟩, rfl⟩, rfl⟩
            have KEY := Lib.hid key
            have HSE := Lib.hid hSe
            clear key hBB hX hSe heq hgd
            go_wp2_with fail
            go_ret2
            refine ⟨((hB2.setCell (Nat.le_refl _) _).alloc (by simpa using hB2.size) _).trans (bdrew _ _ _), ?_⟩
            cases BB with
            | true => exact .inl ⟨KEY.out.1 rfl, by rw [HSE.out]; rfl⟩
            | false => exact .inr ⟨fun h => (by cases KEY.out.2 h), _, rfl⟩
          · have hm1 : ((m : Int) == S.size) = false := by rw [beq_eq_false_iff_ne]; omega
            have hno : ¬ Spelt ⟨5, tx, n, a⟩ := fun h => by
              have := h.2.2.2
              rw [← HSL.out, HR.out, len_list] at this
              simp only [Except.ok.injEq, Prod.mk.injEq] at this
              exact hm this.2
            have HNO := Lib.hid hno
            clear hno
            have HM := Lib.hid hm
            clear hm
            go_wp2_with fail
            go_quiet (fail)
            go_wp2_with fail
            go_ret2
            exact ⟨((hB2.setCell (Nat.le_refl _) _).alloc (by simpa using hB2.size) _).trans (bdrew _ _ _), .inr ⟨HNO.out, _, rfl⟩⟩
theorem wrap_u32 (n : Int) : IntKind.u32.wrap n = (u32 n : Int) := by
  rw [IntKind.wrap_u32]; unfold u32; omega
theorem u32_lt (n : Int) : (u32 n : Int) ≤ 4294967295 := by unfold u32; omega
theorem hexedL_len (n : Nat) (b : Bool) (h : (n : Int) ≤ 4294967295) : (hexedL n b).length ≤ 9 := by
  have := (hexedL_facts n b).2.2.2
  have := hexLow_len n (by omega)
  omega
set_option maxRecDepth 100000 in
set_option maxHeartbeats 4000000 in
theorem spelt_chr (x : Value) (n a : Int) (tx : List UInt8) (w : World) (hx : IsLexer w x) (hv : VarsT w) (htx : tx.length ≤ 1000) :
    Calls Tryd.prog 34 #[x, .agg #[.int .i64 4, .string ⟨tx.toArray⟩, .int .i64 n, .int .i64 a]] w (AtSpelt ⟨4, tx, n, a⟩ w) := by
  have hsp : spell ⟨4, tx, n, a⟩ = hexedL (u32 n) false ++ [88] := by simp [spell]
  have HSP := Lib.hid hsp
  have HX := Lib.hid hx
  have HV := Lib.hid hv
  clear hsp hx hv
  obtain ⟨Y, hY⟩ : ∃ Y : ByteArray, (⟨tx.toArray⟩ : ByteArray) = Y := ⟨_, rfl⟩
  have HXL : Hid (Y.data.toList = tx) := by rw [← hY]; rfl
  obtain ⟨Z, hZ⟩ : ∃ Z : ByteArray, (⟨(hexedL (u32 n) false).toArray⟩ : ByteArray) = Z := ⟨_, rfl⟩
  obtain ⟨S, hS⟩ : ∃ S : ByteArray, Z ++ ⟨#[88]⟩ = S := ⟨_, rfl⟩
  have hZl : Z.data.toList = hexedL (u32 n) false := by rw [← hZ]
  have hSl : S.data.toList = spell ⟨4, tx, n, a⟩ := by rw [← hS, HSP.out, ← hZl]; simp [ByteArray.data_append]
  have hZz : (Z.size : Int) ≤ 9 := by
    have := hexedL_len (u32 n) false (u32_lt n)
    rw [← len_list, hZl]; omega
  have hSz : (S.size : Int) ≤ 1100 := by
    have e : S.size = Z.size + 1 := by rw [← hS, ByteArray.size_append]; rfl
    omega
  have hn1 : ¬ (9223372036854775807 < Z.size + 1) := by omega
  have hwr := wrap_u32 n
  have HSL := Lib.hid hSl
  rw [hY]
  have hbl0 : (w.alloc (.cells #[.int .i64 4, .string Y, .int .i64 n, .int .i64 a] 34)).heap[w.heap.size]? = some (.cells #[.int .i64 4, .string Y, .int .i64 n, .int .i64 a] 34 (0, 0)) := alloc_block _ _
  have HBL0 := Lib.hid hbl0
  clear hbl0 hY hSl
  go_enter Tryd.func34, Tryd.ntmps34
  go_wp2_with fail
  refine (hexed_any (u32 n) false _ (HV.out.stays ((Below.refl _ _).alloc (Nat.le_refl _) _)) (u32_lt n)).mono ?_
  rintro e w1 ⟨rfl, B1⟩
  rw [hZ]
  have hB1 : Below w.heap.size w w1 := bthen ((Below.refl _ _).alloc (Nat.le_refl _) _) B1
  have HBL1 := Lib.hid (below_block B1 (block_lt HBL0.out) HBL0.out)
  clear hZ hZl B1
  by_cases he : S.toList = []
  · have hno : ¬ Spelt ⟨4, tx, n, a⟩ := fun h => h.1 (by rw [← HSL.out, ← ByteArray.toList_eq]; exact he)
    have HNO := Lib.hid hno
    clear hno
    go_wp2_with fail
    go_ret2
    exact ⟨hB1, .inr ⟨HNO.out, _, rfl⟩⟩
  · have he2 : S.toList.isEmpty = false := by simpa using he
    by_cases hbig : (66 : Int) < S.size
    · have hno : ¬ Spelt ⟨4, tx, n, a⟩ := fun h => by
        have := h.2.1
        rw [← HSL.out, len_list] at this
        omega
      have HNO := Lib.hid hno
      clear hno
      go_wp2_with fail
      go_ret2
      exact ⟨hB1, .inr ⟨HNO.out, _, rfl⟩⟩
    · have hpos : 0 < S.size := by
        rcases Nat.lt_or_ge 0 S.size with h | h
        · exact h
        · exact absurd (by rw [ByteArray.toList_eq]; exact List.eq_nil_of_length_eq_zero (by rw [len_list]; omega)) he
      go_wp2_with fail
      refine (Tryd.strings_HasPrefix S ⟨#[40, 42]⟩ _).mono ?_
      rintro e w2 ⟨rfl, rfl⟩
      obtain ⟨pb, hpb⟩ : ∃ pb, Lib.hasPrefix S.data.toList (⟨#[40, 42]⟩ : ByteArray).data.toList = pb := ⟨_, rfl⟩
      rw [hpb]
      have hpb' : [40, 42].isPrefixOf (spell ⟨4, tx, n, a⟩) = pb := by rw [← HSL.out]; exact hpb
      clear hpb
      cases pb with
      | true =>
        have hno : ¬ Spelt ⟨4, tx, n, a⟩ := fun h => by
          have := h.2.2.1
          rw [hpb'] at this; cases this
        have HNO := Lib.hid hno
        clear hno hpb'
        go_wp2_with fail
        go_ret2
        exact ⟨hB1, .inr ⟨HNO.out, _, rfl⟩⟩
      | false =>
        have HPB := Lib.hid hpb'
        clear hpb'
        obtain ⟨r, hr⟩ : ∃ r, tok S.data.toList = r := ⟨_, rfl⟩
        have HR := Lib.hid hr
        clear hr
        go_wp2_with fail
        refine (token_any x S _ (HX.out.stays hB1) (HV.out.vars.stays hB1) (by omega) hpos r HR.out).mono ?_
        rintro e w2 ⟨B2, hw⟩
        have hblk := below_block B2 (block_lt HBL1.out) HBL1.out
        have hb0 := block_lt hblk
        have HBLK := Lib.hid hblk
        clear hblk
        have q0 := cell_of_block HBLK.out 0
        have q1 := cell_of_block HBLK.out 1
        have q2 := cell_of_block HBLK.out 2
        have q3 := cell_of_block HBLK.out 3
        have p3 := frozen_of_block HBLK.out 3
        simp at q0 q1 q2 q3
        have hB2 : Below w.heap.size w w2 := bthen hB1 B2
        cases r with
        | error c =>
          obtain ⟨kk, y, mm, aa, nn, rfl⟩ := hw
          have hc := (tok_fine S.data.toList).2 c HR.out
          have hc0 : (c == 0) = false := by rw [beq_eq_false_iff_ne]; omega
          have hno : ¬ Spelt ⟨4, tx, n, a⟩ := fun h => by
            have := h.2.2.2
            rw [← HSL.out, HR.out] at this; cases this
          have HNO := Lib.hid hno
          clear hno hc
          go_wp2_with fail
          go_quiet (fail)
          go_wp2_with fail
          go_ret2
          exact ⟨((hB2.setCell (Nat.le_refl _) _).alloc (by simpa using hB2.size) _).trans (bdrew _ _ _), .inr ⟨HNO.out, _, rfl⟩⟩
        | ok tn =>
          obtain ⟨⟨tk, ty, tn, ta⟩, m⟩ := tn
          simp only at hw
          subst hw
          by_cases hm : m = S.size
          · have hm1 : ((m : Int) == S.size) = true := by rw [beq_iff_eq]; omega
            have heq := fun W => eqTok tk 4 tn n ta 0 ⟨ty.toArray⟩ Y W
            have hgd := fun x y xs ys W => guardTok x y xs ys W
            have HM := Lib.hid hm
            clear hm
            go_wp2_with fail
            go_quiet (fail)
            generalize hBB : (tk == 4 && ty == ByteArray.toList Y && tn == n && ta == 0) = BB
            have hX : ByteArray.toList Y = tx := by rw [ByteArray.toList_eq]; exact HXL.out
            rw [hX] at hBB
            have hSe : (⟨(spell ⟨4, tx, n, a⟩).toArray⟩ : ByteArray) = S := by rw [← HSL.out]
            have hta : ta = 0 := ((tok_fine S.data.toList).1 _ _ HR.out).2.2
            have key : BB = true ↔ Spelt ⟨4, tx, n, a⟩ := by
              rw [← hBB, Bool.and_eq_true, Bool.and_eq_true, Bool.and_eq_true, beq_iff_eq, beq_iff_eq, beq_iff_eq, beq_iff_eq]
              constructor
              · rintro ⟨⟨⟨rfl, rfl⟩, rfl⟩, rfl⟩
                refine ⟨?_, ?_, HPB.out, ?_⟩
                · rw [← HSL.out]
                  exact fun h => he (by rw [ByteArray.toList_eq]; exact h)
                · rw [← HSL.out, len_list]; omega
                · rw [← HSL.out, HR.out, len_list, HM.out]
              · intro h
                have h4 := h.2.2.2
                rw [← HSL.out, HR.out] at h4
                simp only [Except.ok.injEq, Prod.mk.injEq, Tok.mk.injEq] at h4
                obtain ⟨⟨rfl, rfl, rfl, rfl⟩, _⟩ := h4
                exact ⟨⟨⟨rfl, rfl⟩, rfl⟩, rfl⟩
            have KEY := Lib.hid key
            have HSE := Lib.hid hSe
            clear key hBB hX hSe heq hgd
            go_wp2_with fail
            go_ret2
            refine ⟨((hB2.setCell (Nat.le_refl _) _).alloc (by simpa using hB2.size) _).trans (bdrew _ _ _), ?_⟩
            cases BB with
            | true => exact .inl ⟨KEY.out.1 rfl, by rw [HSE.out]; rfl⟩
            | false => exact .inr ⟨fun h => (by cases KEY.out.2 h), _, rfl⟩
          · have hm1 : ((m : Int) == S.size) = false := by rw [beq_eq_false_iff_ne]; omega
            have hno : ¬ Spelt ⟨4, tx, n, a⟩ := fun h => by
              have := h.2.2.2
              rw [← HSL.out, HR.out, len_list] at this
              simp only [Except.ok.injEq, Prod.mk.injEq] at this
              exact hm this.2
            have HNO := Lib.hid hno
            clear hno
            have HM := Lib.hid hm
            clear hm
            go_wp2_with fail
            go_quiet (fail)
            go_wp2_with fail
            go_ret2
            exact ⟨((hB2.setCell (Nat.le_refl _) _).alloc (by simpa using hB2.size) _).trans (bdrew _ _ _), .inr ⟨HNO.out, _, rfl⟩⟩
theorem below_grow {w w' : World} {k : Nat} {os : Array Obj} (h : w' = Go.Sort.grow (w.drewN k) os) : Below w.heap.size w w' := by
  subst h
  refine ⟨rfl, rfl, rfl, by rw [Go.Sort.size_grow]; exact Nat.le_add_right _ _, fun i hi => ?_⟩
  show (w.heap ++ os)[i]? = w.heap[i]?
  rw [Array.getElem?_append_left hi]
set_option maxRecDepth 100000 in
set_option maxHeartbeats 4000000 in
theorem spelt_pos (x : Value) (n a : Int) (tx : List UInt8) (w : World) (hx : IsLexer w x) (hv : VarsT w) (htx : tx.length ≤ 1000) (h0 : -9223372036854775808 ≤ n) (h1 : n ≤ 9223372036854775807) (hsg : ¬ n < 0) :
    Calls Tryd.prog 34 #[x, .agg #[.int .i64 3, .string ⟨tx.toArray⟩, .int .i64 n, .int .i64 a]] w (AtSpelt ⟨3, tx, n, a⟩ w) := by
  have hsp : spell ⟨3, tx, n, a⟩ = Lib.itoa n := by simp [spell, hsg]
  have HSP := Lib.hid hsp
  have HX := Lib.hid hx
  have HV := Lib.hid hv
  clear hsp hx hv
  obtain ⟨Y, hY⟩ : ∃ Y : ByteArray, (⟨tx.toArray⟩ : ByteArray) = Y := ⟨_, rfl⟩
  have HXL : Hid (Y.data.toList = tx) := by rw [← hY]; rfl
  have H0 := Lib.hid h0
  have H1 := Lib.hid h1
  clear h0 h1
  rw [hY]
  have hbl0 : (w.alloc (.cells #[.int .i64 3, .string Y, .int .i64 n, .int .i64 a] 34)).heap[w.heap.size]? = some (.cells #[.int .i64 3, .string Y, .int .i64 n, .int .i64 a] 34 (0, 0)) := alloc_block _ _
  have HBL0 := Lib.hid hbl0
  clear hbl0 hY
  obtain ⟨S, hS⟩ : ∃ S : ByteArray, (⟨(Lib.itoa n).toArray⟩ : ByteArray) = S := ⟨_, rfl⟩
  have hSl : S.data.toList = spell ⟨3, tx, n, a⟩ := by rw [← hS, HSP.out]
  have hSz : (S.size : Int) ≤ 1100 := by
    have h1 := H1.out
    have := dec_len n.toNat (by omega)
    rw [← len_list, hSl, HSP.out, Lib.itoa, if_neg hsg]; omega
  have HSL := Lib.hid hSl
  clear hSl
  go_enter Tryd.func34, Tryd.ntmps34
  go_wp2_with fail
  refine (Tryd.strconv_Itoa n H0.out H1.out _ (HV.out.stays ((Below.refl _ _).alloc (Nat.le_refl _) _)).pow).mono ?_
  rintro e w1 ⟨rfl, dk, os, hw1⟩
  have B1 := below_grow hw1
  clear hw1
  rw [hS]
  have hB1 : Below w.heap.size w w1 := bthen ((Below.refl _ _).alloc (Nat.le_refl _) _) B1
  have hblk1 := below_block B1 (block_lt HBL0.out) HBL0.out
  have q2 := cell_of_block hblk1 2
  simp at q2
  have HBL1 := Lib.hid hblk1
  clear hS B1 hblk1
  by_cases he : S.toList = []
  · have hno : ¬ Spelt ⟨3, tx, n, a⟩ := fun h => h.1 (by rw [← HSL.out, ← ByteArray.toList_eq]; exact he)
    have HNO := Lib.hid hno
    clear hno
    go_wp2_with fail
    go_ret2
    exact ⟨hB1, .inr ⟨HNO.out, _, rfl⟩⟩
  · have he2 : S.toList.isEmpty = false := by simpa using he
    by_cases hbig : (66 : Int) < S.size
    · have hno : ¬ Spelt ⟨3, tx, n, a⟩ := fun h => by
        have := h.2.1
        rw [← HSL.out, len_list] at this
        omega
      have HNO := Lib.hid hno
      clear hno
      go_wp2_with fail
      go_ret2
      exact ⟨hB1, .inr ⟨HNO.out, _, rfl⟩⟩
    · have hpos : 0 < S.size := by
        rcases Nat.lt_or_ge 0 S.size with h | h
        · exact h
        · exact absurd (by rw [ByteArray.toList_eq]; exact List.eq_nil_of_length_eq_zero (by rw [len_list]; omega)) he
      go_wp2_with fail
      refine (Tryd.strings_HasPrefix S ⟨#[40, 42]⟩ _).mono ?_
      rintro e w2 ⟨rfl, rfl⟩
      obtain ⟨pb, hpb⟩ : ∃ pb, Lib.hasPrefix S.data.toList (⟨#[40, 42]⟩ : ByteArray).data.toList = pb := ⟨_, rfl⟩
      rw [hpb]
      have hpb' : [40, 42].isPrefixOf (spell ⟨3, tx, n, a⟩) = pb := by rw [← HSL.out]; exact hpb
      clear hpb
      cases pb with
      | true =>
        have hno : ¬ Spelt ⟨3, tx, n, a⟩ := fun h => by
          have := h.2.2.1
          rw [hpb'] at this; cases this
        have HNO := Lib.hid hno
        clear hno hpb'
        go_wp2_with fail
        go_ret2
        exact ⟨hB1, .inr ⟨HNO.out, _, rfl⟩⟩
      | false =>
        have HPB := Lib.hid hpb'
        clear hpb'
        obtain ⟨r, hr⟩ : ∃ r, tok S.data.toList = r := ⟨_, rfl⟩
        have HR := Lib.hid hr
        clear hr
        go_wp2_with fail
        refine (token_any x S _ (HX.out.stays hB1) (HV.out.vars.stays hB1) (by omega) hpos r HR.out).mono ?_
        rintro e w2 ⟨B2, hw⟩
        have hblk := below_block B2 (block_lt HBL1.out) HBL1.out
        have hb0 := block_lt hblk
        have HBLK := Lib.hid hblk
        clear hblk
        have q0 := cell_of_block HBLK.out 0
        have q1 := cell_of_block HBLK.out 1
        have q2 := cell_of_block HBLK.out 2
        have q3 := cell_of_block HBLK.out 3
        have p3 := frozen_of_block HBLK.out 3
        simp at q0 q1 q2 q3
        have hB2 : Below w.heap.size w w2 := bthen hB1 B2
        cases r with
        | error c =>
          obtain ⟨kk, y, mm, aa, nn, rfl⟩ := hw
          have hc := (tok_fine S.data.toList).2 c HR.out
          have hc0 : (c == 0) = false := by rw [beq_eq_false_iff_ne]; omega
          have hno : ¬ Spelt ⟨3, tx, n, a⟩ := fun h => by
            have := h.2.2.2
            rw [← HSL.out, HR.out] at this; cases this
          have HNO := Lib.hid hno
          clear hno hc
          go_wp2_with fail
          go_quiet (fail)
          go_wp2_with fail
          go_ret2
          exact ⟨((hB2.setCell (Nat.le_refl _) _).alloc (by simpa using hB2.size) _).trans (bdrew _ _ _), .inr ⟨HNO.out, _, rfl⟩⟩
        | ok tn =>
          obtain ⟨⟨tk, ty, tn, ta⟩, m⟩ := tn
          simp only at hw
          subst hw
          by_cases hm : m = S.size
          · have hm1 : ((m : Int) == S.size) = true := by rw [beq_iff_eq]; omega
            have heq := fun W => eqTok tk 3 tn n ta 0 ⟨ty.toArray⟩ Y W
            have hgd := fun x y xs ys W => guardTok x y xs ys W
            have HM := Lib.hid hm
            clear hm
            go_wp2_with fail
            go_quiet (fail)
            generalize hBB : (tk == 3 && ty == ByteArray.toList Y && tn == n && ta == 0) = BB
            have hX : ByteArray.toList Y = tx := by rw [ByteArray.toList_eq]; exact HXL.out
            rw [hX] at hBB
            have hSe : (⟨(spell ⟨3, tx, n, a⟩).toArray⟩ : ByteArray) = S := by rw [← HSL.out]
            have hta : ta = 0 := ((tok_fine S.data.toList).1 _ _ HR.out).2.2
            have key : BB = true ↔ Spelt ⟨3, tx, n, a⟩ := by
              rw [← hBB, Bool.and_eq_true, Bool.and_eq_true, Bool.and_eq_true, beq_iff_eq, beq_iff_eq, beq_iff_eq, beq_iff_eq]
              constructor
              · rintro ⟨⟨⟨rfl, rfl⟩, rfl⟩, rfl⟩
                refine ⟨?_, ?_, HPB.out, ?_⟩
                · rw [← HSL.out]
                  exact fun h => he (by rw [ByteArray.toList_eq]; exact h)
                · rw [← HSL.out, len_list]; omega
                · rw [← HSL.out, HR.out, len_list, HM.out]
              · intro h
                have h4 := h.2.2.2
                rw [← HSL.out, HR.out] at h4
                simp only [Except.ok.injEq, Prod.mk.injEq, Tok.mk.injEq] at h4
                obtain ⟨⟨rfl, rfl, rfl, rfl⟩, _⟩ := h4
                exact ⟨⟨⟨rfl, rfl⟩, rfl⟩, rfl⟩
            have KEY := Lib.hid key
            have HSE := Lib.hid hSe
            clear key hBB hX hSe heq hgd
            go_wp2_with fail
            go_ret2
            refine ⟨((hB2.setCell (Nat.le_refl _) _).alloc (by simpa using hB2.size) _).trans (bdrew _ _ _), ?_⟩
            cases BB with
            | true => exact .inl ⟨KEY.out.1 rfl, by rw [HSE.out]; rfl⟩
            | false => exact .inr ⟨fun h => (by cases KEY.out.2 h), _, rfl⟩
          · have hm1 : ((m : Int) == S.size) = false := by rw [beq_eq_false_iff_ne]; omega
            have hno : ¬ Spelt ⟨3, tx, n, a⟩ := fun h => by
              have := h.2.2.2
              rw [← HSL.out, HR.out, len_list] at this
              simp only [Except.ok.injEq, Prod.mk.injEq] at this
              exact hm this.2
            have HNO := Lib.hid hno
            clear hno
            have HM := Lib.hid hm
            clear hm
            go_wp2_with fail
            go_quiet (fail)
            go_wp2_with fail
            go_ret2
            exact ⟨((hB2.setCell (Nat.le_refl _) _).alloc (by simpa using hB2.size) _).trans (bdrew _ _ _), .inr ⟨HNO.out, _, rfl⟩⟩
set_option maxRecDepth 100000 in
set_option maxHeartbeats 4000000 in
theorem spelt_neg (x : Value) (n a : Int) (tx : List UInt8) (w : World) (hx : IsLexer w x) (hv : VarsT w) (htx : tx.length ≤ 1000) (h0 : -9223372036854775808 ≤ n) (h1 : n ≤ 9223372036854775807) (hsg : n < 0) :
    Calls Tryd.prog 34 #[x, .agg #[.int .i64 3, .string ⟨tx.toArray⟩, .int .i64 n, .int .i64 a]] w (AtSpelt ⟨3, tx, n, a⟩ w) := by
  have hsp : spell ⟨3, tx, n, a⟩ = hexedL (u32 n) true ++ [72] := by simp [spell, hsg]
  have HSP := Lib.hid hsp
  have HX := Lib.hid hx
  have HV := Lib.hid hv
  clear hsp hx hv
  obtain ⟨Y, hY⟩ : ∃ Y : ByteArray, (⟨tx.toArray⟩ : ByteArray) = Y := ⟨_, rfl⟩
  have HXL : Hid (Y.data.toList = tx) := by rw [← hY]; rfl
  have H0 := Lib.hid h0
  have H1 := Lib.hid h1
  clear h0 h1
  rw [hY]
  have hbl0 : (w.alloc (.cells #[.int .i64 3, .string Y, .int .i64 n, .int .i64 a] 34)).heap[w.heap.size]? = some (.cells #[.int .i64 3, .string Y, .int .i64 n, .int .i64 a] 34 (0, 0)) := alloc_block _ _
  have HBL0 := Lib.hid hbl0
  clear hbl0 hY
  obtain ⟨Z, hZ⟩ : ∃ Z : ByteArray, (⟨(hexedL (u32 n) true).toArray⟩ : ByteArray) = Z := ⟨_, rfl⟩
  obtain ⟨S, hS⟩ : ∃ S : ByteArray, Z ++ ⟨#[72]⟩ = S := ⟨_, rfl⟩
  have hZl : Z.data.toList = hexedL (u32 n) true := by rw [← hZ]
  have hSl : S.data.toList = spell ⟨3, tx, n, a⟩ := by rw [← hS, HSP.out, ← hZl]; simp [ByteArray.data_append]
  have hZz : (Z.size : Int) ≤ 9 := by
    have := hexedL_len (u32 n) true (u32_lt n)
    rw [← len_list, hZl]; omega
  have hSz : (S.size : Int) ≤ 1100 := by
    have e : S.size = Z.size + 1 := by rw [← hS, ByteArray.size_append]; rfl
    omega
  have hn1 : ¬ (9223372036854775807 < Z.size + 1) := by omega
  have hwr := wrap_u32 n
  have HSL := Lib.hid hSl
  clear hSl
  go_enter Tryd.func34, Tryd.ntmps34
  go_wp2_with fail
  refine (Tryd.strconv_Itoa n H0.out H1.out _ (HV.out.stays ((Below.refl _ _).alloc (Nat.le_refl _) _)).pow).mono ?_
  rintro e w1 ⟨rfl, dk, os, hw1⟩
  have B1 := below_grow hw1
  clear hw1
  have hB1 : Below w.heap.size w w1 := bthen ((Below.refl _ _).alloc (Nat.le_refl _) _) B1
  have hblk1 := below_block B1 (block_lt HBL0.out) HBL0.out
  have q2 := cell_of_block hblk1 2
  simp at q2
  have HBL1 := Lib.hid hblk1
  clear B1 hblk1
  go_wp2_with fail
  refine (hexed_any (u32 n) true _ (HV.out.stays hB1) (u32_lt n)).mono ?_
  rintro e w3 ⟨rfl, B3⟩
  rw [hZ]
  have hB3 : Below w.heap.size w w3 := bthen hB1 B3
  have HBL3 := Lib.hid (below_block B3 (block_lt HBL1.out) HBL1.out)
  clear hZ hZl B3 q2
  by_cases he : S.toList = []
  · have hno : ¬ Spelt ⟨3, tx, n, a⟩ := fun h => h.1 (by rw [← HSL.out, ← ByteArray.toList_eq]; exact he)
    have HNO := Lib.hid hno
    clear hno
    go_wp2_with fail
    go_ret2
    exact ⟨hB3, .inr ⟨HNO.out, _, rfl⟩⟩
  · have he2 : S.toList.isEmpty = false := by simpa using he
    by_cases hbig : (66 : Int) < S.size
    · have hno : ¬ Spelt ⟨3, tx, n, a⟩ := fun h => by
        have := h.2.1
        rw [← HSL.out, len_list] at this
        omega
      have HNO := Lib.hid hno
      clear hno
      go_wp2_with fail
      go_ret2
      exact ⟨hB3, .inr ⟨HNO.out, _, rfl⟩⟩
    · have hpos : 0 < S.size := by
        rcases Nat.lt_or_ge 0 S.size with h | h
        · exact h
        · exact absurd (by rw [ByteArray.toList_eq]; exact List.eq_nil_of_length_eq_zero (by rw [len_list]; omega)) he
      go_wp2_with fail
      refine (Tryd.strings_HasPrefix S ⟨#[40, 42]⟩ _).mono ?_
      rintro e w2 ⟨rfl, rfl⟩
      obtain ⟨pb, hpb⟩ : ∃ pb, Lib.hasPrefix S.data.toList (⟨#[40, 42]⟩ : ByteArray).data.toList = pb := ⟨_, rfl⟩
      rw [hpb]
      have hpb' : [40, 42].isPrefixOf (spell ⟨3, tx, n, a⟩) = pb := by rw [← HSL.out]; exact hpb
      clear hpb
      cases pb with
      | true =>
        have hno : ¬ Spelt ⟨3, tx, n, a⟩ := fun h => by
          have := h.2.2.1
          rw [hpb'] at this; cases this
        have HNO := Lib.hid hno
        clear hno hpb'
        go_wp2_with fail
        go_ret2
        exact ⟨hB3, .inr ⟨HNO.out, _, rfl⟩⟩
      | false =>
        have HPB := Lib.hid hpb'
        clear hpb'
        obtain ⟨r, hr⟩ : ∃ r, tok S.data.toList = r := ⟨_, rfl⟩
        have HR := Lib.hid hr
        clear hr
        go_wp2_with fail
        refine (token_any x S _ (HX.out.stays hB3) (HV.out.vars.stays hB3) (by omega) hpos r HR.out).mono ?_
        rintro e w2 ⟨B2, hw⟩
        have hblk := below_block B2 (block_lt HBL3.out) HBL3.out
        have hb0 := block_lt hblk
        have HBLK := Lib.hid hblk
        clear hblk
        have q0 := cell_of_block HBLK.out 0
        have q1 := cell_of_block HBLK.out 1
        have q2 := cell_of_block HBLK.out 2
        have q3 := cell_of_block HBLK.out 3
        have p3 := frozen_of_block HBLK.out 3
        simp at q0 q1 q2 q3
        have hB2 : Below w.heap.size w w2 := bthen hB3 B2
        cases r with
        | error c =>
          obtain ⟨kk, y, mm, aa, nn, rfl⟩ := hw
          have hc := (tok_fine S.data.toList).2 c HR.out
          have hc0 : (c == 0) = false := by rw [beq_eq_false_iff_ne]; omega
          have hno : ¬ Spelt ⟨3, tx, n, a⟩ := fun h => by
            have := h.2.2.2
            rw [← HSL.out, HR.out] at this; cases this
          have HNO := Lib.hid hno
          clear hno hc
          go_wp2_with fail
          go_quiet (fail)
          go_wp2_with fail
          go_ret2
          exact ⟨((hB2.setCell (Nat.le_refl _) _).alloc (by simpa using hB2.size) _).trans (bdrew _ _ _), .inr ⟨HNO.out, _, rfl⟩⟩
        | ok tn =>
          obtain ⟨⟨tk, ty, tn, ta⟩, m⟩ := tn
          simp only at hw
          subst hw
          by_cases hm : m = S.size
          · have hm1 : ((m : Int) == S.size) = true := by rw [beq_iff_eq]; omega
            have heq := fun W => eqTok tk 3 tn n ta 0 ⟨ty.toArray⟩ Y W
            have hgd := fun x y xs ys W => guardTok x y xs ys W
            have HM := Lib.hid hm
            clear hm
            go_wp2_with fail
            go_quiet (fail)
            generalize hBB : (tk == 3 && ty == ByteArray.toList Y && tn == n && ta == 0) = BB
            have hX : ByteArray.toList Y = tx := by rw [ByteArray.toList_eq]; exact HXL.out
            rw [hX] at hBB
            have hSe : (⟨(spell ⟨3, tx, n, a⟩).toArray⟩ : ByteArray) = S := by rw [← HSL.out]
            have hta : ta = 0 := ((tok_fine S.data.toList).1 _ _ HR.out).2.2
            have key : BB = true ↔ Spelt ⟨3, tx, n, a⟩ := by
              rw [← hBB, Bool.and_eq_true, Bool.and_eq_true, Bool.and_eq_true, beq_iff_eq, beq_iff_eq, beq_iff_eq, beq_iff_eq]
              constructor
              · rintro ⟨⟨⟨rfl, rfl⟩, rfl⟩, rfl⟩
                refine ⟨?_, ?_, HPB.out, ?_⟩
                · rw [← HSL.out]
                  exact fun h => he (by rw [ByteArray.toList_eq]; exact h)
                · rw [← HSL.out, len_list]; omega
                · rw [← HSL.out, HR.out, len_list, HM.out]
              · intro h
                have h4 := h.2.2.2
                rw [← HSL.out, HR.out] at h4
                simp only [Except.ok.injEq, Prod.mk.injEq, Tok.mk.injEq] at h4
                obtain ⟨⟨rfl, rfl, rfl, rfl⟩, _⟩ := h4
                exact ⟨⟨⟨rfl, rfl⟩, rfl⟩, rfl⟩
            have KEY := Lib.hid key
            have HSE := Lib.hid hSe
            clear key hBB hX hSe heq hgd
            go_wp2_with fail
            go_ret2
            refine ⟨((hB2.setCell (Nat.le_refl _) _).alloc (by simpa using hB2.size) _).trans (bdrew _ _ _), ?_⟩
            cases BB with
            | true => exact .inl ⟨KEY.out.1 rfl, by rw [HSE.out]; rfl⟩
            | false => exact .inr ⟨fun h => (by cases KEY.out.2 h), _, rfl⟩
          · have hm1 : ((m : Int) == S.size) = false := by rw [beq_eq_false_iff_ne]; omega
            have hno : ¬ Spelt ⟨3, tx, n, a⟩ := fun h => by
              have := h.2.2.2
              rw [← HSL.out, HR.out, len_list] at this
              simp only [Except.ok.injEq, Prod.mk.injEq] at this
              exact hm this.2
            have HNO := Lib.hid hno
            clear hno
            have HM := Lib.hid hm
            clear hm
            go_wp2_with fail
            go_quiet (fail)
            go_wp2_with fail
            go_ret2
            exact ⟨((hB2.setCell (Nat.le_refl _) _).alloc (by simpa using hB2.size) _).trans (bdrew _ _ _), .inr ⟨HNO.out, _, rfl⟩⟩
end Go.Proofs.YtkieeaajhomdoaaDoor
set_option linter.unusedVariables false
set_option linter.unusedSimpArgs false
namespace Go.Proofs.YtkieeaajhomdoaaDoor
open Go.RowKit Go.Maps Go.MapKept
def TokFit (t : Tok) : Prop := t.text.length ≤ 1000 ∧ -9223372036854775808 ≤ t.n ∧ t.n ≤ 9223372036854775807
theorem spelt_any (x : Value) (t : Tok) (w : World) (hx : IsLexer w x) (hv : VarsT w) (ht : TokFit t) :
    Calls Tryd.prog 34 #[x, .agg #[.int .i64 t.kind, .string ⟨t.text.toArray⟩, .int .i64 t.n, .int .i64 t.at_]] w (AtSpelt t w) := by
  obtain ⟨k, tx, n, a⟩ := t
  obtain ⟨h1, h2, h3⟩ := ht
  by_cases k3 : k = 3
  · subst k3
    by_cases hn : n < 0
    · exact spelt_neg x n a tx w hx hv h1 h2 h3 hn
    · exact spelt_pos x n a tx w hx hv h1 h2 h3 hn
  · by_cases k4 : k = 4
    · subst k4; exact spelt_chr x n a tx w hx hv h1
    · by_cases k5 : k = 5
      · subst k5; exact spelt_text x n a tx w hx hv h1
      · exact spelt_other x k n a tx w hx hv h1 (by simpa using k3) (by simpa using k4) (by simpa using k5)
def joined (l : List Tok) : List UInt8 := Lib.join (l.map spell) [32]
/-- What tokens are as a text. -/
def TextIs (l : List Tok) (r : Except Int (List UInt8)) : Prop :=
  (6000 < l.length ∧ r = .error 3) ∨ (l.length ≤ 6000 ∧ (∃ t ∈ l, ¬ GoodT t) ∧ r = .error 1) ∨
  (l.length ≤ 6000 ∧ (∀ t ∈ l, GoodT t) ∧ ((16384 < (joined l).length ∧ r = .error 2) ∨ ((joined l).length ≤ 16384 ∧ r = .ok (joined l))))
theorem TextIs.same {l : List Tok} {r r' : Except Int (List UInt8)} (h : TextIs l r) (h' : TextIs l r') : r = r' := by
  rcases h with ⟨h1, rfl⟩ | ⟨h1, ⟨t, ht, hg⟩, rfl⟩ | ⟨h1, hg, ⟨h2, rfl⟩ | ⟨h2, rfl⟩⟩ <;> rcases h' with ⟨k1, rfl⟩ | ⟨k1, ⟨u, hu, kg⟩, rfl⟩ | ⟨k1, kg, ⟨k2, rfl⟩ | ⟨k2, rfl⟩⟩ <;> first | rfl | omega | exact absurd (kg t ht) hg | exact absurd (hg u hu) kg
def AtText (l : List Tok) (w : World) (e : Ending) (w' : World) : Prop := Below w.heap.size w w' ∧
  ((∃ s : List UInt8, TextIs l (.ok s) ∧ e = .returned (.tuple #[.string ⟨s.toArray⟩, .int .i64 0])) ∨ ∃ c : Int, TextIs l (.error c) ∧ c ≠ 0 ∧ e = .returned (.tuple #[.string ⟨#[]⟩, .int .i64 c]))
theorem info_str : (Tryd.prog.info? 9).map (fun i => (i.zero, i.size, i.bytes)) = some (some (.string ⟨#[]⟩), 1, 16) := by kernel_rfl
def strCells (l : List (List UInt8)) : List Value := l.map fun s => .string ⟨s.toArray⟩
theorem joinTail_len (r : List (List UInt8)) (h : ∀ x ∈ r, x.length ≤ 66) : (Lib.joinTail [32] r).length ≤ 67 * r.length := by
  induction r with
  | nil => simp [Lib.joinTail]
  | cons x r ih =>
    have h1 := ih (fun y hy => h y (by simp [hy]))
    have h2 := h x (by simp)
    have e : Lib.joinTail [32] (x :: r) = ([32] ++ x) ++ Lib.joinTail [32] r := rfl
    rw [e, List.length_append, List.length_append]
    simp only [List.length_cons, List.length_nil]
    omega
theorem joined_len (l : List Tok) (h : ∀ t ∈ l, (spell t).length ≤ 66) : (joined l).length ≤ 67 * l.length := by
  match l with
  | [] => exact Nat.le_refl _
  | t :: l =>
    rw [joined, List.map_cons, Lib.join_cons, List.length_append]
    have h1 := joinTail_len (l.map spell) (fun x hx => by
      obtain ⟨u, hu, rfl⟩ := List.mem_map.1 hx
      exact h u (by simp [hu]))
    have h2 := h t (by simp)
    rw [List.length_map] at h1
    simp only [List.length_cons]
    omega
theorem spell_len {t : Tok} (h : Spelt t) : (spell t).length ≤ 66 := h.2.1
set_option maxRecDepth 100000 in
set_option maxHeartbeats 4000000 in
theorem Text_any (v : Value) (l : List Tok) (w : World) (hv : VarsT w) (hr : ReadsToks w v l) (hl : ∀ t ∈ l, TokFit t) : Calls Tryd.prog 18 #[v] w (AtText l w) := by
  have HV := Lib.hid hv
  have HL := Lib.hid hl
  obtain ⟨A, C, rfl, hll, hrd⟩ := hr
  have HRD := Lib.hid hrd
  clear hv hl hrd
  obtain ⟨i0, hi, hz0, hz1, hz2⟩ := info_parts info_str
  have HI := Lib.hid hi
  have HZ0 := Lib.hid hz0
  have HZ1 := Lib.hid hz1
  have HZ2 := Lib.hid hz2
  clear hi hz0 hz1 hz2
  by_cases hmany : (6000 : Int) < l.length
  · go_enter Tryd.func18, Tryd.ntmps18
    go_wp2_with fail
    go_ret2
    exact ⟨Below.refl _ _, .inr ⟨3, .inl ⟨by omega, rfl⟩, by omega, rfl⟩⟩
  · have hm : (l.length : Int) ≤ 6000 := by omega
    clear hmany hll
    go_enter Tryd.func18, Tryd.ntmps18
    go_wp2_with fail
    refine (begun_any _ HV.out.vars.space).mono ?_
    rintro e w1 ⟨x, rfl, hx, B1⟩
    have HX := Lib.hid hx
    clear hx
    go_wp2_with fail
    go_loopw [5, 17] (fun o i wr => ∃ (k : Nat) (A' : Option Addr) (C' : Nat), o = .slice A' k C' ∧ k ≤ l.length ∧ i = .int .i64 k ∧ Aside (wr.ownsRow w1.heap.size 9 1 (.slice A' k C') k (strCells ((l.take k).map spell))) ∧ Hid (∀ t ∈ l.take k, Spelt t) ∧ Below w1.heap.size w1 wr) (fun _ i _ => l.length - (intOf i).toNat)
    case atStart => exact ⟨0, none, 0, rfl, by omega, rfl, ⟨by simp [strCells], .inl ⟨rfl, rfl⟩⟩, fun t h => by simp at h, Below.refl _ _⟩
    case round =>
      obtain ⟨k, A', C', rfl, hk, rfl, hown, HS, hB⟩ := hrel
      by_cases hlt : k < l.length
      · have hki : (k : Int) < l.length := by omega
        obtain ⟨b, o, rfl, hcc⟩ := HRD.out (by omega)
        obtain ⟨c0, c1, c2, c3⟩ := hcc k hlt
        have hB0 : Below w.heap.size w wr := bthen B1 hB
        have hfit := HL.out l[k] (List.getElem_mem hlt)
        obtain ⟨t, ht⟩ : ∃ t, l[k] = t := ⟨_, rfl⟩
        rw [ht] at c0 c1 c2 c3 hfit
        have c0 := cell_keep hB0 c0
        have c1 := cell_keep hB0 c1
        have c2 := cell_keep hB0 c2
        have c3 := cell_keep hB0 c3
        have la := World.block_lt_of_cell? _ _ c0
        simp only at la
        have HT := Lib.hid ht
        have HFIT := Lib.hid hfit
        clear ht hcc hfit
        go_wp2_with fail
        refine (spelt_any x t _ (HX.out.stays (hB.alloc hB.size _)) (HV.out.stays (bthen B1 (hB.alloc hB.size _))) HFIT.out).mono ?_
        rintro e w2 ⟨B2, ⟨hyes, rfl⟩ | ⟨hno, s, rfl⟩⟩
        · have HY := Lib.hid hyes
          clear hyes
          have hB2 : Below w1.heap.size w1 w2 := bthen (hB.alloc hB.size _) B2
          have hown2 : Aside (w2.ownsRow w1.heap.size 9 1 (.slice A' k C') k (strCells ((l.take k).map spell))) := ⟨own_below (hown.out.alloc _) B2⟩
          go_wp2_with (at_builtin; refine wpList_append_own _ rfl _ _ 60 rfl w1.heap.size 9 i0 _ 1 16 Tryd.underlying60 HI.out HZ0.out HZ1.out HZ2.out rfl (by decide) _ k _ rfl (hown2.out.alloc _) ⟨w2.heap.size, 0, none⟩ 1 1 [.string ⟨(spell t).toArray⟩] rfl rfl ?c1 ?c2 ?c3 ?c4 ?c5 ?_)
          case c1 => exact fun j u hu => new_cells rfl (by simpa using hu)
          case c2 => intro u hu; simp at hu; subst hu; rfl
          case c3 => unfold maxLen; omega
          case c4 => omega
          case c5 => have := hB2.size; simp; omega
          intro v3 w3 hown3 hgrow hiff
          have hbel3 : Below w1.heap.size w1 w3 := by
            refine Below.grown ?_ hgrow ?_ (fun b hb => own_base hown2.out b hb)
            · exact hB2.alloc hB2.size _
            · have := hB2.size; simp; omega
          obtain ⟨g, C3, rfl⟩ : ∃ g C3, v3 = .slice (some g) (k + 1) C3 := by
            rcases hown3.2 with ⟨_, h⟩ | ⟨g, cap, cur, h, _⟩
            · omega
            · exact ⟨_, _, h⟩
          have hown4 := Aside.mk hown3
          clear hown3 hgrow hiff hown hown2
          go_wp2_with fail
          go_roundw
          case rel =>
            have e : l.take (k + 1) = l.take k ++ [t] := by
              rw [List.take_add_one, List.getElem?_eq_getElem hlt, HT.out]; rfl
            refine ⟨k + 1, some g, C3, rfl, by omega, by go_num, ?_, ?_, hbel3⟩
            · rw [e, List.map_append, strCells, List.map_append, List.map_take]
              exact hown4
            · intro u hu
              rw [e] at hu
              rcases List.mem_append.1 hu with hu | hu
              · exact HS.out u hu
              · simp only [List.mem_cons, List.not_mem_nil, or_false] at hu
                subst hu
                exact HY.out
          case measure => simp [intOf]; omega
        · have HN := Lib.hid hno
          clear hno
          go_wp2_with fail
          go_ret2
          refine ⟨bthen B1 (bthen (hB.alloc hB.size _) B2), .inr ⟨1, .inr (.inl ⟨by omega, ⟨t, by rw [← HT.out]; exact List.getElem_mem hlt, fun h => HN.out ((spelt_iff t HFIT.out.2.1 HFIT.out.2.2).2 h)⟩, rfl⟩), by omega, rfl⟩⟩
      · have hkl : k = l.length := by omega
        subst hkl
        have hgood : ∀ t ∈ l, GoodT t := fun t ht => (spelt_iff t (HL.out t ht).2.1 (HL.out t ht).2.2).1 (HS.out t (by rw [List.take_length]; exact ht))
        have hjl := joined_len l (fun t ht => spell_len (HS.out t (by rw [List.take_length]; exact ht)))
        have hB0 : Below w.heap.size w wr := bthen B1 hB
        obtain ⟨S, hS⟩ : ∃ S : ByteArray, (⟨(joined l).toArray⟩ : ByteArray) = S := ⟨_, rfl⟩
        have hSz : S.size = (joined l).length := by rw [← hS]; show (joined l).toArray.size = _; simp
        have hjoin : Calls Tryd.prog 35 #[.slice A' l.length C', .string ⟨#[32]⟩] wr (fun e w' => e = .returned (.string S) ∧ Below wr.heap.size wr w') := by
          rw [← hS]
          by_cases h0 : l = []
          · subst h0
            refine (Tryd.strings_Join_none A' C' ⟨#[32]⟩ wr).mono ?_
            rintro e w' ⟨rfl, rfl⟩
            exact ⟨rfl, Below.refl _ _⟩
          · have hpos : 0 < l.length := List.length_pos_iff.2 h0
            have ho := hown.out
            rw [List.take_length] at ho
            rcases ho.2 with ⟨_, h⟩ | ⟨g, cap, cur, hsl, hg, hh, hn, hc, hs, htk⟩
            · omega
            · simp only [Value.slice.injEq] at hsl
              obtain ⟨rfl, _, rfl⟩ := hsl
              have e1 : ((l.map spell).map fun s => (⟨s.toArray⟩ : ByteArray)).length = l.length := by simp
              have e2 : ((l.map spell).map fun s => (⟨s.toArray⟩ : ByteArray)).map (·.data.toList) = l.map spell := by simp
              have key := Tryd.strings_Join g 0 C' ((l.map spell).map fun s => (⟨s.toArray⟩ : ByteArray)) ⟨#[32]⟩ wr ?_ (block_lt hh) (by rw [e1]; omega) (by rw [e1]; exact hn) (by rw [e2]; show (joined l).length ≤ _; omega)
              · rw [e1, e2] at key
                exact key
              · intro j y hj
                rw [Nat.zero_add, cell_of_block hh]
                have hjl : j < l.length := by
                  rcases Nat.lt_or_ge j l.length with h | h
                  · exact h
                  · rw [List.getElem?_eq_none (by rw [e1]; exact h)] at hj; cases hj
                have e3 : (strCells (l.map spell))[j]? = some (.string y) := by
                  rw [strCells, List.getElem?_map]
                  rw [List.getElem?_map] at hj
                  cases hq : (l.map spell)[j]? with
                  | none => rw [hq] at hj; cases hj
                  | some q => rw [hq] at hj; simp only [Option.map_some, Option.some.injEq] at hj; subst hj; rfl
                rw [← htk, List.getElem?_take_of_lt (by omega)] at e3
                simpa using e3
        have HJ := Lib.hid hjoin
        have HG := Lib.hid hgood
        have HSS := Lib.hid hS
        have HSZ := Lib.hid hSz
        clear hjoin hgood hS
        by_cases hlong : (16384 : Int) < S.size
        · clear hSz
          go_wp2_with fail
          refine HJ.out.mono ?_
          rintro e w2 ⟨rfl, B2⟩
          go_wp2_with fail
          go_ret2
          exact ⟨bthen hB0 B2, .inr ⟨2, .inr (.inr ⟨by omega, HG.out, .inl ⟨by have := HSZ.out; omega, rfl⟩⟩), by omega, rfl⟩⟩
        · clear hSz
          go_wp2_with fail
          refine HJ.out.mono ?_
          rintro e w2 ⟨rfl, B2⟩
          go_wp2_with fail
          go_ret2
          exact ⟨bthen hB0 B2, .inl ⟨joined l, .inr (.inr ⟨by omega, HG.out, .inr ⟨by have := HSZ.out; omega, rfl⟩⟩), by rw [HSS.out]; rfl⟩⟩
end Go.Proofs.YtkieeaajhomdoaaDoor
set_option linter.unusedVariables false
set_option linter.unusedSimpArgs false
namespace Go.Proofs.YtkieeaajhomdoaaDoor
open Go.RowKit Go.Maps Go.MapKept
/-- A test that says whether p holds. -/
def Says (p : Prop) (w : World) (e : Ending) (w' : World) : Prop := ∃ r : Bool, (r = true ↔ p) ∧ e = .returned (.bool r) ∧ Below w.heap.size w w'
theorem says_true {p : Prop} {w w' : World} (h : p) (hb : Below w.heap.size w w') : Says p w (.returned (.bool true)) w' := ⟨true, by simp [h], rfl, hb⟩
theorem says_false {p : Prop} {w w' : World} (h : ¬ p) (hb : Below w.heap.size w w') : Says p w (.returned (.bool false)) w' := ⟨false, by simp [h], rfl, hb⟩
theorem mem_bytes {s : ByteArray} {p : UInt8 → Prop} : (∀ c ∈ s.data.toList, p c) ↔ ∀ (j : Nat) (h : j < s.size), p s[j] := by
  constructor
  · intro h j hj
    exact h _ (by
      have : s.data.toList[j]'(by rw [len_list]; exact hj) = s[j] := get_list s j hj
      rw [← this]; exact List.getElem_mem _)
  · intro h c hc
    obtain ⟨j, hj, rfl⟩ := List.mem_iff_getElem.1 hc
    exact h j (by simpa [len_list] using hj)
set_option maxRecDepth 100000 in
set_option maxHeartbeats 1600000 in
theorem r_String (s : ByteArray) (w : World) (hs : s.size ≤ 140737488351232) : Calls Tryd.prog 67 #[.string s] w (Says (isQuot s.data.toList) w) := by
  by_cases hlong : (64 : Int) < s.size
  · go_enter Tryd.func67, Tryd.ntmps67
    go_wp2_with fail
    go_ret
    exact says_false (fun h => by have := h.1; rw [len_list] at this; omega) (Below.refl _ _)
  · go_enter Tryd.func67, Tryd.ntmps67
    go_wp2_with fail
    go_loop [3] (fun i => ∃ k : Nat, k ≤ s.size ∧ i = .int .i64 k ∧ Hid (∀ (j : Nat) (h : j < s.size), j < k → isPlain s[j] = true)) (fun i => s.size - (intOf i).toNat)
    case atStart => exact ⟨0, by omega, rfl, fun j hj h => by omega⟩
    case round =>
      obtain ⟨k, hk, rfl, HN⟩ := hrel
      by_cases hlt : k < s.size
      · have hki : (k : Int) < s.size := by omega
        by_cases h1 : ((s[k].toNat : Nat) : Int) < 32
        · go_wp2_with fail
          go_ret
          refine says_false (fun h => ?_) (Below.refl _ _)
          have := (mem_bytes (p := fun c => isPlain c = true)).1 h.2 k hlt
          simp only [isPlain, Bool.and_eq_true, decide_eq_true_eq] at this
          omega
        · by_cases h2 : ((s[k].toNat : Nat) : Int) = 34
          · have h2b : (((s[k].toNat : Nat) : Int) == 34) = true := by rw [beq_iff_eq]; exact h2
            have H2 := Lib.hid h2
            clear h2
            go_wp2_with fail
            go_ret
            refine says_false (fun h => ?_) (Below.refl _ _)
            have := (mem_bytes (p := fun c => isPlain c = true)).1 h.2 k hlt
            have h3 := H2.out
            simp only [isPlain, Bool.and_eq_true, decide_eq_true_eq, bne_iff_ne] at this
            omega
          · have h2b : (((s[k].toNat : Nat) : Int) == 34) = false := by rw [beq_eq_false_iff_ne]; exact h2
            have H2 := Lib.hid h2
            have hp : isPlain s[k] = true := by
              simp only [isPlain, Bool.and_eq_true, decide_eq_true_eq, bne_iff_ne]
              omega
            have HP := Lib.hid hp
            clear h2 hp
            go_wp2_with fail
            go_round
            case rel =>
              refine ⟨k + 1, by omega, by go_num, fun j hj h => ?_⟩
              by_cases e : j = k
              · subst e; exact HP.out
              · exact HN.out j hj (by omega)
            case measure => simp [intOf]; omega
      · go_wp2_with fail
        go_ret
        exact says_true ⟨by rw [len_list]; omega, (mem_bytes (p := fun c => isPlain c = true)).2 fun j hj => HN.out j hj (by omega)⟩ (Below.refl _ _)
set_option maxRecDepth 100000 in
set_option maxHeartbeats 1600000 in
theorem r_Word (s : ByteArray) (w : World) (hs : s.size ≤ 140737488351232) : Calls Tryd.prog 92 #[.string s] w (Says (isWord s.data.toList) w) := by
  by_cases hshort : (s.size : Int) < 1
  · have hno : ¬ isWord s.data.toList := fun h => by have := h.1; rw [len_list] at this; omega
    have HNO := Lib.hid hno
    clear hno
    go_enter Tryd.func92, Tryd.ntmps92
    go_wp2_with fail
    go_ret
    exact says_false HNO.out (Below.refl _ _)
  · by_cases hlong : (24 : Int) < s.size
    · have hno : ¬ isWord s.data.toList := fun h => by have := h.2.1; rw [len_list] at this; omega
      have HNO := Lib.hid hno
      clear hno
      go_enter Tryd.func92, Tryd.ntmps92
      go_wp2_with fail
      go_ret
      exact says_false HNO.out (Below.refl _ _)
    · have hpos : 0 < s.size := by omega
      have hposi : (0 : Int) < s.size := by omega
      have hcons : s.data.toList = s[0] :: s.data.toList.drop 1 := drop_cons s 0 hpos
      have HC := Lib.hid hcons
      clear hcons
      go_enter Tryd.func92, Tryd.ntmps92
      go_wp2_with fail
      refine (r_letter s[0] _).mono ?_
      rintro e w1 ⟨rfl, rfl⟩
      cases hl : isLetter s[0] with
      | false =>
        have hno : ¬ isWord s.data.toList := fun h => by
          obtain ⟨c, r, h1, h2⟩ := h.2.2.1
          rw [HC.out] at h1
          simp only [List.cons.injEq] at h1
          rw [← h1.1, hl] at h2; cases h2
        have HNO := Lib.hid hno
        clear hno
        go_wp2_with fail
        go_ret
        exact says_false HNO.out (Below.refl _ _)
      | true =>
        have HLET := Lib.hid hl
        clear hl
        go_wp2_with fail
        go_loop [3] (fun i => ∃ k : Nat, 1 ≤ k ∧ k ≤ s.size ∧ i = .int .i64 k ∧ Hid (∀ (j : Nat) (h : j < s.size), j < k → isInside s[j] = true)) (fun i => s.size - (intOf i).toNat)
        case atStart => exact ⟨1, by omega, by omega, rfl, fun j hj h => by
          have : j = 0 := by omega
          subst this
          have := HLET.out
          simp [isInside, this]⟩
        case round =>
          obtain ⟨k, hk1, hk, rfl, HN⟩ := hrel
          by_cases hlt : k < s.size
          · have hki : (k : Int) < s.size := by omega
            have nextN : isInside s[k] = true → Hid (∀ (j : Nat) (h : j < s.size), j < k + 1 → isInside s[j] = true) := fun hq j hj h => by
              by_cases e : j = k
              · subst e; exact hq
              · exact HN.out j hj (by omega)
            have NX := Lib.hid nextN
            clear nextN
            go_wp2_with fail
            refine (r_letter s[k] _).mono ?_
            rintro e w2 ⟨rfl, rfl⟩
            cases hl : isLetter s[k] with
            | true =>
              have HN2 := NX.out (by simp [isInside, hl])
              clear hl
              go_wp2_with fail
              go_round
              case rel => exact ⟨k + 1, by omega, by omega, by go_num, HN2⟩
              case measure => simp [intOf]; omega
            | false =>
              have HLK := Lib.hid hl
              clear hl
              go_wp2_with fail
              refine (r_digit s[k] _).mono ?_
              rintro e w3 ⟨rfl, rfl⟩
              cases hd : isDigit s[k] with
              | true =>
                have HN2 := NX.out (by simp [isInside, hd])
                clear hd
                go_wp2_with fail
                go_round
                case rel => exact ⟨k + 1, by omega, by omega, by go_num, HN2⟩
                case measure => simp [intOf]; omega
              | false =>
                have HDK := Lib.hid hd
                clear hd
                go_wp2_with fail
                go_ret
                refine says_false (fun h => ?_) (Below.refl _ _)
                have := (mem_bytes (p := fun c => isInside c = true)).1 h.2.2.2 k hlt
                simp [isInside, HLK.out, HDK.out] at this
          · go_wp2_with fail
            go_ret
            exact says_true ⟨by rw [len_list]; omega, by rw [len_list]; omega, ⟨_, _, HC.out, HLET.out⟩, (mem_bytes (p := fun c => isInside c = true)).2 fun j hj => HN.out j hj (by omega)⟩ (Below.refl _ _)
set_option maxRecDepth 100000 in
set_option maxHeartbeats 1600000 in
theorem r_Name (s : ByteArray) (w : World) (hs : s.size ≤ 140737488351232) : Calls Tryd.prog 66 #[.string s] w (Says (isWord s.data.toList ∧ s.data.toList ∉ keyList) w) := by
  go_enter Tryd.func66, Tryd.ntmps66
  go_wp2_with fail
  refine (r_Word s _ hs).mono ?_
  rintro e w1 ⟨r, hr, rfl, hB⟩
  cases r with
  | false =>
    have HR : ¬ isWord s.data.toList := fun h => by cases hr.2 h
    have HR := Lib.hid HR
    clear hr
    go_wp2_with fail
    go_ret
    exact says_false (fun h => HR.out h.1) hB
  | true =>
    have HR := Lib.hid (hr.1 rfl)
    clear hr
    go_wp2_with fail
    refine (r_Key s _).mono ?_
    rintro e w2 ⟨rfl, hB2⟩
    cases hk : decide (s.data.toList ∈ keyList) with
    | true =>
      have HK := Lib.hid (of_decide_eq_true hk)
      clear hk
      go_wp2_with fail
      go_ret
      exact says_false (fun h => h.2 HK.out) (bthen hB hB2)
    | false =>
      have HK := Lib.hid (of_decide_eq_false hk)
      clear hk
      go_wp2_with fail
      go_ret
      exact says_true ⟨HR.out, HK.out⟩ (bthen hB hB2)
theorem digU_slice (d : Nat) (h : d < 16) : (⟨#[48, 49, 50, 51, 52, 53, 54, 55, 56, 57, 65, 66, 67, 68, 69, 70]⟩ : ByteArray).extract d (d + 1) = ⟨#[digU d]⟩ := by
  have : ∀ d : Fin 16, ((⟨#[48, 49, 50, 51, 52, 53, 54, 55, 56, 57, 65, 66, 67, 68, 69, 70]⟩ : ByteArray).extract d.1 (d.1 + 1)).data = #[digU d.1] := by decide +kernel
  exact ByteArray.ext (this ⟨d, h⟩)
def HexAt (n m : Nat) (L : List UInt8) : Prop := (L = [] ∧ m = n) ∨ (L ≠ [] ∧ ((m = 0 ∧ hexUp n = L) ∨ (0 < m ∧ hexUp n = hexUp m ++ L)))
theorem hex_step {n m : Nat} {L : List UInt8} (h : HexAt n m L) (hg : 0 < m ∨ L = []) : HexAt n (m / 16) (digU (m % 16) :: L) := by
  refine .inr ⟨by simp, ?_⟩
  have key : hexUp n = hexUp m ++ L := by
    rcases h with ⟨rfl, rfl⟩ | ⟨h1, ⟨rfl, h2⟩ | ⟨h2, h3⟩⟩
    · simp
    · rcases hg with h | h
      · omega
      · exact absurd h h1
    · exact h3
  by_cases hs : m < 16
  · refine .inl ⟨by omega, ?_⟩
    rw [key, hexUp_small hs, show m % 16 = m by omega]; rfl
  · refine .inr ⟨by omega, ?_⟩
    rw [key, hexUp_step (by omega), List.append_assoc]; rfl
theorem hex_len {n m : Nat} {L : List UInt8} (hn : n < 4294967296) (h : HexAt n m L) : L.length ≤ 8 := by
  have hl := hexLow_len n hn
  rw [← hexUp_len] at hl
  rcases h with ⟨rfl, rfl⟩ | ⟨_, ⟨_, h⟩ | ⟨_, h⟩⟩
  · simp
  · rw [← h]; exact hl
  · rw [h, List.length_append] at hl; omega
theorem hex_done {n : Nat} {L : List UInt8} (h : HexAt n 0 L) (hl : L ≠ []) : hexUp n = L := by
  rcases h with ⟨h, _⟩ | ⟨_, ⟨_, h⟩ | ⟨h, _⟩⟩
  · exact absurd h hl
  · exact h
  · omega
theorem put_list (c : UInt8) (S : ByteArray) : ((⟨#[c]⟩ : ByteArray) ++ S).data.toList = c :: S.data.toList := by simp [ByteArray.data_append]
def emptyN : Value → Nat | .string S => if S.size = 0 then 1 else 0 | _ => 0
set_option maxRecDepth 100000 in
set_option maxHeartbeats 1600000 in
theorem r_hex (n : Nat) (always : Bool) (w : World) (hn : (n : Int) ≤ 4294967295) : Calls Tryd.prog 68 #[.int .i64 n, .bool always] w (Is (.string ⟨(hexedL n always).toArray⟩) w) := by
  go_enter Tryd.func68, Tryd.ntmps68
  go_wp2_with fail
  go_loop [0, 5] (fun i t => ∃ (m : Nat) (S : ByteArray), i = .int .i64 m ∧ t = .string S ∧ (m : Int) ≤ 4294967295 ∧ Hid (HexAt n m S.data.toList)) (fun i t => 2 * (intOf i).toNat + emptyN t)
  case atStart => exact ⟨n, ⟨#[]⟩, rfl, rfl, hn, .inl ⟨rfl, rfl⟩⟩
  case round =>
    obtain ⟨m, S, rfl, rfl, hm, HN⟩ := hrel
    have hz : (S.size : Int) ≤ 8 := by
      have := hex_len (by omega) HN.out
      rw [len_list] at this; omega
    by_cases hgo : 0 < m
    · have hgoi : (0 : Int) < m := by omega
      have hsl := digU_slice (m % 16) (by omega)
      have hst := hex_step HN.out (.inl hgo)
      rw [← put_list] at hst
      have HST := Lib.hid hst
      have HSL := Lib.hid hsl
      clear hst hsl
      have hcat : ¬ (9223372036854775807 < 1 + S.size) := by omega
      go_wp2_with fail
      rw [HSL.out]
      go_round
      case rel => exact ⟨m / 16, _, by go_num, rfl, by omega, HST⟩
      case measure =>
        simp only [intOf, emptyN, ByteArray.size_append]
        have : (⟨#[digU (m % 16)]⟩ : ByteArray).size = 1 := rfl
        rw [this, if_neg (by omega)]
        split <;> omega
    · have hm0 : m = 0 := by omega
      subst hm0
      by_cases he : S.toList = []
      · have hst := hex_step HN.out (.inr (by rw [← ByteArray.toList_eq]; exact he))
        rw [← put_list] at hst
        have HST := Lib.hid hst
        have HE := Lib.hid he
        have hsl := digU_slice 0 (by omega)
        have HSL := Lib.hid hsl
        have he2 : S.toList.isEmpty = true := by simpa using he
        have hz0 : S.size = 0 := by rw [← len_list, ← ByteArray.toList_eq, he]; rfl
        have HZ := Lib.hid hz0
        have hcat : ¬ (9223372036854775807 < 1 + S.size) := by omega
        clear hst hsl hz0
        go_wp2_with fail
        rw [show (⟨#[48, 49, 50, 51, 52, 53, 54, 55, 56, 57, 65, 66, 67, 68, 69, 70]⟩ : ByteArray).extract 0 1 = ⟨#[digU 0]⟩ from HSL.out]
        go_round
        case rel => exact ⟨0, _, rfl, rfl, by omega, HST⟩
        case measure =>
          simp only [intOf, emptyN, ByteArray.size_append, HZ.out]
          have : (⟨#[digU 0]⟩ : ByteArray).size = 1 := rfl
          rw [this]; simp
      · have he2 : S.toList.isEmpty = false := by simpa using he
        have hd := hex_done HN.out (fun h => he (by rw [ByteArray.toList_eq]; exact h))
        have HD := Lib.hid hd
        have hpos : 0 < S.size := by
          rcases Nat.lt_or_ge 0 S.size with h | h
          · exact h
          · exact absurd (by rw [ByteArray.toList_eq]; exact List.eq_nil_of_length_eq_zero (by rw [len_list]; omega)) he
        have hposi : (0 : Int) < S.size := by omega
        have hcons : hexUp n = S[0] :: S.data.toList.drop 1 := by rw [hd]; exact drop_cons S 0 hpos
        have hhex : isHex S[0] = true := hexUp_hex n _ (by rw [hcons]; simp)
        have hput : (⟨#[48]⟩ : ByteArray) ++ S = ⟨(48 :: hexUp n).toArray⟩ := by
          rw [hd]
          apply ByteArray.ext
          simp [ByteArray.data_append]
        have hself : S = ⟨(hexUp n).toArray⟩ := by rw [hd]
        have HC := Lib.hid hcons
        have HX := Lib.hid hhex
        have HPUT := Lib.hid hput
        have HSELF := Lib.hid hself
        have hcat : ¬ (9223372036854775807 < 1 + S.size) := by omega
        clear hd hcons hhex hput hself
        cases always with
        | true =>
          go_wp2_with fail
          go_ret
          exact ⟨by rw [HPUT.out, hexedL, if_pos (by simp)]; rfl, rfl⟩
        | false =>
          go_wp2_with fail
          refine (r_letter S[0] _).mono ?_
          rintro e w1 ⟨rfl, rfl⟩
          cases hl : isLetter S[0] with
          | true =>
            have hbig : 57 < S[0].toNat := by
              simp only [isLetter, Bool.or_eq_true, Bool.and_eq_true, decide_eq_true_eq] at hl
              omega
            have HBIG := Lib.hid hbig
            clear hl hbig
            go_wp2_with fail
            go_ret
            refine ⟨?_, rfl⟩
            have := HBIG.out
            rw [HPUT.out, hexedL, if_pos (by rw [HC.out]; simpa using this)]
            rfl
          | false =>
            have hsm : S[0].toNat ≤ 57 := by
              have := HX.out
              simp only [isHex, isDigit, isLetter, Bool.or_eq_true, Bool.and_eq_true, decide_eq_true_eq, Bool.or_eq_false_iff, Bool.and_eq_false_iff, decide_eq_false_iff_not] at this hl
              omega
            have HSM := Lib.hid hsm
            clear hl hsm
            go_wp2_with fail
            go_ret
            refine ⟨?_, rfl⟩
            have h57 := HSM.out
            have h := HSELF.out
            show Ending.returned (.string S) = _
            rw [hexedL, if_neg (by rw [HC.out]; simp; omega), ← h]
end Go.Proofs.YtkieeaajhomdoaaDoor
set_option linter.unusedVariables false
set_option linter.unusedSimpArgs false
namespace Go.Proofs.YtkieeaajhomdoaaDoor
open Go.RowKit Go.Maps Go.MapKept
theorem dec_byte (d : Nat) (h : d < 10) : strOfNums [wrap64 (48 + (d : Int)) % 256] = ⟨#[UInt8.ofNat (48 + d)]⟩ := by
  have e : wrap64 (48 + (d : Int)) % 256 = ((48 + d : Nat) : Int) := by unfold wrap64; omega
  rw [e]; rfl
theorem dec_f (K : Nat) : ∀ n : Nat, n < K → n < 2147483648 → PDec.spinetref06_Dec.f K (n : Int) = some ⟨(Lib.decDigits n).toArray⟩ := by
  induction K with
  | zero => intro n h; omega
  | succ K ih =>
    intro n hK hn
    simp only [PDec.spinetref06_Dec.f]
    rw [if_neg (by omega)]
    by_cases h : n < 10
    · rw [if_pos (by omega), dec_byte n h, Lib.decDigits, dif_pos h]
    · have e1 : wrap64 (Int.tdiv n 10) = ((n / 10 : Nat) : Int) := by
        rw [Int.tdiv_eq_ediv_of_nonneg (by omega)]; unfold wrap64; omega
      have e2 : Int.tmod n 10 = ((n % 10 : Nat) : Int) := by rw [Int.tmod_eq_emod_of_nonneg (by omega)]; omega
      have hl := dec_len (n / 10) (by omega)
      have hcat : (⟨(Lib.decDigits (n / 10)).toArray⟩ : ByteArray) ++ ⟨#[UInt8.ofNat (48 + n % 10)]⟩ = ⟨(Lib.decDigits n).toArray⟩ := by
        rw [show Lib.decDigits n = Lib.decDigits (n / 10) ++ [UInt8.ofNat (48 + n % 10)] by rw [Lib.decDigits, dif_neg h]]
        apply ByteArray.ext
        simp [ByteArray.data_append]
      have hsz : (⟨(Lib.decDigits (n / 10)).toArray⟩ : ByteArray).size = (Lib.decDigits (n / 10)).length := by simp [ByteArray.size]
      rw [if_neg (by omega), e1, ih (n / 10) (by omega) (by omega), e2]
      simp only [Option.bind_some]
      rw [dec_byte (n % 10) (by omega), if_pos (by rw [hsz]; show _ + 1 ≤ _; omega), hcat]
theorem r_Dec (n : Int) (w : World) (h0 : 0 ≤ n) (h1 : n ≤ 2147483647) : Calls Tryd.prog 31 #[.int .i64 n] w (Gives (.string ⟨(Lib.decDigits n.toNat).toArray⟩) w) := by
  obtain ⟨m, rfl⟩ : ∃ m : Nat, (m : Int) = n := ⟨n.toNat, by omega⟩
  rw [Int.toNat_natCast]
  exact PDec.spinetref06_Dec.calls (m + 1) m _ w (dec_f (m + 1) m (by omega) (by omega))
theorem good_n {k n a : Int} {tx : List UInt8} (h3 : k ≠ 3) (h4 : k ≠ 4) (hn : n ≠ 0) : ¬ GoodT ⟨k, tx, n, a⟩ := by
  rintro (h | h | h | h | h | h)
  · exact hn h.2.1
  · exact hn h.2.1
  · exact h3 h.1
  · exact h4 h.1
  · exact hn h.2.1
  · exact hn h.2.1
theorem good_1 {n a : Int} {tx : List UInt8} : GoodT ⟨1, tx, n, a⟩ ↔ n = 0 ∧ isWord tx ∧ tx ∉ keyList := by simp [GoodT]
theorem good_2 {n a : Int} {tx : List UInt8} : GoodT ⟨2, tx, n, a⟩ ↔ n = 0 ∧ tx ∈ keyList := by simp [GoodT]
theorem good_3 {n a : Int} {tx : List UInt8} : GoodT ⟨3, tx, n, a⟩ ↔ tx = [] ∧ -2147483648 ≤ n ∧ n < 2147483648 := by simp [GoodT]
theorem good_4 {n a : Int} {tx : List UInt8} : GoodT ⟨4, tx, n, a⟩ ↔ tx = [] ∧ 0 ≤ n ∧ n < 256 := by simp [GoodT]
theorem good_5 {n a : Int} {tx : List UInt8} : GoodT ⟨5, tx, n, a⟩ ↔ n = 0 ∧ isQuot tx := by simp [GoodT]
theorem good_6 {n a : Int} {tx : List UInt8} : GoodT ⟨6, tx, n, a⟩ ↔ n = 0 ∧ tx ∈ signList := by simp [GoodT]
theorem good_else {k n a : Int} {tx : List UInt8} (h1 : k ≠ 1) (h2 : k ≠ 2) (h3 : k ≠ 3) (h4 : k ≠ 4) (h5 : k ≠ 5) (h6 : k ≠ 6) : ¬ GoodT ⟨k, tx, n, a⟩ := by simp [GoodT, *]
theorem says_of {p q : Prop} {w w' : World} {b : Bool} {e : Ending} (hb : b = true ↔ q) (h : p ↔ q) (he : e = .returned (.bool b)) (hB : Below w.heap.size w w') : Says p w e w' := ⟨b, hb.trans h.symm, he, hB⟩
theorem alloc_below (w : World) (o : Obj) : Below w.heap.size w (w.alloc o) := (Below.refl _ _).alloc (Nat.le_refl _) _
set_option maxRecDepth 100000 in
set_option maxHeartbeats 4000000 in
theorem r_Good (t : Tok) (w : World) (ht : TokFit t) : Calls Tryd.prog 36 #[.agg #[.int .i64 t.kind, .string ⟨t.text.toArray⟩, .int .i64 t.n, .int .i64 t.at_]] w (Says (GoodT t) w) := by
  obtain ⟨k, tx, n, a⟩ := t
  obtain ⟨htx, hn0, hn1⟩ := ht
  simp only at htx hn0 hn1
  simp only
  obtain ⟨S, hS⟩ : ∃ S : ByteArray, (⟨tx.toArray⟩ : ByteArray) = S := ⟨_, rfl⟩
  have HSL : Hid (S.data.toList = tx) := by rw [← hS]; rfl
  have hSz : S.size ≤ 140737488351232 := by rw [← len_list, HSL.out]; omega
  rw [hS]
  clear hS htx
  by_cases k3 : k = 3
  · subst k3
    by_cases he : tx = []
    · have he1 : S.toList = [] := by rw [ByteArray.toList_eq, HSL.out]; exact he
      have he2 : S.toList.isEmpty = true := by rw [he1]; rfl
      have HE := Lib.hid he
      have HE1 := Lib.hid he1
      clear he he1
      by_cases h1 : -2147483648 ≤ n
      · by_cases h2 : n < 2147483648
        · go_enter Tryd.func36, Tryd.ntmps36
          go_wp2_with fail
          go_ret
          exact says_true (good_3.2 ⟨HE.out, h1, h2⟩) (alloc_below _ _)
        · go_enter Tryd.func36, Tryd.ntmps36
          go_wp2_with fail
          go_ret
          exact says_false (fun h => by have := (good_3.1 h).2.2; omega) (alloc_below _ _)
      · go_enter Tryd.func36, Tryd.ntmps36
        go_wp2_with fail
        go_ret
        exact says_false (fun h => by have := (good_3.1 h).2.1; omega) (alloc_below _ _)
    · have he1 : ¬ S.toList = [] := by rw [ByteArray.toList_eq, HSL.out]; exact he
      have he2 : S.toList.isEmpty = false := by cases h : S.toList.isEmpty with | false => rfl | true => exact absurd (by simpa using h) he1
      have HE := Lib.hid he
      clear he he1
      go_enter Tryd.func36, Tryd.ntmps36
      go_wp2_with fail
      go_ret
      exact says_false (fun h => HE.out (good_3.1 h).1) (alloc_below _ _)
  · by_cases k4 : k = 4
    · subst k4
      clear k3
      by_cases he : tx = []
      · have he1 : S.toList = [] := by rw [ByteArray.toList_eq, HSL.out]; exact he
        have he2 : S.toList.isEmpty = true := by rw [he1]; rfl
        have HE := Lib.hid he
        have HE1 := Lib.hid he1
        clear he he1
        by_cases h1 : 0 ≤ n
        · by_cases h2 : n < 256
          · go_enter Tryd.func36, Tryd.ntmps36
            go_wp2_with fail
            go_ret
            exact says_true (good_4.2 ⟨HE.out, h1, h2⟩) (alloc_below _ _)
          · go_enter Tryd.func36, Tryd.ntmps36
            go_wp2_with fail
            go_ret
            exact says_false (fun h => by have := (good_4.1 h).2.2; omega) (alloc_below _ _)
        · go_enter Tryd.func36, Tryd.ntmps36
          go_wp2_with fail
          go_ret
          exact says_false (fun h => by have := (good_4.1 h).2.1; omega) (alloc_below _ _)
      · have he1 : ¬ S.toList = [] := by rw [ByteArray.toList_eq, HSL.out]; exact he
        have he2 : S.toList.isEmpty = false := by cases h : S.toList.isEmpty with | false => rfl | true => exact absurd (by simpa using h) he1
        have HE := Lib.hid he
        clear he he1
        go_enter Tryd.func36, Tryd.ntmps36
        go_wp2_with fail
        go_ret
        exact says_false (fun h => HE.out (good_4.1 h).1) (alloc_below _ _)
    · have b3 : (k != 3) = true := by rw [bne_iff_ne]; exact k3
      have b4 : (k != 4) = true := by rw [bne_iff_ne]; exact k4
      have c3 : (k == 3) = false := by rw [beq_eq_false_iff_ne]; exact k3
      have c4 : (k == 4) = false := by rw [beq_eq_false_iff_ne]; exact k4
      by_cases hz : n = 0
      · subst hz
        have K3 := Lib.hid k3
        have K4 := Lib.hid k4
        clear k3 k4
        by_cases k1 : k = 1
        · subst k1
          clear b3 b4 c3 c4 K3 K4
          go_enter Tryd.func36, Tryd.ntmps36
          go_wp2_with fail
          refine (r_Name S _ hSz).mono ?_
          rintro e w1 ⟨r, hr, rfl, hB⟩
          have HR := Lib.hid hr
          clear hr
          go_wp2_with fail
          go_ret
          exact ⟨r, by rw [HR.out, HSL.out, good_1]; simp, rfl, bthen (alloc_below _ _) hB⟩
        · by_cases k2 : k = 2
          · subst k2
            clear b3 b4 c3 c4 K3 K4 k1
            go_enter Tryd.func36, Tryd.ntmps36
            go_wp2_with fail
            refine (r_Key S _).mono ?_
            rintro e w1 ⟨rfl, hB⟩
            obtain ⟨r, hr⟩ : ∃ r, decide (S.data.toList ∈ keyList) = r := ⟨_, rfl⟩
            rw [hr]
            have HR := Lib.hid hr
            clear hr
            go_wp2_with fail
            go_ret
            exact ⟨r, by rw [← HR.out, HSL.out, good_2]; simp, rfl, bthen (alloc_below _ _) hB⟩
          · have c1 : (k == 1) = false := by rw [beq_eq_false_iff_ne]; exact k1
            have c2 : (k == 2) = false := by rw [beq_eq_false_iff_ne]; exact k2
            by_cases k5 : k = 5
            · subst k5
              clear b3 b4 c3 c4 K3 K4 k1 k2 c1 c2
              go_enter Tryd.func36, Tryd.ntmps36
              go_wp2_with fail
              refine (r_String S _ hSz).mono ?_
              rintro e w1 ⟨r, hr, rfl, hB⟩
              have HR := Lib.hid hr
              clear hr
              go_wp2_with fail
              go_ret
              exact ⟨r, by rw [HR.out, HSL.out, good_5]; simp, rfl, bthen (alloc_below _ _) hB⟩
            · by_cases k6 : k = 6
              · subst k6
                clear b3 b4 c3 c4 K3 K4 k1 k2 c1 c2 k5
                go_enter Tryd.func36, Tryd.ntmps36
                go_wp2_with fail
                refine (r_Sign S _).mono ?_
                rintro e w1 ⟨rfl, hB⟩
                obtain ⟨r, hr⟩ : ∃ r, decide (S.data.toList ∈ signList) = r := ⟨_, rfl⟩
                rw [hr]
                have HR := Lib.hid hr
                clear hr
                go_wp2_with fail
                go_ret
                exact ⟨r, by rw [← HR.out, HSL.out, good_6]; simp, rfl, bthen (alloc_below _ _) hB⟩
              · have c5 : (k == 5) = false := by rw [beq_eq_false_iff_ne]; exact k5
                have c6 : (k == 6) = false := by rw [beq_eq_false_iff_ne]; exact k6
                have HN : Hid (¬ GoodT ⟨k, tx, 0, a⟩) := good_else k1 k2 K3.out K4.out k5 k6
                clear k1 k2 k5 k6
                go_enter Tryd.func36, Tryd.ntmps36
                go_wp2_with fail
                go_ret
                exact says_false HN.out (alloc_below _ _)
      · have bz : (n != 0) = true := by rw [bne_iff_ne]; exact hz
        have HN : Hid (¬ GoodT ⟨k, tx, n, a⟩) := good_n k3 k4 hz
        clear k3 k4 hz
        go_enter Tryd.func36, Tryd.ntmps36
        go_wp2_with fail
        go_ret
        exact says_false HN.out (alloc_below _ _)
end Go.Proofs.YtkieeaajhomdoaaDoor
