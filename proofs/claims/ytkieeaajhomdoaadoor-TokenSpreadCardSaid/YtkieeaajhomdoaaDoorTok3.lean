import Derived.Test.YtkieeaajhomdoaaDoorTok2
set_option linter.unusedVariables false
set_option linter.unusedSimpArgs false
namespace Go.Proofs.YtkieeaajhomdoaaDoor
open Go.RowKit Go.Maps Go.MapKept
theorem keysD_map (l : List (List UInt8)) : IsMap (keysD l) := by
  suffices h : ∀ (l : List (List UInt8)) (D : DataW Unit), IsMap D → IsMap (l.foldl (fun D k => D.put (.string k) (.lit (.int .i64 1))) D) from h l _ ⟨[], rfl⟩
  intro l
  induction l with
  | nil => intro D h; exact h
  | cons k l ih =>
    intro D h
    obtain ⟨es, rfl⟩ := h
    exact ih _ ⟨_, rfl⟩
theorem keysD_at (k : List UInt8) : ∀ l : List (List UInt8), (keysD l).atKey (.string k) (.lit (.int .i64 0)) = .lit (.int .i64 (if k ∈ l then 1 else 0)) := by
  suffices h : ∀ l : List (List UInt8), (keysD l.reverse).atKey (.string k) (.lit (.int .i64 0)) = .lit (.int .i64 (if k ∈ l.reverse then 1 else 0)) from
    fun l => by have := h l.reverse; rwa [List.reverse_reverse] at this
  intro l
  induction l with
  | nil => rfl
  | cons x l ih =>
    rw [List.reverse_cons, keysD_snoc]
    by_cases e : k = x
    · subst e
      rw [atKey_put_same (keysD_map _) (by trivial)]
      simp
    · rw [atKey_put_other (by intro h; exact e (by injection h))]
      rw [ih]
      simp [e]
def AtWord (r : Except Int Tok) (w : World) (e : Ending) (w' : World) : Prop := Below w.heap.size w w' ∧
  match r with
  | .ok t => e = .returned (.tuple #[.agg #[.int .i64 t.kind, .string ⟨t.text.toArray⟩, .int .i64 t.n, .int .i64 t.at_], .int .i64 0])
  | .error c => e = .returned (.tuple #[.agg #[.int .i64 0, .string ⟨#[]⟩, .int .i64 0, .int .i64 0], .int .i64 c])
theorem mk_list (s : ByteArray) : (⟨s.data.toList.toArray⟩ : ByteArray) = s := rfl
set_option maxRecDepth 100000 in
set_option maxHeartbeats 800000 in
theorem word_any (x : Value) (s : ByteArray) (w : World) (hx : IsLexer w x) (hs : s.size ≤ 140737488351232) (r : Except Int Tok) (hres : wordTok s.data.toList = r) :
    Calls Tryd.prog 42 #[x, .string s] w (AtWord r w) := by
  obtain ⟨a, b1, b2, b3, b4, m, rfl, ha, h1, h2, h3, h4, hown⟩ := hx
  have hm : w.cell? ⟨a, 4, none⟩ = some (.map (some m)) := by rw [cell_of_block ha]; rfl
  have hal : a < w.heap.size := block_lt ha
  have hown1 : Aside ((w.alloc (.cells #[.int .i64 0, .string ⟨#[]⟩, .int .i64 0, .int .i64 0] 34)).ownsMap (H := Unit) Tryd.prog 9 (plainElem Tryd.prog 3) m 33 (keysD keyList)) := ⟨hown.alloc _⟩
  have hkey : Aside (keyOf Tryd.prog 9 (.string s) = some (.string s.data.toList)) := ⟨WideMaps.keyOf_string_mk Tryd.underlying9 (by unfold maxLen; omega)⟩
  have HRES := Lib.hid hres
  have hz : ∀ w, (zeroValue 3).run Tryd.prog w = .ok (.int .i64 0) w := fun w => by kernel_rfl
  have HZ := Lib.hid hz
  clear ha h1 h2 h3 h4 hown hres hz
  by_cases hin : s.data.toList ∈ keyList
  · have hat := Lib.hid (keysD_at s.data.toList keyList)
    have HIN := Lib.hid hin
    clear hin
    go_enter Tryd.func42, Tryd.ntmps42
    go_wp2_with (at_lookup; refine wpList_lookup_own_int _ rfl _ _ 72 rfl 9 3 .i64 law_string Tryd.underlying72 Tryd.underlying3 (HZ.out _) m 33 _ rfl hown1.out _ _ rfl hkey.out ?_; intro c hc hcw; (obtain rfl : c = 1 := by (rw [hat.out, if_pos HIN.out] at hc; injection hc with hc; injection hc with hc hc2; exact hc2.symm)); clear hc hcw)
    refine bodyPost_ret (v := .tuple #[.agg #[.int .i64 2, .string s, .int .i64 0, .int .i64 0], .int .i64 0]) (by simp [results, Tryd.results42, go_sem]) rfl ⟨(Below.refl _ _).alloc (Nat.le_refl _) _, ?_⟩
    rw [← HRES.out, wordTok, if_pos HIN.out]
  · have hat := Lib.hid (keysD_at s.data.toList keyList)
    have HIN := Lib.hid hin
    clear hin
    by_cases h24 : (24 : Int) < s.size
    · go_enter Tryd.func42, Tryd.ntmps42
      go_wp2_with (at_lookup; refine wpList_lookup_own_int _ rfl _ _ 72 rfl 9 3 .i64 law_string Tryd.underlying72 Tryd.underlying3 (HZ.out _) m 33 _ rfl hown1.out _ _ rfl hkey.out ?_; intro c hc hcw; (obtain rfl : c = 0 := by (rw [hat.out, if_neg HIN.out] at hc; injection hc with hc; injection hc with hc hc2; exact hc2.symm)); clear hc hcw)
      refine bodyPost_ret (v := .tuple #[.agg #[.int .i64 0, .string ⟨#[]⟩, .int .i64 0, .int .i64 0], .int .i64 2]) (by simp [results, Tryd.results42, go_sem]) rfl ⟨(Below.refl _ _).alloc (Nat.le_refl _) _, ?_⟩
      rw [← HRES.out, wordTok, if_neg HIN.out, if_pos (by rw [len_list]; omega)]
    · go_enter Tryd.func42, Tryd.ntmps42
      go_wp2_with (at_lookup; refine wpList_lookup_own_int _ rfl _ _ 72 rfl 9 3 .i64 law_string Tryd.underlying72 Tryd.underlying3 (HZ.out _) m 33 _ rfl hown1.out _ _ rfl hkey.out ?_; intro c hc hcw; (obtain rfl : c = 0 := by (rw [hat.out, if_neg HIN.out] at hc; injection hc with hc; injection hc with hc hc2; exact hc2.symm)); clear hc hcw)
      refine bodyPost_ret (v := .tuple #[.agg #[.int .i64 1, .string s, .int .i64 0, .int .i64 0], .int .i64 0]) (by simp [results, Tryd.results42, go_sem]) rfl ⟨(Below.refl _ _).alloc (Nat.le_refl _) _, ?_⟩
      rw [← HRES.out, wordTok, if_neg HIN.out, if_neg (by rw [len_list]; omega)]
theorem ranged_any (b : Bool) (w : World) : Calls Tryd.prog 72 #[.bool b] w fun e w' => e = .returned (.int .i64 (if b then 0 else 91)) ∧ w' = w := by
  cases b
  · go_enter Tryd.func72, Tryd.ntmps72
    go_wp2
    go_ret
    exact ⟨rfl, rfl⟩
  · go_enter Tryd.func72, Tryd.ntmps72
    go_wp2
    go_ret
    exact ⟨rfl, rfl⟩
theorem signs_any (w : World) (htab : Lib.TabIs Tryd.prog w "strings.asciiSpace" .u8 Lib.asciiSpaceTab) : Calls Tryd.prog 45 #[] w (AtFields signList 26 w) := by
  have HT := Lib.hid htab
  clear htab
  go_enter Tryd.func45, Tryd.ntmps45
  go_wp2_with fail
  refine (fields_any signText signList fields_signText 26 rfl (by decide) signText_ascii _ HT.out).mono ?_
  rintro e w' ⟨rfl, rfl⟩
  go_wp2_with fail
  go_ret
  exact ⟨rfl, rfl⟩
end Go.Proofs.YtkieeaajhomdoaaDoor
