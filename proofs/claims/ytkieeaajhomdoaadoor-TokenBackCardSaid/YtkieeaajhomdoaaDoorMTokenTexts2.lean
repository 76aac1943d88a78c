/- Parts of the proof of TokenTexts: Text6, Texts, SpreadP, BackP, Back, FrameT. -/
import Derived.Test.YtkieeaajhomdoaaDoorMTokenTexts1
import Derived.Laws.AppendOwnNone
import Derived.Deep.Slices
import Derived.SizedLaws
import Derived.Carry
import Derived.Lay
import Derived.LaidLaws
set_option linter.unusedVariables false
set_option linter.unusedSimpArgs false
namespace Go.Proofs.YtkieeaajhomdoaaDoor
open Go.RowKit Go.Maps Go.MapKept
theorem gives_str {s t : ByteArray} {w w' : World} (h : s = t) (hB : Below w.heap.size w w') : Gives (.string t) w (.returned (.string s)) w' := ⟨by rw [h], hB⟩
theorem mk_str {s : ByteArray} {l : List UInt8} (h : s.data.toList = l) : s = ⟨l.toArray⟩ := by rw [← h]
set_option maxRecDepth 100000 in
set_option maxHeartbeats 4000000 in
theorem r_One (t : Tok) (w : World) (ht : TokFit t) (hg : GoodT t) : Calls Tryd.prog 37 #[.agg #[.int .i64 t.kind, .string ⟨t.text.toArray⟩, .int .i64 t.n, .int .i64 t.at_]] w (Gives (.string ⟨(spell t).toArray⟩) w) := by
  obtain ⟨k, tx, n, a⟩ := t
  obtain ⟨htx, hn0, hn1⟩ := ht
  simp only at htx hn0 hn1
  simp only
  obtain ⟨S, hS⟩ : ∃ S : ByteArray, (⟨tx.toArray⟩ : ByteArray) = S := ⟨_, rfl⟩
  have HSL : Hid (S.data.toList = tx) := by rw [← hS]; rfl
  have hSz : (S.size : Int) ≤ 1000 := by rw [← len_list, HSL.out]; omega
  rw [hS]
  have HS := Lib.hid hS
  clear hS htx
  by_cases k3 : k = 3
  · subst k3
    have hb := (good_3.1 hg).2
    obtain ⟨hb0, hb1⟩ := hb
    clear hg
    by_cases hneg : n < 0
    · have he : n + 4294967296 = ((u32 n : Nat) : Int) := by unfold u32; omega
      have hu := u32_lt n
      obtain ⟨Z, hZ⟩ : ∃ Z : ByteArray, (⟨(hexedL (u32 n) true).toArray⟩ : ByteArray) = Z := ⟨_, rfl⟩
      have hZl : Z.data.toList = hexedL (u32 n) true := by rw [← hZ]
      have hZz : (Z.size : Int) ≤ 9 := by
        have := hexedL_len (u32 n) true hu
        rw [← len_list, hZl]; omega
      have hfin : Z ++ ⟨#[72]⟩ = ⟨(spell ⟨3, tx, n, a⟩).toArray⟩ := mk_str (by
        rw [show spell ⟨3, tx, n, a⟩ = hexedL (u32 n) true ++ [72] by simp [spell, hneg], ← hZl]
        simp [ByteArray.data_append])
      have hn1 : ¬ (9223372036854775807 < Z.size + 1) := by omega
      have HE := Lib.hid he
      have HZ := Lib.hid hZ
      have HF := Lib.hid hfin
      clear he hZ hZl hfin
      go_enter Tryd.func37, Tryd.ntmps37
      go_wp2_with fail
      rw [HE.out]
      refine (r_hex (u32 n) true _ hu).mono ?_
      rintro e w1 ⟨rfl, rfl⟩
      rw [HZ.out]
      go_wp2_with fail
      go_ret
      exact gives_str HF.out (alloc_below _ _)
    · have hfin : (⟨(Lib.decDigits n.toNat).toArray⟩ : ByteArray) = ⟨(spell ⟨3, tx, n, a⟩).toArray⟩ := by
        rw [show spell ⟨3, tx, n, a⟩ = Lib.decDigits n.toNat by simp [spell, hneg, Lib.itoa]]
      have HF := Lib.hid hfin
      clear hfin
      go_enter Tryd.func37, Tryd.ntmps37
      go_wp2_with fail
      refine (r_Dec n _ (by omega) (by omega)).mono ?_
      rintro e w1 ⟨rfl, hB⟩
      rw [HF.out]
      go_wp2_with fail
      go_ret
      exact ⟨rfl, bthen (alloc_below _ _) hB⟩
  · by_cases k4 : k = 4
    · subst k4
      obtain ⟨hb0, hb1⟩ := (good_4.1 hg).2
      clear hg k3
      obtain ⟨m, hm⟩ : ∃ m : Nat, (m : Int) = n := ⟨n.toNat, by omega⟩
      have hmu : u32 n = m := by unfold u32; omega
      have hu : (m : Int) ≤ 255 := by omega
      obtain ⟨Z, hZ⟩ : ∃ Z : ByteArray, (⟨(hexedL m false).toArray⟩ : ByteArray) = Z := ⟨_, rfl⟩
      have hZl : Z.data.toList = hexedL m false := by rw [← hZ]
      have hZz : (Z.size : Int) ≤ 9 := by
        have := hexedL_len m false (by omega)
        rw [← len_list, hZl]; omega
      have hfin : Z ++ ⟨#[88]⟩ = ⟨(spell ⟨4, tx, n, a⟩).toArray⟩ := mk_str (by
        rw [show spell ⟨4, tx, n, a⟩ = hexedL (u32 n) false ++ [88] by simp [spell], hmu, ← hZl]
        simp [ByteArray.data_append])
      have hn1 : ¬ (9223372036854775807 < Z.size + 1) := by omega
      have HM := Lib.hid hm
      have HZ := Lib.hid hZ
      have HF := Lib.hid hfin
      clear hm hmu hZ hZl hfin
      go_enter Tryd.func37, Tryd.ntmps37
      go_wp2_with fail
      rw [← HM.out]
      refine (r_hex m false _ (by omega)).mono ?_
      rintro e w1 ⟨rfl, rfl⟩
      rw [HZ.out, HM.out]
      go_wp2_with fail
      go_ret
      exact gives_str HF.out (alloc_below _ _)
    · have c3 : (k == 3) = false := by rw [beq_eq_false_iff_ne]; exact k3
      have c4 : (k == 4) = false := by rw [beq_eq_false_iff_ne]; exact k4
      by_cases k5 : k = 5
      · subst k5
        clear c3 c4 k3 k4 hg
        have hfin : (⟨#[34]⟩ : ByteArray) ++ S ++ ⟨#[34]⟩ = ⟨(spell ⟨5, tx, n, a⟩).toArray⟩ := mk_str (by
          rw [show spell ⟨5, tx, n, a⟩ = 34 :: (tx ++ [34]) by simp [spell], ← HSL.out]
          simp [ByteArray.data_append])
        have hn1 : ¬ (9223372036854775807 < 1 + S.size) := by omega
        have hn2 : ¬ (9223372036854775807 < 1 + S.size + 1) := by omega
        have HF := Lib.hid hfin
        clear hfin
        go_enter Tryd.func37, Tryd.ntmps37
        go_wp2_with fail
        go_ret
        exact gives_str HF.out (alloc_below _ _)
      · have c5 : (k == 5) = false := by rw [beq_eq_false_iff_ne]; exact k5
        have hfin : S = ⟨(spell ⟨k, tx, n, a⟩).toArray⟩ := mk_str (by
          rw [show spell ⟨k, tx, n, a⟩ = tx by simp [spell, k3, k4, k5], HSL.out])
        have HF := Lib.hid hfin
        clear hfin k3 k4 k5 hg
        go_enter Tryd.func37, Tryd.ntmps37
        go_wp2_with fail
        go_ret
        exact gives_str HF.out (alloc_below _ _)
def byteCells (l : List UInt8) : List Value := l.map fun b => .int .u8 b.toNat
theorem byteCells_app (a b : List UInt8) : byteCells (a ++ b) = byteCells a ++ byteCells b := List.map_append
theorem byteCells_str (s : ByteArray) : Lib.strCells s = byteCells s.data.toList := rfl
theorem str_nums : ∀ l : List UInt8, (l.map fun b => (b.toNat : Int)).map (fun n => UInt8.ofNat n.toNat) = l
  | [] => rfl
  | c :: l => by rw [List.map_cons, List.map_cons, str_nums l]; simp
theorem str_of_nums (l : List UInt8) : strOfNums (l.map fun b => (b.toNat : Int)) = ⟨l.toArray⟩ := by unfold strOfNums; rw [str_nums]
theorem info_u8x : (Tryd.prog.info? 5).map (fun i => (i.zero, i.size, i.bytes)) = some (some (.int .u8 0), 1, 1) := by kernel_rfl
theorem own_bytes_string {P : Program} {w : World} {base n : Nat} {e' src dst e : TypeId} {v : Value} {l : List UInt8} (hs : P.underlying src = some (.slice e)) (he : P.underlying e = some (.int .u8)) (hd : P.underlying dst = some .string)
    (h : w.ownsRow base e' 1 v n (byteCells l)) : (convert src dst v).run P w = .ok (.string ⟨l.toArray⟩) w := by
  have e1 : byteCells l = Go.Proofs.YtkieeaajhomdoaaDoorW.PrintWords.nums .u8 (l.map fun b => (b.toNat : Int)) := by
    simp [byteCells, Go.Proofs.YtkieeaajhomdoaaDoorW.PrintWords.nums]
  rw [e1] at h
  rw [← str_of_nums]
  exact Go.Proofs.YtkieeaajhomdoaaDoorW.PrintWords.own_string hs he hd h
theorem joinTail_snoc (s : List UInt8) (x : List UInt8) : ∀ r : List (List UInt8), Lib.joinTail s (r ++ [x]) = Lib.joinTail s r ++ (s ++ x)
  | [] => by simp [Lib.joinTail]
  | y :: r => by
    show (s ++ y) ++ Lib.joinTail s (r ++ [x]) = _
    rw [joinTail_snoc s x r, ← List.append_assoc]
    rfl
theorem joined_one (t : Tok) : joined [t] = spell t := by rw [joined, List.map_cons, List.map_nil, Lib.join_cons]; simp [Lib.joinTail]
theorem joined_snoc (l : List Tok) (t : Tok) (h : l ≠ []) : joined (l ++ [t]) = joined l ++ [32] ++ spell t := by
  match l, h with
  | u :: l, _ =>
    rw [List.cons_append, joined, joined, List.map_cons, List.map_cons, Lib.join_cons, Lib.join_cons, List.map_append, List.map_cons, List.map_nil, joinTail_snoc]
    simp
theorem joined_next (l : List Tok) (k : Nat) (t : Tok) (h : l[k]? = some t) (hk : 0 < k) : joined (l.take (k + 1)) = joined (l.take k) ++ [32] ++ spell t := by
  have hlt : k < l.length := by
    rcases Nat.lt_or_ge k l.length with h' | h'
    · exact h'
    · rw [List.getElem?_eq_none h'] at h; cases h
  have e : l.take (k + 1) = l.take k ++ [t] := by rw [List.take_add_one, h]; rfl
  rw [e, joined_snoc]
  intro hn
  have := congrArg List.length hn
  rw [List.length_take_of_le (by omega)] at this
  simp at this; omega
theorem joined_first (l : List Tok) (t : Tok) (h : l[0]? = some t) : joined (l.take 1) = spell t := by
  match l, h with
  | u :: l, h =>
    simp only [List.getElem?_cons_zero, Option.some.injEq] at h
    subst h
    exact joined_one u
theorem pre_len (l : List Tok) (k : Nat) (h : ∀ t ∈ l, GoodT t) (hf : ∀ t ∈ l, TokFit t) : (joined (l.take k)).length ≤ 67 * k := by
  have := joined_len (l.take k) (fun t ht => spell_len ((spelt_iff t (hf t (List.mem_of_mem_take ht)).2.1 (hf t (List.mem_of_mem_take ht)).2.2).2 (h t (List.mem_of_mem_take ht))))
  have h2 : (l.take k).length ≤ k := List.length_take_le _ _
  omega
set_option maxRecDepth 100000 in
set_option maxHeartbeats 4000000 in
theorem r_Text (v : Value) (l : List Tok) (w : World) (hr : ReadsToks w v l) (hl : ∀ t ∈ l, TokFit t) : Calls Tryd.prog 19 #[v] w (AtText l w) := by
  have HL := Lib.hid hl
  obtain ⟨A, C, rfl, hll, hrd⟩ := hr
  have HRD := Lib.hid hrd
  clear hl hrd
  obtain ⟨i0, hi, hz0, hz1, hz2⟩ := info_parts info_u8x
  have HI := Lib.hid hi
  have HZ0 := Lib.hid hz0
  have HZ1 := Lib.hid hz1
  have HZ2 := Lib.hid hz2
  clear hi hz0 hz1 hz2
  by_cases hmany : (6000 : Int) < l.length
  · go_enter Tryd.func19, Tryd.ntmps19
    go_wp2_with fail
    go_ret2
    exact ⟨Below.refl _ _, .inr ⟨3, .inl ⟨by omega, rfl⟩, by omega, rfl⟩⟩
  · have hm : (l.length : Int) ≤ 6000 := by omega
    clear hmany hll
    go_enter Tryd.func19, Tryd.ntmps19
    go_wp2_with fail
    go_loopw [4] (fun i wr => ∃ k : Nat, k ≤ l.length ∧ i = .int .i64 k ∧ Hid (∀ t ∈ l.take k, GoodT t) ∧ Below w.heap.size w wr) (fun i _ => l.length - (intOf i).toNat)
    case atStart => exact ⟨0, by omega, rfl, fun t h => by simp at h, Below.refl _ _⟩
    case round =>
      obtain ⟨k, hk, rfl, HS, hB⟩ := hrel
      by_cases hlt : k < l.length
      · have hki : (k : Int) < l.length := by omega
        obtain ⟨b, o, rfl, hcc⟩ := HRD.out (by omega)
        obtain ⟨c0, c1, c2, c3⟩ := hcc k hlt
        have hfit := HL.out l[k] (List.getElem_mem hlt)
        obtain ⟨t, ht⟩ : ∃ t, l[k] = t := ⟨_, rfl⟩
        rw [ht] at c0 c1 c2 c3 hfit
        have c0 := cell_keep hB c0
        have c1 := cell_keep hB c1
        have c2 := cell_keep hB c2
        have c3 := cell_keep hB c3
        have HT := Lib.hid ht
        have HFIT := Lib.hid hfit
        clear ht hcc hfit
        go_wp2_with fail
        refine (r_Good t _ HFIT.out).mono ?_
        rintro e w2 ⟨r, hr, rfl, B2⟩
        cases r with
        | true =>
          have HY := Lib.hid (hr.1 rfl)
          clear hr
          go_wp2_with fail
          go_roundw
          case rel =>
            have e : l.take (k + 1) = l.take k ++ [t] := by
              rw [List.take_add_one, List.getElem?_eq_getElem hlt, HT.out]; rfl
            refine ⟨k + 1, by omega, by go_num, ?_, bthen hB B2⟩
            intro u hu
            rw [e] at hu
            rcases List.mem_append.1 hu with hu | hu
            · exact HS.out u hu
            · simp only [List.mem_cons, List.not_mem_nil, or_false] at hu
              subst hu
              exact HY.out
          case measure => simp [intOf]; omega
        | false =>
          have HN : Hid (¬ GoodT t) := fun h => by have := hr.2 h; cases this
          clear hr
          go_wp2_with fail
          go_ret2
          refine ⟨bthen hB B2, .inr ⟨1, .inr (.inl ⟨by omega, ⟨t, by rw [← HT.out]; exact List.getElem_mem hlt, HN.out⟩, rfl⟩), by omega, rfl⟩⟩
      · have hkl : k = l.length := by omega
        subst hkl
        have hgood : Hid (∀ t ∈ l, GoodT t) := fun t ht => HS.out t (by rw [List.take_length]; exact ht)
        clear HS
        go_wp2_with fail
        go_loopw [5, 6] (fun o i w4 => ∃ (k n : Nat) (A' : Option Addr) (C' : Nat), o = .slice A' n C' ∧ k ≤ l.length ∧ i = .int .i64 k ∧ Hid (n = (joined (l.take k)).length) ∧ Aside (w4.ownsRow w.heap.size 5 1 (.slice A' n C') n (byteCells (joined (l.take k)))) ∧ Below w.heap.size w w4) (fun _ i _ => l.length - (intOf i).toNat)
        case atStart => exact ⟨0, 0, none, 0, rfl, by omega, rfl, rfl, ⟨by simp [byteCells, joined]; rfl, .inl ⟨rfl, rfl⟩⟩, hB⟩
        case round =>
          obtain ⟨k, n, A', C', rfl, hk, rfl, HN, hown, hB4⟩ := hrel
          have hpl := pre_len l k hgood.out HL.out
          rw [← HN.out] at hpl
          have hpn : (n : Int) ≤ 402000 := by omega
          clear hpl
          by_cases hlt : k < l.length
          · have hki : (k : Int) < l.length := by omega
            obtain ⟨b, o, rfl, hcc⟩ := HRD.out (by omega)
            obtain ⟨c0, c1, c2, c3⟩ := hcc k hlt
            have hfit := HL.out l[k] (List.getElem_mem hlt)
            have hgd := hgood.out l[k] (List.getElem_mem hlt)
            have hat : l[k]? = some l[k] := List.getElem?_eq_getElem hlt
            obtain ⟨t, ht⟩ : ∃ t, l[k] = t := ⟨_, rfl⟩
            rw [ht] at c0 c1 c2 c3 hfit hgd hat
            have hsl := spell_len ((spelt_iff t hfit.2.1 hfit.2.2).2 hgd)
            obtain ⟨S, hS⟩ : ∃ S : ByteArray, (⟨(spell t).toArray⟩ : ByteArray) = S := ⟨_, rfl⟩
            have hSl : S.data.toList = spell t := by rw [← hS]
            have hSz : (S.size : Int) ≤ 66 := by rw [← len_list, hSl]; omega
            have HSL := Lib.hid hSl
            have HAT := Lib.hid hat
            have HFIT := Lib.hid hfit
            have HGD := Lib.hid hgd
            have HSS := Lib.hid hS
            have q0 := cell_keep hB4 c0
            have q1 := cell_keep hB4 c1
            have q2 := cell_keep hB4 c2
            have q3 := cell_keep hB4 c3
            clear ht hcc hfit hgd hat hsl hS hSl
            by_cases hk0 : 0 < k
            · have hk0i : (0 : Int) < k := by omega
              go_wp2_with (at_builtin; refine wpList_append_own _ rfl _ _ 31 rfl w.heap.size 5 i0 _ 1 1 Tryd.underlying31 HI.out HZ0.out HZ1.out HZ2.out rfl (by decide) _ n _ rfl (hown.out.alloc _) ⟨wr.heap.size, 0, none⟩ 1 1 [.int .u8 32] rfl rfl ?c1 ?c2 ?c3 ?c4 ?c5 ?_)
              case c1 => exact fun j u hu => new_cells rfl (by simpa using hu)
              case c2 => intro u hu; simp at hu; subst hu; rfl
              case c3 => unfold maxLen; omega
              case c4 => omega
              case c5 => have := hB4.size; simp; omega
              intro v3 w3 hown3 hgrow hiff
              have hbel3 : Below w.heap.size w w3 := by
                refine Below.grown ?_ hgrow ?_ (fun b hb => own_base hown.out b hb)
                · exact hB4.alloc hB4.size _
                · have := hB4.size; simp; omega
              obtain ⟨g3, C3, rfl⟩ : ∃ g C3, v3 = .slice (some ⟨g, 0, none⟩) (n + 1) C3 := by
                rcases hown3.2 with ⟨_, h⟩ | ⟨g, cap, cur, h, _⟩
                · omega
                · exact ⟨_, _, h⟩
              have hown4 : Aside (w3.ownsRow w.heap.size 5 1 (.slice (some ⟨g3, 0, none⟩) (n + 1) C3) (n + 1) (byteCells (joined (l.take k) ++ [32]))) := ⟨by rw [byteCells_app]; exact hown3⟩
              have q0 := cell_keep hbel3 c0
              have q1 := cell_keep hbel3 c1
              have q2 := cell_keep hbel3 c2
              have q3 := cell_keep hbel3 c3
              clear hown3 hgrow hiff hown
              go_wp2_with fail
              refine (r_One t _ HFIT.out HGD.out).mono ?_
              rintro e w5 ⟨rfl, B5⟩
              rw [HSS.out]
              have hB5 : Below w.heap.size w w5 := bthen hbel3 B5
              have hown5 : Aside (w5.ownsRow w.heap.size 5 1 (.slice (some ⟨g3, 0, none⟩) (n + 1) C3) (n + 1) (byteCells (joined (l.take k) ++ [32]))) := ⟨own_below hown4.out B5⟩
              clear B5 hown4 q0 q1 q2 q3
              go_wp2_with (at_builtin; refine Lib.wpList_append_own_string _ rfl _ _ 31 9 rfl w.heap.size 5 i0 Tryd.underlying31 Tryd.underlying9 HI.out HZ0.out HZ1.out HZ2.out _ (n + 1) _ rfl hown5.out S rfl ?d1 ?d2 ?d3 ?_)
              case d1 => unfold maxLen; omega
              case d2 => omega
              case d3 => exact hB5.size
              intro v6 w6 hown6 hgrow6 hiff6
              have hbel6 : Below w.heap.size w w6 := Below.grown hB5 hgrow6 hB5.size (fun b hb => own_base hown5.out b hb)
              obtain ⟨A6, C6, rfl⟩ := Go.Proofs.YtkieeaajhomdoaaDoorW.PrintWords.own_slice hown6
              have hown7 : Aside (w6.ownsRow w.heap.size 5 1 (.slice A6 (n + 1 + S.size) C6) (n + 1 + S.size) (byteCells (joined (l.take (k + 1))))) := ⟨by
                rw [joined_next l k t HAT.out hk0, byteCells_app, ← HSL.out]
                exact hown6⟩
              clear hown6 hgrow6 hiff6 hown5
              go_wp2_with fail
              go_roundw
              case rel =>
                refine ⟨k + 1, n + 1 + S.size, A6, C6, rfl, by omega, by go_num, ?_, hown7, hbel6⟩
                show n + 1 + S.size = _
                rw [joined_next l k t HAT.out hk0, List.length_append, List.length_append, HN.out, ← HSL.out, len_list]
                rfl
              case measure => simp [intOf]; omega
            · have hk00 : k = 0 := by omega
              subst hk00
              have hn0 : n = 0 := by rw [HN.out]; rfl
              subst hn0
              simp only [Nat.zero_mul, Nat.add_zero] at q0 q1 q2 q3
              go_wp2_with fail
              refine (r_One t _ HFIT.out HGD.out).mono ?_
              rintro e w5 ⟨rfl, B5⟩
              rw [HSS.out]
              have hB5 : Below w.heap.size w w5 := bthen hB4 B5
              have hown5 : Aside (w5.ownsRow w.heap.size 5 1 (.slice A' 0 C') 0 (byteCells [])) := ⟨own_below hown.out B5⟩
              clear B5 hown q0 q1 q2 q3
              go_wp2_with (at_builtin; refine Lib.wpList_append_own_string _ rfl _ _ 31 9 rfl w.heap.size 5 i0 Tryd.underlying31 Tryd.underlying9 HI.out HZ0.out HZ1.out HZ2.out _ 0 _ rfl hown5.out S rfl ?e1 ?e2 ?e3 ?_)
              case e1 => unfold maxLen; omega
              case e2 => omega
              case e3 => exact hB5.size
              intro v6 w6 hown6 hgrow6 hiff6
              have hbel6 : Below w.heap.size w w6 := Below.grown hB5 hgrow6 hB5.size (fun b hb => own_base hown5.out b hb)
              obtain ⟨A6, C6, rfl⟩ := Go.Proofs.YtkieeaajhomdoaaDoorW.PrintWords.own_slice hown6
              have hown7 : Aside (w6.ownsRow w.heap.size 5 1 (.slice A6 S.size C6) S.size (byteCells (joined (l.take 1)))) := ⟨by
                rw [joined_first l t HAT.out, ← HSL.out]
                exact hown6⟩
              clear hown6 hgrow6 hiff6 hown5
              go_wp2_with fail
              go_roundw
              case rel =>
                refine ⟨1, S.size, A6, C6, rfl, by omega, by go_num, ?_, hown7, hbel6⟩
                show S.size = _
                rw [joined_first l t HAT.out, ← HSL.out, len_list]
              case measure => simp [intOf]; omega
          · have hkl : k = l.length := by omega
            subst hkl
            rw [List.take_length] at HN hown
            have hcv := own_bytes_string (src := 31) (dst := 9) (e := 5) Tryd.underlying31 Tryd.underlying5 Tryd.underlying9 hown.out
            by_cases hlong : (16384 : Int) < n
            · go_wp2_with fail
              go_ret2
              exact ⟨hB4, .inr ⟨2, .inr (.inr ⟨by omega, hgood.out, .inl ⟨by rw [← HN.out]; omega, rfl⟩⟩), by omega, rfl⟩⟩
            · go_wp2_with fail
              go_ret2
              exact ⟨hB4, .inl ⟨joined l, .inr (.inr ⟨by omega, hgood.out, .inr ⟨by rw [← HN.out]; omega, rfl⟩⟩), rfl⟩⟩
end Go.Proofs.YtkieeaajhomdoaaDoor
set_option linter.unusedVariables false
set_option linter.unusedSimpArgs false
namespace Go.Proofs.YtkieeaajhomdoaaDoor
open Go.RowKit Go.Maps Go.MapKept
/-- A list of tokens that came in. -/
def ArgToks (w : World) (v : Value) (l : List Tok) : Prop :=
  (v = .slice none 0 0 ∧ l = []) ∨ ∃ a c, v = .slice (some a) l.length c ∧ l.length ≤ 3518437208780 ∧ ∀ (i : Nat) (h : i < l.length) (j : Nat), j < 4 → w.cell? (a.add (i * 4 + j)) = (tokCells l[i])[j]?
theorem add_any (b o j : Nat) : (⟨b, o, none⟩ : Addr).add j = ⟨b, o + j, none⟩ := by
  unfold Addr.add
  by_cases h : j = 0
  · subst h; simp
  · rw [if_neg h]
theorem ArgToks.reads {w : World} {v : Value} {l : List Tok} (h : ArgToks w v l) : ReadsToks w v l := by
  rcases h with ⟨rfl, rfl⟩ | ⟨⟨b, o, sp⟩, c, rfl, hl, hc⟩
  · exact ⟨none, 0, rfl, by simp, fun h => by simp at h⟩
  · refine ⟨_, c, rfl, hl, fun h0 => ?_⟩
    have h00 := hc 0 h0 0 (by omega)
    have hsp : sp = none := by
      unfold World.cell? at h00
      rw [show (⟨b, o, sp⟩ : Addr).add (0 * 4 + 0) = ⟨b, o, sp⟩ from rfl] at h00
      split at h00
      · split at h00
        · simp [tokCells] at h00
        · rename_i hs
          simpa using hs
      · simp [tokCells] at h00
    subst hsp
    refine ⟨b, o, rfl, fun i hi => ?_⟩
    have e0 := hc i hi 0 (by omega)
    have e1 := hc i hi 1 (by omega)
    have e2 := hc i hi 2 (by omega)
    have e3 := hc i hi 3 (by omega)
    rw [add_any] at e0 e1 e2 e3
    exact ⟨e0, e1, e2, e3⟩
theorem ArgToks.news {w : World} {a : Addr} {l : List Tok} (hc : ∀ (i : Nat) (h : i < l.length) (j : Nat), j < 4 → w.cell? (a.add (i * 4 + j)) = (tokCells l[i])[j]?) : ∀ (j : Nat) (u : Value), (toksCells l)[j]? = some u → w.cell? (a.add j) = some u := by
  intro j u hu
  have hj : j < l.length * 4 := by
    rw [← toksCells_len]
    rcases Nat.lt_or_ge j (toksCells l).length with h | h
    · exact h
    · rw [List.getElem?_eq_none h] at hu; cases hu
  have e := toksCells_at l (j / 4) (by omega) (j % 4) (by omega)
  have e4 : j / 4 * 4 + j % 4 = j := by omega
  have h := hc (j / 4) (by omega) (j % 4) (by omega)
  rw [e4] at e h
  rw [h, ← e, hu]
theorem ArgToks.stays {w w' : World} {v : Value} {l : List Tok} (h : ArgToks w v l) (hb : Below w.heap.size w w') : ArgToks w' v l := by
  rcases h with h | ⟨a, c, rfl, hl, hc⟩
  · exact .inl h
  · refine .inr ⟨a, c, rfl, hl, fun i hi j hj => ?_⟩
    have h1 := hc i hi j hj
    have : ∃ u, (tokCells l[i])[j]? = some u := ⟨_, List.getElem?_eq_getElem (by simp [tokCells]; omega)⟩
    obtain ⟨u, hu⟩ := this
    rw [hu] at h1 ⊢
    exact cell_keep hb h1
theorem tok_ones : ∀ (l : List Tok), ∀ u ∈ toksCells l, u.oneCell' = true
  | [], u, h => by simp [toksCells] at h
  | x :: l, u, h => by
    rcases List.mem_append.1 (show u ∈ tokCells x ++ toksCells l from h) with h | h
    · simp [tokCells] at h
      rcases h with rfl | rfl | rfl | rfl <;> rfl
    · exact tok_ones l u h
theorem wpList_append_args {w : World} {ops : Array Oper} {rest : List Oper} {o : Oper} {a : Act} {Q : Exit → Act → World → Prop} (hgd : o.guard = none) (s x : Operand)
    (ho : o.op = .call { callee := .builtin .append, args := #[s, x], argTypes := #[23, 23] })
    (base : Nat) (v0 v : Value) (l : List Tok) (hs : a.eval s = v0) (hown : w.ownsRow base 34 4 v0 0 []) (hx : a.eval x = v) (hr : ArgToks w v l) (hl : l.length ≤ 7000) (hbase : base ≤ w.heap.size)
    (h : ∀ v' w', w'.ownsRow base 34 4 v' l.length (toksCells l) → w.grownBy w' v0.ownBlock → wpList Tryd.prog ops Q rest (a.put o.dst v') w') : wpList Tryd.prog ops Q (o :: rest) a w := by
  obtain ⟨i0, hi, hz0, hz1, hz2⟩ := info_parts info_tok
  rcases hr with ⟨rfl, rfl⟩ | ⟨ad, c, rfl, _, hc⟩
  · refine wpList_append_own_none hgd s x _ ho base 34 i0 4 Tryd.underlying23 hi v0 0 [] hs hown hx ?_
    exact h v0 w hown (World.grownBy.refl w _)
  · refine wpList_append_own _ hgd s x _ ho base 34 i0 _ 4 40 Tryd.underlying23 hi hz0 hz1 hz2 rfl (by decide) v0 0 [] hs hown ad l.length c (toksCells l) hx (toksCells_len l) (ArgToks.news hc) (tok_ones l) (by unfold maxLen; omega) (by omega) hbase ?_
    intro v' w' h1 h2 _
    rw [Nat.zero_add, List.nil_append] at h1
    exact h v' w' h1 h2
theorem new_row (w : World) : (w.alloc (.cells #[] 34)).ownsRow w.heap.size 34 4 (.slice (some ⟨w.heap.size, 0, none⟩) 0 0) 0 [] :=
  ⟨rfl, .inr ⟨w.heap.size, 0, #[], rfl, Nat.le_refl _, heap_alloc_new w _, Nat.le_refl _, by unfold maxLen; omega, rfl, rfl⟩⟩
def Large (l : List Tok) : Prop := 7000 < l.length ∨ ∃ t ∈ l, 200 < t.text.length
set_option maxRecDepth 100000 in
set_option maxHeartbeats 1600000 in
theorem large_any (v : Value) (l : List Tok) (w : World) (hr : ReadsToks w v l) : Calls Tryd.prog 17 #[v] w (Says (Large l) w) := by
  obtain ⟨A, C, rfl, hll, hrd⟩ := hr
  have HRD := Lib.hid hrd
  clear hrd
  by_cases hmany : (7000 : Int) < l.length
  · go_enter Tryd.func17, Tryd.ntmps17
    go_wp2_with fail
    go_ret
    exact says_true (.inl (by omega)) (Below.refl _ _)
  · have hm : (l.length : Int) ≤ 7000 := by omega
    clear hmany hll
    go_enter Tryd.func17, Tryd.ntmps17
    go_wp2_with fail
    go_loop [3] (fun i => ∃ k : Nat, k ≤ l.length ∧ i = .int .i64 k ∧ Hid (∀ t ∈ l.take k, ¬ 200 < t.text.length)) (fun i => l.length - (intOf i).toNat)
    case atStart => exact ⟨0, by omega, rfl, fun t h => by simp at h⟩
    case round =>
      obtain ⟨k, hk, rfl, HS⟩ := hrel
      by_cases hlt : k < l.length
      · have hki : (k : Int) < l.length := by omega
        obtain ⟨b, o, rfl, hcc⟩ := HRD.out (by omega)
        obtain ⟨c0, c1, c2, c3⟩ := hcc k hlt
        obtain ⟨t, ht⟩ : ∃ t, l[k] = t := ⟨_, rfl⟩
        obtain ⟨S, hS⟩ : ∃ S : ByteArray, (⟨t.text.toArray⟩ : ByteArray) = S := ⟨_, rfl⟩
        rw [ht, hS] at c1
        have hSl : S.size = t.text.length := by rw [← hS]; simp [ByteArray.size]
        have HT := Lib.hid ht
        have HSL := Lib.hid hSl
        clear ht hcc hS hSl c0 c2 c3
        by_cases hbig : (200 : Int) < S.size
        · go_wp2_with fail
          go_ret
          exact says_true (.inr ⟨t, by rw [← HT.out]; exact List.getElem_mem hlt, by rw [← HSL.out]; omega⟩) (Below.refl _ _)
        · have HB := Lib.hid hbig
          go_wp2_with fail
          go_round
          case rel =>
            have e : l.take (k + 1) = l.take k ++ [t] := by
              rw [List.take_add_one, List.getElem?_eq_getElem hlt, HT.out]; rfl
            refine ⟨k + 1, by omega, by go_num, ?_⟩
            intro u hu
            rw [e] at hu
            rcases List.mem_append.1 hu with hu | hu
            · exact HS.out u hu
            · simp only [List.mem_cons, List.not_mem_nil, or_false] at hu
              subst hu
              have := HB.out
              have := HSL.out
              omega
          case measure => simp [intOf]; omega
      · have hkl : k = l.length := by omega
        subst hkl
        go_wp2_with fail
        go_ret
        refine says_false (fun h => ?_) (Below.refl _ _)
        rcases h with h | ⟨t, ht, h⟩
        · omega
        · exact HS.out t (by rw [List.take_length]; exact ht) h
theorem AtText.out {l : List Tok} {w w' : World} {e : Ending} (h : AtText l w e w') : ∃ (s : ByteArray) (c : Int) (r : Except Int (List UInt8)), TextIs l r ∧ (r = .ok s.data.toList ∧ c = 0 ∨ s = ⟨#[]⟩ ∧ r = .error c ∧ c ≠ 0) ∧ e = .returned (.tuple #[.string s, .int .i64 c]) ∧ Below w.heap.size w w' := by
  obtain ⟨hB, ⟨s, h1, rfl⟩ | ⟨c, h1, h2, rfl⟩⟩ := h
  · exact ⟨⟨s.toArray⟩, 0, .ok s, h1, .inl ⟨by simp, rfl⟩, rfl, hB⟩
  · exact ⟨⟨#[]⟩, c, .error c, h1, .inr ⟨rfl, rfl, h2⟩, rfl, hB⟩
theorem AtText.same {l : List Tok} {s s' : ByteArray} {c c' : Int} {r r' : Except Int (List UInt8)} (h : TextIs l r) (h' : TextIs l r') (k : r = .ok s.data.toList ∧ c = 0 ∨ s = ⟨#[]⟩ ∧ r = .error c ∧ c ≠ 0) (k' : r' = .ok s'.data.toList ∧ c' = 0 ∨ s' = ⟨#[]⟩ ∧ r' = .error c' ∧ c' ≠ 0) : s' = s ∧ c' = c := by
  have e := h.same h'
  subst e
  rcases k with ⟨rfl, rfl⟩ | ⟨rfl, rfl, _⟩ <;> rcases k' with ⟨h1, rfl⟩ | ⟨rfl, h1, _⟩
  · simp only [Except.ok.injEq] at h1
    exact ⟨ByteArray.ext (by rw [← Array.toList_inj]; exact h1.symm), rfl⟩
  · cases h1
  · cases h1
  · simp only [Except.error.injEq] at h1
    exact ⟨rfl, h1.symm⟩
set_option maxRecDepth 100000 in
set_option maxHeartbeats 4000000 in
theorem TokenTexts_any (v : Value) (l : List Tok) (w : World) (hv : VarsT w) (hr : ArgToks w v l) (hn : ∀ t ∈ l, -9223372036854775808 ≤ t.n ∧ t.n ≤ 9223372036854775807) : Calls Tryd.prog 8 #[v] w (Gives (.bool true) w) := by
  have HV := Lib.hid hv
  have HN := Lib.hid hn
  have HR := Lib.hid hr
  clear hv hn hr
  obtain ⟨A, C, rfl, hll, hrd⟩ := HR.out.reads
  clear hll hrd
  by_cases hlg : Large l
  · have HG := Lib.hid hlg
    clear hlg
    go_enter Tryd.func8, Tryd.ntmps8
    go_wp2_with fail
    refine (large_any _ l _ HR.out.reads).mono ?_
    rintro e w1 ⟨r, hr, rfl, hB1⟩
    obtain rfl : r = true := hr.2 HG.out
    clear hr
    go_wp2_with fail
    refine (wakes9_any _ (HV.out.vars.stays hB1)).mono ?_
    rintro e w2 ⟨rfl, hB2⟩
    go_wp2_with fail
    go_ret
    exact ⟨rfl, bthen hB1 hB2⟩
  · have hfit : ∀ t ∈ l, TokFit t := fun t ht => ⟨by
      rcases Nat.lt_or_ge 200 t.text.length with h | h
      · exact absurd (.inr ⟨t, ht, h⟩) hlg
      · omega, (HN.out t ht).1, (HN.out t ht).2⟩
    have hlen : (l.length : Int) ≤ 7000 := by
      rcases Nat.lt_or_ge 7000 l.length with h | h
      · exact absurd (.inl h) hlg
      · omega
    have HG := Lib.hid hlg
    have HF := Lib.hid hfit
    clear hlg hfit
    obtain ⟨i0, hi, hz0, hz1, hz2⟩ := info_parts info_tok
    have HI := Lib.hid hi
    have HZ0 := Lib.hid hz0
    have HZ1 := Lib.hid hz1
    have HZ2 := Lib.hid hz2
    clear hi hz0 hz1 hz2
    go_enter Tryd.func8, Tryd.ntmps8
    go_wp2_with fail
    refine (large_any _ l _ HR.out.reads).mono ?_
    rintro e w1 ⟨r, hr, rfl, hB1⟩
    obtain rfl : r = false := by
      cases r with
      | false => rfl
      | true => exact absurd (hr.1 rfl) HG.out
    clear hr
    go_wp2_with (at_builtin; refine wpList_append_args rfl _ _ rfl w1.heap.size (.slice (some ⟨w1.heap.size, 0, none⟩) 0 0) _ l rfl (new_row _) rfl ((HR.out.stays hB1).stays (alloc_below _ _)) (by omega) (by simp) ?_; intro v1 w2 hown hgrow)
    have hB2 : Below w1.heap.size w1 w2 := (alloc_below w1 _).grown hgrow (by simp) (fun b hb => by
      have : w1.heap.size = b := by simpa [Value.ownBlock] using hb
      rw [← this]; exact Nat.le_refl _)
    have hin := own_reads hown (by omega)
    obtain ⟨A1, C1, rfl, _⟩ := hin
    have hin := own_reads hown (by omega)
    have HIN := Lib.hid hin
    have hB02 := bthen hB1 hB2
    clear hown hgrow hin
    go_wp2_with fail
    refine (Text_any _ l _ (HV.out.stays hB02) HIN.out HF.out).mono ?_
    intro e w3 h3
    obtain ⟨S, c, r, ht, hk, rfl, hB3⟩ := h3.out
    have HT := Lib.hid ht
    have HK := Lib.hid hk
    clear h3 ht hk
    have hB03 := bthen hB02 hB3
    go_wp2_with fail
    refine (r_Text _ l _ (HR.out.reads.stays hB03) HF.out).mono ?_
    intro e w4 h4
    obtain ⟨S', c', r', ht', hk', rfl, hB4⟩ := h4.out
    obtain ⟨hSS, hcc⟩ := AtText.same HT.out ht' HK.out hk'
    subst hSS hcc
    clear h4 ht' hk'
    have hB04 := bthen hB03 hB4
    go_wp2_with fail
    refine (r_Same _ _ l l true _ ((HIN.out.stays hB3).stays hB4) (HR.out.reads.stays hB04)).mono ?_
    rw [sameL_refl]
    rintro e w5 ⟨rfl, hB5⟩
    go_wp2_with fail
    refine (wakes9_any _ (HV.out.vars.stays (bthen hB04 hB5))).mono ?_
    rintro e w6 ⟨rfl, hB6⟩
    go_wp2_with fail
    go_ret
    exact ⟨rfl, bthen (bthen hB04 hB5) hB6⟩
end Go.Proofs.YtkieeaajhomdoaaDoor
set_option linter.unusedVariables false
set_option linter.unusedSimpArgs false
namespace Go.Proofs.YtkieeaajhomdoaaDoor
/-- What a token never goes on with. -/
def goodZ (z : UInt8) : Prop := z = 9 ∨ z = 10 ∨ z = 13 ∨ z = 32 ∨ z = 40
theorem good_blank {c : UInt8} (h : isBlank c = true) : goodZ c := by
  simp only [isBlank, Bool.or_eq_true, beq_iff_eq] at h
  unfold goodZ
  rcases h with ((h | h) | h) | h
  · exact .inl (UInt8.toNat_inj.1 h)
  · exact .inr (.inl (UInt8.toNat_inj.1 h))
  · exact .inr (.inr (.inl (UInt8.toNat_inj.1 h)))
  · exact .inr (.inr (.inr (.inl (UInt8.toNat_inj.1 h))))
theorem good_inside {z : UInt8} (h : goodZ z) : isInside z = false := by rcases h with rfl | rfl | rfl | rfl | rfl <;> rfl
theorem good_hex {z : UInt8} (h : goodZ z) : isHex z = false := by rcases h with rfl | rfl | rfl | rfl | rfl <;> rfl
theorem good_ne {z : UInt8} (h : goodZ z) (c : UInt8) (hc : c ≠ 9 ∧ c ≠ 10 ∧ c ≠ 13 ∧ c ≠ 32 ∧ c ≠ 40) : z ≠ c := by
  obtain ⟨h1, h2, h3, h4, h5⟩ := hc
  rcases h with rfl | rfl | rfl | rfl | rfl
  · exact h1.symm
  · exact h2.symm
  · exact h3.symm
  · exact h4.symm
  · exact h5.symm
theorem run_cut {p : UInt8 → Bool} (l Z : List UInt8) (n : Nat) (hn : n ≤ l.length) (h : run p l < n ∨ (run p l = n ∧ ∀ z, Z.head? = some z → p z = false)) : run p (l.take n ++ Z) = run p l := by
  have hle : run p l ≤ n := by omega
  have hlen : (l.take n).length = n := List.length_take_of_le hn
  refine run_eq (by rw [List.length_append, hlen]; omega) ?_ ?_
  · intro c hc
    rw [List.take_append_of_le_length (by omega), List.take_take, Nat.min_eq_left hle] at hc
    exact run_take_all c hc
  · intro hlt
    rcases h with h | ⟨h, hz⟩
    · rw [List.getElem_append_left (by omega), List.getElem_take]
      exact run_lt_stop (by omega)
    · rw [List.getElem_append_right (by omega)]
      match Z, hz with
      | [], _ => rw [List.length_append, hlen] at hlt; simp at hlt; omega
      | z :: Z, hz =>
        have : run p l - (l.take n).length = 0 := by omega
        simp only [this, List.getElem_cons_zero]
        exact hz z rfl
theorem get_cut {l Z : List UInt8} {n k : Nat} (hn : n ≤ l.length) (hk : k < n) : (l.take n ++ Z)[k]? = l[k]? := by
  rw [List.getElem?_append_left (by rw [List.length_take_of_le hn]; exact hk), List.getElem?_take_of_lt hk]
theorem get_cut0 {l Z : List UInt8} {z : UInt8} {n : Nat} (hn : n ≤ l.length) : (l.take n ++ z :: Z)[n]? = some z := by
  rw [List.getElem?_append_right (by rw [List.length_take_of_le hn]; omega), List.length_take_of_le hn]
  simp
theorem take_cut {l Z : List UInt8} {n k : Nat} (hn : n ≤ l.length) (hk : k ≤ n) : (l.take n ++ Z).take k = l.take k := by
  rw [List.take_append_of_le_length (by rw [List.length_take_of_le hn]; exact hk), List.take_take, Nat.min_eq_left hk]
theorem num_cut {l Z : List UInt8} {z : UInt8} {x : Tok} {n : Nat} (hz : goodZ z) (hn : n ≤ l.length) (h : numTok l = .ok (x, n)) : numTok (l.take n ++ z :: Z) = .ok (x, n) := by
  have hm := run_le isHex l
  have hzz : ∀ y, (z :: Z).head? = some y → isHex y = false := fun y hy => by simp only [List.head?_cons, Option.some.injEq] at hy; subst hy; exact good_hex hz
  unfold numTok at h
  simp only at h
  split at h
  · rename_i e
    split at h
    · rename_i hv
      simp only [Except.ok.injEq, Prod.mk.injEq] at h
      obtain ⟨rfl, rfl⟩ := h
      have hr := run_cut (p := isHex) l (z :: Z) _ hn (.inl (Nat.lt_succ_self _))
      unfold numTok
      simp only [hr, take_cut hn (Nat.le_succ _), get_cut (Z := z :: Z) hn (Nat.lt_succ_self _)]
      rw [if_pos e, if_pos hv]
    · cases h
  · rename_i e72
    split at h
    · rename_i e
      split at h
      · rename_i hv
        simp only [Except.ok.injEq, Prod.mk.injEq] at h
        obtain ⟨rfl, rfl⟩ := h
        have hr := run_cut (p := isHex) l (z :: Z) _ hn (.inl (Nat.lt_succ_self _))
        unfold numTok
        simp only [hr, take_cut hn (Nat.le_succ _), get_cut (Z := z :: Z) hn (Nat.lt_succ_self _)]
        rw [if_neg e72, if_pos e, if_pos hv]
      · cases h
    · rename_i e88
      split at h
      · cases h
      · rename_i h46
        split at h
        · rename_i hv
          simp only [Except.ok.injEq, Prod.mk.injEq] at h
          obtain ⟨rfl, rfl⟩ := h
          have hr := run_cut (p := isHex) l (z :: Z) _ hn (.inr ⟨rfl, hzz⟩)
          unfold numTok
          simp only [hr, take_cut hn (Nat.le_refl _), get_cut0 (Z := Z) (z := z) hn, Option.some.injEq]
          rw [if_neg (good_ne hz 72 (by decide)), if_neg (good_ne hz 88 (by decide)), if_neg, if_pos hv]
          rintro (h | ⟨h, _⟩)
          · exact h46 (.inl h)
          · exact good_ne hz 46 (by decide) h
        · cases h
theorem text_cut {l Z : List UInt8} {x : Tok} {n : Nat} (hn : n ≤ l.length + 1) (h : textTok l = .ok (x, n)) : 1 ≤ n ∧ textTok (l.take (n - 1) ++ Z) = .ok (x, n) := by
  unfold textTok at h
  simp only at h
  split at h
  · rename_i e
    split at h
    · cases h
    · rename_i hv
      simp only [Except.ok.injEq, Prod.mk.injEq] at h
      obtain ⟨rfl, rfl⟩ := h
      have hn' : run isPlain l + 1 ≤ l.length := by omega
      refine ⟨by omega, ?_⟩
      have hr := run_cut (p := isPlain) l Z (run isPlain l + 1) hn' (.inl (Nat.lt_succ_self _))
      rw [show run isPlain l + 2 - 1 = run isPlain l + 1 by omega]
      unfold textTok
      simp only [hr, take_cut hn' (Nat.le_succ _), get_cut (Z := Z) hn' (Nat.lt_succ_self _)]
      rw [if_pos e, if_neg hv]
  · cases h
theorem sign_small : ∀ w ∈ signList, w.length ≤ 2 ∧ ∀ z ∈ w.drop 1, z ≠ 9 ∧ z ≠ 10 ∧ z ≠ 13 ∧ z ≠ 32 ∧ z ≠ 40 := by decide
theorem find_imp {α : Type} {p q : α → Bool} {w : α} (hw : q w = true) : ∀ (l : List α), (∀ x ∈ l, q x = true → p x = true) → l.find? p = some w → l.find? q = some w
  | [], _, h => by cases h
  | x :: l, hi, h => by
    rw [List.find?_cons] at h ⊢
    cases hp : p x with
    | true =>
      rw [hp] at h
      simp only [Option.some.injEq] at h
      subst h
      rw [hw]
    | false =>
      rw [hp] at h
      have hq : q x = false := by
        cases hq : q x with
        | false => rfl
        | true => rw [hi x (by simp) hq] at hp; cases hp
      rw [hq]
      exact find_imp hw l (fun y hy => hi y (by simp [hy])) h
theorem prefix_cut {l Z : List UInt8} {z : UInt8} {n : Nat} (hz : goodZ z) (h1 : 1 ≤ n) (hn : n ≤ l.length) (w : List UInt8) (hw : w.length ≤ 2 ∧ ∀ z ∈ w.drop 1, z ≠ 9 ∧ z ≠ 10 ∧ z ≠ 13 ∧ z ≠ 32 ∧ z ≠ 40) (h : w.isPrefixOf (l.take n ++ z :: Z) = true) : w.isPrefixOf l = true := by
  rw [List.isPrefixOf_iff_prefix, List.prefix_iff_eq_take] at h ⊢
  by_cases hl : w.length ≤ n
  · rw [take_cut hn hl] at h
    exact h
  · have hn1 : n = 1 := by omega
    have hw2 : w.length = 2 := by omega
    subst hn1
    exfalso
    have hg : w[1]? = some z := by
      rw [h, hw2, List.getElem?_take_of_lt (by omega), get_cut0 hn]
    have hmem : z ∈ w.drop 1 := by
      have : (w.drop 1)[0]? = some z := by rw [List.getElem?_drop]; exact hg
      exact List.mem_of_getElem? this
    have := hw.2 z hmem
    obtain ⟨h1, h2, h3, h4, h5⟩ := this
    rcases hz with h | h | h | h | h
    · exact h1 h
    · exact h2 h
    · exact h3 h
    · exact h4 h
    · exact h5 h
theorem sign_cut {l Z : List UInt8} {z : UInt8} {x : Tok} {n : Nat} (hz : goodZ z) (hn : n ≤ l.length) (h : signTok l = .ok (x, n)) : signTok (l.take n ++ z :: Z) = .ok (x, n) := by
  unfold signTok at h
  split at h
  · rename_i w e
    simp only [Except.ok.injEq, Prod.mk.injEq] at h
    obtain ⟨rfl, rfl⟩ := h
    have hm := List.mem_of_find?_eq_some e
    have hp := List.find?_some e
    have hq : w.isPrefixOf (l.take w.length ++ z :: Z) = true := by
      rw [List.isPrefixOf_iff_prefix, List.prefix_iff_eq_take] at hp ⊢
      rw [take_cut hn (Nat.le_refl _)]
      exact hp
    have := find_imp (p := fun w => w.isPrefixOf l) (q := fun v => v.isPrefixOf (l.take w.length ++ z :: Z)) hq signList (fun v hv hvq => prefix_cut hz (sign_pos w hm) hn v (sign_small v hv) hvq) e
    unfold signTok
    rw [this]
  · cases h
theorem tok_cut {l Z : List UInt8} {z : UInt8} {x : Tok} {n : Nat} (hz : goodZ z) (h : tok l = .ok (x, n)) : tok (l.take n ++ z :: Z) = .ok (x, n) := by
  have hf := (tok_fine l).1 x n h
  match l with
  | [] => cases h
  | c :: r =>
    obtain ⟨m, rfl⟩ : ∃ m, n = m + 1 := ⟨n - 1, by omega⟩
    have hn := hf.2.1
    have hnum := fun h => num_cut (l := c :: r) (Z := Z) (x := x) hz hn h
    have hsgn := fun h => sign_cut (l := c :: r) (Z := Z) (x := x) hz hn h
    have htk : (c :: (r.take m ++ z :: Z)) = (c :: r).take (m + 1) ++ z :: Z := rfl
    show tok (c :: (r.take m ++ z :: Z)) = _
    unfold tok at h ⊢
    simp only at h ⊢
    by_cases h1 : isLetter c = true
    · rw [if_pos h1] at h ⊢
      have hm : m + 1 = run isInside (c :: r) := by
        cases hw : wordTok ((c :: r).take (run isInside (c :: r))) with
        | error e => rw [hw] at h; cases h
        | ok t =>
          rw [hw] at h
          simp only [Except.map, Except.ok.injEq, Prod.mk.injEq] at h
          exact h.2.symm
      have hr := run_cut (p := isInside) (c :: r) (z :: Z) (m + 1) hn (.inr ⟨hm.symm, fun y hy => by simp only [List.head?_cons, Option.some.injEq] at hy; subst hy; exact good_inside hz⟩)
      rw [htk, hr, take_cut hn (by omega)]
      exact h
    · rw [if_neg h1] at h ⊢
      by_cases h2 : isDigit c = true
      · rw [if_pos h2] at h ⊢
        rw [htk]
        exact hnum h
      · rw [if_neg h2] at h ⊢
        by_cases h3 : c = 34
        · rw [if_pos h3] at h ⊢
          have := text_cut (l := r) (Z := z :: Z) (by simpa using hn) h
          exact this.2
        · rw [if_neg h3] at h ⊢
          rw [htk]
          exact hsgn h
theorem cmt_take : ∀ (l : List UInt8) (d : Int) (n : Nat), cmt l d = some n → cmt (l.take n) d = some n
  | [], d, n, h => by simp [cmt] at h
  | [c], d, n, h => by have := cmt_bound _ _ _ h; simp at this; omega
  | c :: c2 :: r, d, n, h => by
    by_cases h1 : c = 40 ∧ c2 = 42
    · obtain ⟨rfl, rfl⟩ := h1
      have h : (cmt r (d + 1)).map (2 + ·) = some n := h
      obtain ⟨m, hm, rfl⟩ := Option.map_eq_some_iff.1 h
      rw [show (2 + m) = m + 1 + 1 by omega, List.take_succ_cons, List.take_succ_cons]
      show (cmt (r.take m) (d + 1)).map (2 + ·) = _
      rw [cmt_take _ _ _ hm, Option.map_some]
      congr 1
      omega
    · by_cases h2 : c = 42 ∧ c2 = 41
      · obtain ⟨rfl, rfl⟩ := h2
        have h : (if d - 1 = 0 then some 2 else (cmt r (d - 1)).map (2 + ·)) = some n := h
        split at h
        · rename_i h0
          simp only [Option.some.injEq] at h
          subst h
          show (if d - 1 = 0 then some 2 else _) = _
          rw [if_pos h0]
        · rename_i h0
          obtain ⟨m, hm, rfl⟩ := Option.map_eq_some_iff.1 h
          rw [show (2 + m) = m + 1 + 1 by omega, List.take_succ_cons, List.take_succ_cons]
          show (if d - 1 = 0 then some 2 else (cmt (r.take m) (d - 1)).map (2 + ·)) = _
          rw [if_neg h0, cmt_take _ _ _ hm, Option.map_some]
          congr 1
          omega
      · rw [cmt_other d (by simpa using h1) (by simpa using h2)] at h
        obtain ⟨m, hm, rfl⟩ := Option.map_eq_some_iff.1 h
        have hb := cmt_bound _ _ _ hm
        have ih := cmt_take (c2 :: r) d m hm
        obtain ⟨m, rfl⟩ : ∃ q, m = q + 1 := ⟨m - 1, by omega⟩
        rw [show 1 + (m + 1) = m + 1 + 1 by omega, List.take_succ_cons, List.take_succ_cons]
        rw [List.take_succ_cons] at ih
        rw [cmt_other d (by simpa using h1) (by simpa using h2), ih, Option.map_some]
        congr 1
        omega
def endC : List UInt8 := [32, 40, 42, 42, 42, 41]
def cmtC : List UInt8 := [40, 42, 32, 120, 32, 40, 42, 32, 42, 41, 32, 34, 32, 42, 41]
/-- The text with B before each token; l: the rest from k on. -/
def sp (B : List UInt8) : List UInt8 → Int → List Tok → List UInt8
  | l, k, [] => l ++ endC
  | l, k, x :: xs => l.take (x.at_ - k).toNat ++ (B ++ sp B (l.drop (x.at_ - k).toNat) x.at_ xs)
def Srt : Int → List Tok → Prop
  | _, [] => True
  | k, x :: xs => k ≤ x.at_ ∧ Srt x.at_ xs
theorem Srt.low {j k : Int} (h : j ≤ k) : ∀ {l : List Tok}, Srt k l → Srt j l
  | [], _ => trivial
  | x :: l, h2 => ⟨by have := h2.1; omega, h2.2⟩
theorem sp_skip (B l : List UInt8) (k n : Nat) (more : List Tok) (hs : Srt (k + n : Nat) more) (hn : n ≤ l.length) : sp B l k more = l.take n ++ sp B (l.drop n) (k + n : Nat) more := by
  match more with
  | [] => simp only [sp]; rw [← List.append_assoc, List.take_append_drop]
  | x :: xs =>
    have h := hs.1
    obtain ⟨a, ha⟩ : ∃ a, (x.at_ - (k + n : Nat)).toNat = a := ⟨_, rfl⟩
    have e : (x.at_ - (k : Int)).toNat = n + a := by omega
    simp only [sp]
    rw [ha, e, ← List.append_assoc (l.take n), List.drop_drop]
    congr 1
    rw [List.take_add]
def strip (x : Tok) : Tok := { x with at_ := 0 }
theorem rest_blanks : ∀ (b : List UInt8) (Z : List UInt8) (k : Nat) (acc : List Tok) (R : Except (Int × Int) (List Tok)), (∀ c ∈ b, isBlank c = true) → Rest (b ++ Z) k acc R → Rest Z (k + b.length) acc R
  | [], Z, k, acc, R, _, h => h
  | c :: b, Z, k, acc, R, hb, h => by
    have := rest_blanks b Z (k + 1) acc R (fun x hx => hb x (by simp [hx])) (Rest.blank h (hb c (by simp)))
    rw [List.length_cons, show k + (b.length + 1) = k + 1 + b.length by omega]
    exact this
theorem rest_comment (C Z : List UInt8) (k : Nat) (acc : List Tok) (R : Except (Int × Int) (List Tok)) (hc : cmt (40 :: 42 :: C) 0 = some (C.length + 2)) (h : Rest (40 :: 42 :: (C ++ Z)) k acc R) : Rest Z (k + (C.length + 2)) acc R := by
  have h2 := Rest.cmtOk h (by decide) (by rfl) (cmt_join Z _ _ _ hc)
  have e : (40 :: 42 :: (C ++ Z)).drop (C.length + 2) = Z := by
    show (C ++ Z).drop C.length = Z
    simp
  rw [e] at h2
  exact h2
theorem spread_sim (bl : List UInt8) (hbl : ∀ c ∈ bl, isBlank c = true) (N : Nat) : ∀ (l : List UInt8), l.length = N → ∀ (k : Nat) (acc toks : List Tok), Rest l k acc (.ok toks) →
    ∃ more, toks = acc ++ more ∧ Srt k more ∧ (∃ z Z, sp (bl ++ cmtC) l k more = z :: Z ∧ goodZ z) ∧
      ∀ (k' : Nat) (acc' : List Tok) (R' : Except (Int × Int) (List Tok)), acc'.map strip = acc.map strip → Rest (sp (bl ++ cmtC) l k more) k' acc' R' → ∃ toks', R' = .ok toks' ∧ toks'.map strip = toks.map strip := by
  induction N using Nat.strongRecOn with
  | _ N ih =>
    intro l hl k acc toks h
    match l with
    | [] =>
      have h0 := h.nil
      simp only [Except.ok.injEq] at h0
      subst h0
      refine ⟨[], by simp, trivial, ⟨32, [40, 42, 42, 42, 41], rfl, by simp [goodZ]⟩, ?_⟩
      intro k' acc' R' hacc h2
      have h3 : Rest ([32] ++ (40 :: 42 :: ([42, 42, 41] ++ []))) k' acc' R' := h2
      have h4 := rest_comment [42, 42, 41] [] _ _ _ (by rfl) (rest_blanks [32] _ _ _ _ (by decide) h3)
      exact ⟨acc', h4.nil, hacc⟩
    | c :: r =>
      simp only [List.length_cons] at hl
      cases hb : isBlank c with
      | true =>
        obtain ⟨more, h1, h2, h3, h4⟩ := ih r.length (by omega) r rfl _ _ _ (h.blank hb)
        have e := sp_skip (bl ++ cmtC) (c :: r) k 1 more h2 (by simp)
        rw [show (c :: r).take 1 = [c] from rfl, show (c :: r).drop 1 = r from rfl] at e
        refine ⟨more, h1, h2.low (by omega), ⟨c, _, e, good_blank hb⟩, ?_⟩
        intro k' acc' R' hacc h5
        rw [e] at h5
        exact h4 _ _ _ hacc (h5.blank hb)
      | false =>
        cases hp : [40, 42].isPrefixOf (c :: r) with
        | true =>
          cases hc : cmt (c :: r) 0 with
          | none => have := h.cmtBad hb hp hc; cases this
          | some m =>
            have hm := cmt_bound _ _ _ hc
            have e1 : ((c :: r).drop m).length = r.length + 1 - m := by rw [List.length_drop, List.length_cons]
            obtain ⟨more, h1, h2, h3, h4⟩ := ih _ (by rw [e1]; omega) _ rfl _ _ _ (h.cmtOk hb hp hc)
            have e := sp_skip (bl ++ cmtC) (c :: r) k m more h2 hm.2
            match r, hp with
            | [], hp => simp [List.isPrefixOf] at hp
            | c2 :: r, hp =>
              have hcc : c = 40 ∧ c2 = 42 := by
                simp [List.isPrefixOf] at hp
                exact ⟨hp.1.symm, hp.2.symm⟩
              obtain ⟨rfl, rfl⟩ := hcc
              obtain ⟨q, rfl⟩ : ∃ q, m = q + 1 + 1 := ⟨m - 2, by omega⟩
              have hct := cmt_take _ _ _ hc
              rw [List.take_succ_cons, List.take_succ_cons] at hct e
              have hq : (r.take q).length = q := List.length_take_of_le (by simp only [List.length_cons] at hm; omega)
              refine ⟨more, h1, h2.low (by omega), ⟨40, _, e, by simp [goodZ]⟩, ?_⟩
              intro k' acc' R' hacc h5
              rw [e] at h5
              have h6 := rest_comment (r.take q) _ _ _ _ (by rw [hq]; exact hct) h5
              exact h4 _ _ _ hacc h6
        | false =>
          cases ht : tok (c :: r) with
          | error e => have := h.bad hb hp ht; cases this
          | ok tn =>
            obtain ⟨x, m⟩ := tn
            have hm := (tok_fine (c :: r)).1 x m ht
            by_cases h6 : acc.length = 6000
            · have := h.many hb hp ht h6; cases this
            · have e1 : ((c :: r).drop m).length = r.length + 1 - m := by rw [List.length_drop, List.length_cons]
              obtain ⟨more, h1, h2, ⟨z, Z, h3, hz⟩, h4⟩ := ih _ (by rw [e1]; omega) _ rfl _ _ _ (h.tok hb hp ht h6)
              have e := sp_skip (bl ++ cmtC) (c :: r) k m more h2 hm.2.1
              have e0 : sp (bl ++ cmtC) (c :: r) k ({ x with at_ := (k : Int) } :: more) = bl ++ (cmtC ++ ((c :: r).take m ++ sp (bl ++ cmtC) ((c :: r).drop m) (k + m : Nat) more)) := by
                rw [← e]
                simp [sp]
              refine ⟨{ x with at_ := (k : Int) } :: more, by rw [h1]; simp, ⟨by simp, h2.low (by simp; omega)⟩, ?_, ?_⟩
              · rw [e0]
                match bl, hbl with
                | [], _ => exact ⟨40, _, rfl, by simp [goodZ]⟩
                | b :: bl, hbl => exact ⟨b, _, rfl, good_blank (hbl b (by simp))⟩
              · intro k' acc' R' hacc h5
                rw [e0] at h5
                have h7 := rest_blanks bl _ _ _ _ hbl h5
                have h8 := rest_comment [32, 120, 32, 40, 42, 32, 42, 41, 32, 34, 32, 42, 41] _ _ _ _ (by rfl) h7
                obtain ⟨q, rfl⟩ : ∃ q, m = q + 1 := ⟨m - 1, by omega⟩
                have htc := tok_cut (Z := Z) hz ht
                rw [h3, List.take_succ_cons] at h8
                have h8 : Rest (c :: (r.take q ++ z :: Z)) _ acc' R' := h8
                rw [List.take_succ_cons] at htc
                have hp' : [40, 42].isPrefixOf (c :: (r.take q ++ z :: Z)) = false := by
                  cases hpp : [40, 42].isPrefixOf (c :: (r.take q ++ z :: Z)) with
                  | false => rfl
                  | true =>
                    have := prefix_cut (l := c :: r) (n := q + 1) (Z := Z) hz (by omega) hm.2.1 [40, 42] (by decide) hpp
                    rw [hp] at this; cases this
                have hlen : acc'.length = acc.length := by have := congrArg List.length hacc; simpa using this
                have h9 := Rest.tok h8 hb hp' htc (by rw [hlen]; exact h6)
                have ed : (c :: (r.take q ++ z :: Z)).drop (q + 1) = z :: Z := by
                  show (r.take q ++ z :: Z).drop q = _
                  rw [List.drop_append_of_le_length (by rw [List.length_take_of_le (by have := hm.2.1; simp only [List.length_cons] at this; omega)]; exact Nat.le_refl _), List.drop_eq_nil_of_le (by rw [List.length_take]; omega)]
                  rfl
                rw [ed, ← h3] at h9
                refine h4 _ _ _ ?_ h9
                rw [List.map_append, List.map_append, hacc]
                rfl
theorem lex_srt {s : List UInt8} {toks : List Tok} (hs : s.length ≤ 16384) (h : lex s = .ok toks) : Srt 0 toks := by
  have hr := lex_rest hs
  rw [h] at hr
  obtain ⟨more, h1, h2, _⟩ := spread_sim [] (by simp) _ s rfl 0 [] toks hr
  simp only [List.nil_append] at h1
  subst h1
  exact h2
/-- Blanks and a comment before each token change nothing but places. -/
theorem lex_spread {s bl : List UInt8} {toks : List Tok} (hbl : ∀ c ∈ bl, isBlank c = true) (hs : s.length ≤ 16384) (h : lex s = .ok toks) (ht : (sp (bl ++ cmtC) s 0 toks).length ≤ 16384) :
    Srt 0 toks ∧ ∃ toks', lex (sp (bl ++ cmtC) s 0 toks) = .ok toks' ∧ toks'.map strip = toks.map strip := by
  have hr := lex_rest hs
  rw [h] at hr
  obtain ⟨more, h1, h2, _, h4⟩ := spread_sim bl hbl _ s rfl 0 [] toks hr
  simp only [List.nil_append] at h1
  subst h1
  exact ⟨h2, h4 0 [] _ rfl (lex_rest ht)⟩
end Go.Proofs.YtkieeaajhomdoaaDoor
set_option linter.unusedVariables false
set_option linter.unusedSimpArgs false
namespace Go.Proofs.YtkieeaajhomdoaaDoor
/-! Tokens that were written are read as they were. -/
theorem sign_heads : ∀ w ∈ signList, ∃ c r, w = c :: r ∧ isBlank c = false := by
  have : ∀ w ∈ signList, (match w with | [] => false | c :: _ => !isBlank c) = true := by decide
  intro w hw
  have h := this w hw
  match w, h with
  | c :: r, h => exact ⟨c, r, rfl, by simpa using h⟩
theorem tok_not_blank {c : UInt8} {r : List UInt8} {x : Tok} {n : Nat} (h : tok (c :: r) = .ok (x, n)) : isBlank c = false := by
  cases hb : isBlank c with
  | false => rfl
  | true =>
    have hc : c = 9 ∨ c = 10 ∨ c = 13 ∨ c = 32 := by
      rcases good_blank hb with h | h | h | h | h
      · exact .inl h
      · exact .inr (.inl h)
      · exact .inr (.inr (.inl h))
      · exact .inr (.inr (.inr h))
      · subst h; cases hb
    have key : tok (c :: r) = signTok (c :: r) := by rcases hc with rfl | rfl | rfl | rfl <;> rfl
    rw [key] at h
    unfold signTok at h
    split at h
    · rename_i w e
      obtain ⟨c', r', rfl, h2⟩ := sign_heads w (List.mem_of_find?_eq_some e)
      have hp := List.find?_some (p := fun v : List UInt8 => v.isPrefixOf (c :: r)) e
      simp only [List.isPrefixOf, Bool.and_eq_true, beq_iff_eq] at hp
      rw [hp.1] at h2
      rw [hb] at h2
      exact h2
    · cases h
theorem tail_nil : Lib.joinTail [32] [] = [] := rfl
theorem tail_cons (x : List UInt8) (r : List (List UInt8)) : Lib.joinTail [32] (x :: r) = 32 :: (x ++ Lib.joinTail [32] r) := rfl
theorem tail_cases (r : List (List UInt8)) : Lib.joinTail [32] r = [] ∨ ∃ Z, Lib.joinTail [32] r = 32 :: Z := by
  match r with
  | [] => exact .inl rfl
  | x :: r => exact .inr ⟨_, rfl⟩
theorem spelt_step {t : Tok} {J : List UInt8} {k : Nat} {acc : List Tok} {R : Except (Int × Int) (List Tok)} (hs : Spelt t) (hJ : J = [] ∨ ∃ Z, J = 32 :: Z) (hacc : acc.length ≠ 6000) (h : Rest (spell t ++ J) k acc R) :
    Rest J (k + (spell t).length) (acc ++ [{ t with at_ := (k : Int) }]) R := by
  obtain ⟨h1, h2, h3, h4⟩ := hs
  obtain ⟨s, hsp⟩ : ∃ s, spell t = s := ⟨_, rfl⟩
  rw [hsp] at h h1 h2 h3 h4 ⊢
  match s, h1 with
  | c :: r, _ =>
    have hb := tok_not_blank h4
    have ht : tok (c :: (r ++ J)) = .ok ({ t with at_ := 0 }, (c :: r).length) := by
      rcases hJ with rfl | ⟨Z, rfl⟩
      · rw [List.append_nil]; exact h4
      · have := tok_cut (Z := Z) (z := 32) (by simp [goodZ]) h4
        rw [List.take_length] at this
        exact this
    have hp : [40, 42].isPrefixOf (c :: (r ++ J)) = false := by
      rcases hJ with rfl | ⟨Z, rfl⟩
      · rw [List.append_nil]; exact h3
      · cases hpp : [40, 42].isPrefixOf (c :: (r ++ 32 :: Z)) with
        | false => rfl
        | true =>
          have := prefix_cut (l := c :: r) (n := (c :: r).length) (Z := Z) (z := 32) (by simp [goodZ]) (by simp) (Nat.le_refl _) [40, 42] (by decide) (by rw [List.take_length]; exact hpp)
          rw [h3] at this; cases this
    have h5 := Rest.tok (show Rest (c :: (r ++ J)) k acc R from h) hb hp ht hacc
    have ed : (c :: (r ++ J)).drop (c :: r).length = J := by
      show (r ++ J).drop r.length = J
      simp
    rw [ed] at h5
    exact h5
theorem back_tail : ∀ (l : List Tok) (k : Nat) (acc : List Tok) (R : Except (Int × Int) (List Tok)), (∀ t ∈ l, Spelt t) → acc.length + l.length ≤ 6000 → Rest (Lib.joinTail [32] (l.map spell)) k acc R → ∃ toks, R = .ok toks ∧ toks.map strip = acc.map strip ++ l.map strip
  | [], k, acc, R, _, _, h => ⟨acc, h.nil, by simp⟩
  | t :: l, k, acc, R, hs, hl, h => by
    simp only [List.length_cons] at hl
    rw [List.map_cons, tail_cons] at h
    have h1 := Rest.blank h (by decide)
    have h2 := spelt_step (hs t (by simp)) (tail_cases _) (by omega) h1
    obtain ⟨toks, e, hm⟩ := back_tail l _ _ R (fun u hu => hs u (by simp [hu])) (by simp only [List.length_append, List.length_cons, List.length_nil]; omega) h2
    refine ⟨toks, e, ?_⟩
    rw [hm]
    simp [strip]
/-- The text of tokens that may be is read as those tokens, but for places. -/
theorem lex_joined {l : List Tok} (hs : ∀ t ∈ l, Spelt t) (hl : l.length ≤ 6000) (hj : (Lib.join (l.map spell) [32]).length ≤ 16384) : ∃ toks, lex (Lib.join (l.map spell) [32]) = .ok toks ∧ toks.map strip = l.map strip := by
  have hr := lex_rest hj
  match l with
  | [] => exact ⟨[], by rfl, rfl⟩
  | t :: l =>
    simp only [List.length_cons] at hl
    rw [List.map_cons, Lib.join_cons] at hr ⊢
    have h2 := spelt_step (hs t (by simp)) (tail_cases _) (by simp) hr
    obtain ⟨toks, e, hm⟩ := back_tail l _ _ _ (fun u hu => hs u (by simp [hu])) (by simp only [List.length_append, List.length_cons, List.length_nil]; omega) h2
    refine ⟨toks, e, ?_⟩
    rw [hm]
    simp [strip]
end Go.Proofs.YtkieeaajhomdoaaDoor
set_option linter.unusedVariables false
set_option linter.unusedSimpArgs false
namespace Go.Proofs.YtkieeaajhomdoaaDoor
open Go.RowKit Go.Maps Go.MapKept
theorem sameL_strip2 : ∀ (a b : List Tok), b.map strip = a.map strip → sameL false a b = true
  | [], [], _ => rfl
  | [], _ :: _, h => by simp at h
  | _ :: _, [], h => by simp at h
  | ⟨xk, xt, xn, xa⟩ :: a, ⟨yk, yt, yn, ya⟩ :: b, h => by
    simp only [List.map_cons, List.cons.injEq, strip, Tok.mk.injEq] at h
    obtain ⟨⟨rfl, rfl, rfl, _⟩, h2⟩ := h
    simp only [sameL, sameL_strip2 a b h2, Bool.and_true]
    simp [sameT]
set_option maxRecDepth 100000 in
set_option maxHeartbeats 4000000 in
theorem TokenBack_any (v : Value) (l : List Tok) (w : World) (hv : VarsT w) (hr : ArgToks w v l) (hn : ∀ t ∈ l, -9223372036854775808 ≤ t.n ∧ t.n ≤ 9223372036854775807) : Calls Tryd.prog 9 #[v] w (Gives (.bool true) w) := by
  have HV := Lib.hid hv
  have HN := Lib.hid hn
  have HR := Lib.hid hr
  clear hv hn hr
  obtain ⟨A, C, rfl, hll, hrd⟩ := HR.out.reads
  clear hll hrd
  by_cases hlg : Large l
  · have HG := Lib.hid hlg
    clear hlg
    go_enter Tryd.func9, Tryd.ntmps9
    go_wp2_with fail
    refine (large_any _ l _ HR.out.reads).mono ?_
    rintro e w1 ⟨r, hr, rfl, hB1⟩
    obtain rfl : r = true := hr.2 HG.out
    clear hr
    go_wp2_with fail
    refine (wakes9_any _ (HV.out.vars.stays hB1)).mono ?_
    rintro e w2 ⟨rfl, hB2⟩
    go_wp2_with fail
    go_ret
    exact ⟨rfl, bthen hB1 hB2⟩
  · have hfit : ∀ t ∈ l, TokFit t := fun t ht => ⟨by
      rcases Nat.lt_or_ge 200 t.text.length with h | h
      · exact absurd (.inr ⟨t, ht, h⟩) hlg
      · omega, (HN.out t ht).1, (HN.out t ht).2⟩
    have hlen : (l.length : Int) ≤ 7000 := by
      rcases Nat.lt_or_ge 7000 l.length with h | h
      · exact absurd (.inl h) hlg
      · omega
    have HG := Lib.hid hlg
    have HF := Lib.hid hfit
    clear hlg hfit
    go_enter Tryd.func9, Tryd.ntmps9
    go_wp2_with fail
    refine (large_any _ l _ HR.out.reads).mono ?_
    rintro e w1 ⟨r, hr, rfl, hB1⟩
    obtain rfl : r = false := by
      cases r with
      | false => rfl
      | true => exact absurd (hr.1 rfl) HG.out
    clear hr
    go_wp2_with (at_builtin; refine wpList_append_args rfl _ _ rfl w1.heap.size (.slice (some ⟨w1.heap.size, 0, none⟩) 0 0) _ l rfl (new_row _) rfl ((HR.out.stays hB1).stays (alloc_below _ _)) (by omega) (by simp) ?_; intro v1 w2 hown hgrow)
    have hB2 : Below w1.heap.size w1 w2 := (alloc_below w1 _).grown hgrow (by simp) (fun b hb => by
      have : w1.heap.size = b := by simpa [Value.ownBlock] using hb
      rw [← this]; exact Nat.le_refl _)
    have hin := own_reads hown (by omega)
    obtain ⟨A1, C1, rfl, _⟩ := hin
    have hin := own_reads hown (by omega)
    have HIN := Lib.hid hin
    have hB02 := bthen hB1 hB2
    clear hown hgrow hin
    go_wp2_with fail
    refine (Text_any _ l _ (HV.out.stays hB02) HIN.out HF.out).mono ?_
    rintro e w3 ⟨hB3, ⟨s, h1, rfl⟩ | ⟨c, h1, h2, rfl⟩⟩
    · have hB03 := bthen hB02 hB3
      have hg : l.length ≤ 6000 ∧ (∀ t ∈ l, GoodT t) ∧ (joined l).length ≤ 16384 ∧ s = joined l := by
        rcases h1 with ⟨_, h⟩ | ⟨_, _, h⟩ | ⟨h0, h2, ⟨_, h⟩ | ⟨h3, h⟩⟩
        · cases h
        · cases h
        · cases h
        · simp only [Except.ok.injEq] at h
          exact ⟨h0, h2, h3, h⟩
      obtain ⟨g0, g1, g2, rfl⟩ := hg
      obtain ⟨toks, hlex, hst⟩ := lex_joined (fun t ht => (spelt_iff t (HF.out t ht).2.1 (HF.out t ht).2.2).2 (g1 t ht)) g0 g2
      have hsame := sameL_strip2 l toks hst
      obtain ⟨S, hS⟩ : ∃ S : ByteArray, (⟨(joined l).toArray⟩ : ByteArray) = S := ⟨_, rfl⟩
      have hlexS : lex S.data.toList = .ok toks := by rw [← hS]; exact hlex
      have hSz : S.size ≤ 140737488351232 := by
        have : S.size = (joined l).length := by rw [← hS]; simp [ByteArray.size]
        omega
      rw [hS]
      have HL := Lib.hid hlexS
      have HSM := Lib.hid hsame
      clear h1 g0 g1 g2 hlex hst hlexS hsame hS
      go_wp2_with fail
      refine (Lex_any S _ ((HV.out.stays hB03).vars) hSz _ HL.out).mono ?_
      intro e w4 h4
      obtain ⟨A4, C4, rfl, hr4, hB4⟩ := h4.out HL.out
      have HR4 := Lib.hid hr4
      have hB04 := bthen hB03 hB4
      clear h4 hr4
      rw [show (lexOut (.ok toks)).1 = toks from rfl, show (lexOut (.ok toks)).2.1 = 0 from rfl, show (lexOut (.ok toks)).2.2 = 0 from rfl]
      go_wp2_with fail
      refine (r_Same _ _ l toks false _ (HR.out.reads.stays hB04) HR4.out).mono ?_
      rw [HSM.out]
      rintro e w5 ⟨rfl, hB5⟩
      go_wp2_with fail
      refine (wakes9_any _ (HV.out.vars.stays (bthen hB04 hB5))).mono ?_
      rintro e w6 ⟨rfl, hB6⟩
      go_wp2_with fail
      go_ret
      exact ⟨rfl, bthen (bthen hB04 hB5) hB6⟩
    · have hB03 := bthen hB02 hB3
      have hcb : (c != 0) = true := by rw [bne_iff_ne]; exact h2
      clear h1 h2
      go_wp2_with fail
      refine (wakes9_any _ (HV.out.vars.stays hB03)).mono ?_
      rintro e w6 ⟨rfl, hB6⟩
      go_wp2_with fail
      go_ret
      exact ⟨rfl, bthen hB03 hB6⟩
end Go.Proofs.YtkieeaajhomdoaaDoor
set_option linter.unusedVariables false
set_option linter.unusedSimpArgs false
namespace Go.Proofs.YtkieeaajhomdoaaDoor
open Go.ChangeShapes Go.WideShapes Go.ChangeAt Go.RowKit Go.Deep
section
variable {H : Type} {enc : TypeId × Value → H}
/-- The witness of a row, the world's shape told apart. -/
theorem witness_row_zip {C : Checked} {os : Os} {f : FuncId} {fn : Func} {s : OpenSpec} {conds : List PathCond} {apart : Bool} {laid : List (String × DataW Unit)} (modest : Bool) (w0 : World) (args : Array Value) (hos : w0.os = os)
    (hsh : (w0.forCall (fun _ _ => 0) ⟨#[], args, []⟩).Shaped C.prog)
    (hok : Input.okWideB C.prog (w0.forCall (fun _ _ => 0) ⟨#[], args, []⟩) f ⟨#[], args, []⟩ = true)
    (hrow : s.preRow enc C.prog fn conds apart laid (w0.forCall (fun _ _ => 0) ⟨#[], args, []⟩).memory args) :
    ∃ (w : World) (tape : Tape) (i : Input), w.os = os ∧ (w.forCall tape i).Shaped C.prog ∧ i.vars = [] ∧ Input.okWide C.prog (w.forCall tape i) .any w.heap.size f i ∧
      s.preRow enc C.prog fn conds apart laid (w.forCall tape i).memory i.args ∧ ({ modest := modest } : Assume).holds C.prog (lone (Frame.enter C.prog f i.args .normal) [] (w.forCall tape i)) :=
  ⟨w0, fun _ _ => 0, ⟨#[], args, []⟩, hos, hsh, (Input.okWide_of_okWideB (base := 0) hok).1, (Input.okWide_of_okWideB hok).2, hrow, by
    simp only [Assume.holds]
    exact ⟨by simp, by simp, fun _ => Modest.zero, by simp, by simp⟩⟩
end
theorem laidOut : laidOutB Tryd.prog = true := by kernel_rfl
theorem cells_tok : Tryd.prog.cellsOf 34 = 4 := by kernel_rfl
theorem bytes_tok : Tryd.prog.bytesOf 34 = 40 := by kernel_rfl
theorem wf_i64 {n : Int} (h : (Lit.int .i64 n).wf = true) : -9223372036854775808 ≤ n ∧ n ≤ 9223372036854775807 := by
  simp [Lit.wf, IntKind.min, IntKind.max, IntKind.signed, IntKind.bits] at h
  omega
set_option maxRecDepth 100000 in
/-- One token of a slice that came in. -/
theorem open_tok {H : Type} {enc : TypeId × Value → H} {w : World} {base : Nat} {spare : Nat → Bool} {held : Bool} {n : Nat} {cs : List Value} {x : DataW H × List MemPlace}
    (h : DataW.trod enc Tryd.prog w base spare held n 34 cs = some x) : ∃ t : Tok, cs = tokCells t ∧ -9223372036854775808 ≤ t.n ∧ t.n ≤ 9223372036854775807 := by
  obtain ⟨xs, m, _, _, hlen, hxl, hf⟩ := DataW.trod_struct Tryd.underlying34 h
  rw [cells_tok] at hlen
  match cs, hlen with
  | [c0, c1, c2, c3], _ =>
    match xs, hxl with
    | [y0, y1, y2, y3], _ =>
      have h0 := hf 0 _ rfl
      have h1 := hf 1 _ rfl
      have h2 := hf 2 _ rfl
      have h3 := hf 3 _ rfl
      have g0 : DataW.trod enc Tryd.prog w base spare held m 3 [c0] = some y0 := h0
      have g1 : DataW.trod enc Tryd.prog w base spare held m 9 [c1] = some y1 := h1
      have g2 : DataW.trod enc Tryd.prog w base spare held m 3 [c2] = some y2 := h2
      have g3 : DataW.trod enc Tryd.prog w base spare held m 3 [c3] = some y3 := h3
      obtain ⟨k, e0, _, _⟩ := DataW.trod_int Tryd.underlying3 g0
      obtain ⟨s, e1, _, _⟩ := DataW.trod_string Tryd.underlying9 g1
      obtain ⟨v, e2, _, w2⟩ := DataW.trod_int Tryd.underlying3 g2
      obtain ⟨a, e3, _, _⟩ := DataW.trod_int Tryd.underlying3 g3
      simp only [List.cons.injEq, and_true] at e0 e1 e2 e3
      subst e0 e1 e2 e3
      exact ⟨⟨k, s.data.toList, v, a⟩, rfl, wf_i64 w2⟩
set_option maxRecDepth 100000 in
theorem open_toks {H : Type} {enc : TypeId × Value → H} {w : World} {base : Nat} {spare : Nat → Bool} {held : Bool} {r : Reach} {b0 : Nat} {v : Value} {d : DataW H} {p : List MemPlace} {ts : List TypeId} {ds : List (DataW H)} {j : Nat}
    (hv : Value.okWide Tryd.prog w r b0 23 v) (h : DataW.Trod enc Tryd.prog w base spare held 23 v d p)
    (hsz : (DataW.weightsEach Tryd.prog ts ds).all (· ≤ reachBytes) = true) (ht : ts[j]? = some 23) (hd : ds[j]? = some d) :
    ∃ l : List Tok, ArgToks w v l ∧ ∀ t ∈ l, -9223372036854775808 ≤ t.n ∧ t.n ≤ 9223372036854775807 := by
  obtain ⟨A, len, cap, rfl⟩ := okWide_slice Tryd.underlying23 hv
  obtain ⟨fuel, hf⟩ := h
  rcases open_slice Tryd.underlying23 hf with ⟨hcs, _⟩ | ⟨a, len', cap', m, n, D, Pl, hcs, hb, hl, hm, hmm, hx, hi⟩
  · simp only [Value.cells, List.cons.injEq, and_true] at hcs
    rw [hcs]
    exact ⟨[], .inl ⟨rfl, rfl⟩, by simp⟩
  · simp [Value.cells] at hcs
    obtain ⟨rfl, rfl, rfl⟩ := hcs
    have hd2 := (Prod.mk.inj hx).1
    subst hd2
    have z := sized_slice hsz ht hd Tryd.underlying23
    rw [bytes_tok] at z
    simp only [List.length_map, List.length_range, reachBytes] at z
    have hml : len ≤ m := by
      rw [hmm]
      split
      · exact hl
      · exact Nat.le_refl _
    have key : ∀ i, ∃ t : Tok, i < len → ((∀ j, j < 4 → w.cell? (a.add (i * 4 + j)) = (tokCells t)[j]?) ∧ -9223372036854775808 ≤ t.n ∧ t.n ≤ 9223372036854775807) := by
      intro i
      by_cases him : i < len
      · obtain ⟨cs', hc, ht'⟩ := hi i (by omega)
        obtain ⟨t, rfl, hb⟩ := open_tok ht'
        rw [cells_tok] at hc
        obtain ⟨_, _, hcell⟩ := World.cells?_some hc
        refine ⟨t, fun _ => ⟨fun j hj => ?_, hb⟩⟩
        rw [← hcell j hj, Go.Deep.add_add]
      · exact ⟨⟨0, [], 0, 0⟩, fun h => absurd h him⟩
    obtain ⟨f, hf2⟩ := Classical.axiomOfChoice key
    refine ⟨(List.range len).map f, .inr ⟨a, cap, by simp, by simp; omega, ?_⟩, ?_⟩
    · intro i hi2 j hj
      simp only [List.length_map, List.length_range] at hi2
      simp only [List.getElem_map, List.getElem_range]
      exact (hf2 i hi2).1 j hj
    · intro t ht2
      obtain ⟨i, hi2, rfl⟩ := List.mem_map.1 ht2
      exact (hf2 i (List.mem_range.1 hi2)).2
end Go.Proofs.YtkieeaajhomdoaaDoor
