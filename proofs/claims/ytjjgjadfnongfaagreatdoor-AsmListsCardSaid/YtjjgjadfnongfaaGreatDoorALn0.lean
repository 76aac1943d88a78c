import Derived.Test.YtjjgjadfnongfaaGreatDoorANam2
import Derived.Test.YtjjgjadfnongfaaGreatDoorARLine
import Derived.Lib.AtoiErrMem
set_option linter.unusedVariables false
set_option linter.unusedSimpArgs false
namespace Go.Proofs.YtjjgjadfnongfaaGreatDoor
open Go.RowKit Go.Maps Go.MapKept Go.ChangeMaps
/-! The namer, made: what it is asked. -/
section
variable {P : Program} {w : World} {b clock : Nat} {t k el : TypeId}
theorem run_look_ents (K : Keyed P k) (ht : P.underlying t = some (.map k el)) {l : List Value} (hb : w.heap[b]? = some (.map (entsOf l) clock))
    {key : Value} {kl : Lit} (hkey : keyOf P k key = some kl) (hes : ∀ e ∈ (entsOf l).toList, ∃ q, keyOf P k e.key = some q) (hnd : l.Nodup) (hne : l ≠ []) {i : Nat} (hi : l[i]? = some key) (ok : Bool) :
    (Instr.lookup t (.map (some b)) key ok).run P w = .ok (if ok then .tuple #[.int .i64 i, .bool true] else .int .i64 i) w := by
  have hlt := (List.getElem?_eq_some_iff.1 hi).1
  have hemp : (entsOf l).isEmpty = false := by
    cases l with
    | nil => exact absurd rfl hne
    | cons a r => simp [entsOf]
  rcases K.find w hkey (entsOf l).toList hes with ⟨h1, h2⟩ | ⟨j, e0, h1, h2, h3⟩
  · exact absurd (List.getElem?_eq_some_iff.1 hi).2 (h2 ⟨l[i], .int .i64 i, i⟩ (by
      refine List.mem_of_getElem? (i := i) ?_
      rw [Array.getElem?_toList, entsOf_get l i hlt]))
  · rw [Array.getElem?_toList] at h2
    have hj : j < l.length := by
      have := (Array.getElem?_eq_some_iff.1 h2).1
      rwa [entsOf_size] at this
    rw [entsOf_get l j hj] at h2
    have h2 := (Option.some.inj h2).symm
    subst h2
    have hij : j = i := (List.getElem_inj (h₀ := hj) (h₁ := hlt) hnd).1 (h3.trans (List.getElem?_eq_some_iff.1 hi).2.symm)
    subst hij
    cases ok <;> simp [Instr.lookup, run_underlying ht, MapKept.run_getObj_map hb, K.check w _ hkey, hemp, h1, Result.andThen]
theorem run_look_none (K : Keyed P k) (ht : P.underlying t = some (.map k el)) {l : List Value} (hb : w.heap[b]? = some (.map (entsOf l) clock)) (hz : ∀ u : World, (zeroValue el).run P u = .ok (.int .i64 0) u)
    {key : Value} {kl : Lit} (hkey : keyOf P k key = some kl) (hes : ∀ e ∈ (entsOf l).toList, ∃ q, keyOf P k e.key = some q) (hni : key ∉ l) :
    (Instr.lookup t (.map (some b)) key true).run P w = .ok (.tuple #[.int .i64 0, .bool false]) w := by
  rcases K.find w hkey (entsOf l).toList hes with ⟨h1, h2⟩ | ⟨j, e0, h1, h2, h3⟩
  · simp [Instr.lookup, run_underlying ht, MapKept.run_getObj_map hb, K.check w _ hkey, hz, h1, Result.andThen]
  · rw [Array.getElem?_toList] at h2
    have hj : j < l.length := by
      have := (Array.getElem?_eq_some_iff.1 h2).1
      rwa [entsOf_size] at this
    rw [entsOf_get l j hj] at h2
    have h2 := (Option.some.inj h2).symm
    subst h2
    exact absurd (h3 ▸ List.getElem_mem hj) hni
end
/-- The namer, its blocks by name. -/
structure Nmr (P Bs Bn g1 C1 g2 C2 : Nat) (w : World) : Prop where
  str : w.heap[P]? = some (.cells #[.slice (some ⟨g1, 0, none⟩) 84 C1, .slice (some ⟨g2, 0, none⟩) 84 C2, .map (some Bs), .map (some Bn)] 72 (0, 0))
  names : ∀ (i : Nat) (u : Value), (keysN tableP)[i]? = some u → w.cell? ⟨g1, i, none⟩ = some u
  shapes : ∀ (i : Nat) (u : Value), (tableP.flatMap fun p => shpC p.1)[i]? = some u → w.cell? ⟨g2, i, none⟩ = some u
  byS : w.heap[Bs]? = some (.map (entsOf (keysS tableP)) 84)
  byN : w.heap[Bn]? = some (.map (entsOf (keysN tableP)) 84)
  cap : 84 ≤ C1 ∧ C1 ≤ maxLen ∧ 84 ≤ C2 ∧ C2 ≤ maxLen
theorem Nmr.stays {P Bs Bn g1 C1 g2 C2 : Nat} {w w' : World} (h : Nmr P Bs Bn g1 C1 g2 C2 w) (hb : Below w.heap.size w w') : Nmr P Bs Bn g1 C1 g2 C2 w' :=
  ⟨b_below h.str hb, fun i u hu => a_keep hb (h.names i u hu), fun i u hu => a_keep hb (h.shapes i u hu), b_below h.byS hb, b_below h.byN hb, h.cap⟩
theorem add_nil (g j : Nat) : (⟨g, 0, none⟩ : Addr).add j = ⟨g, j, none⟩ := by unfold Addr.add; split <;> simp_all
theorem namer_of {w : World} {v : Value} (h : IsNamer w v) : ∃ P Bs Bn g1 C1 g2 C2, v = .pointer (some ⟨P, 0, none⟩) ∧ Nmr P Bs Bn g1 C1 g2 C2 w := by
  obtain ⟨base, P, vn, vs, Bs, Bn, rfl, ⟨h1, h2, h3, h4, h5, -, -⟩⟩ := h
  rw [table_len] at h2 h3 h4 h5
  rcases h2.2 with ⟨-, h⟩ | ⟨g1, C1, cur1, rfl, -, hg1, k1, k2, -⟩
  · cases h
  rcases h3.2 with ⟨-, h⟩ | ⟨g2, C2, cur2, rfl, -, hg2, k3, k4, -⟩
  · cases h
  refine ⟨P, Bs, Bn, g1, C1, g2, C2, rfl, h1, fun i u hu => ?_, fun i u hu => ?_, h4, h5, k1, k2, k3, k4⟩
  · have := h2.cells (g := g1) rfl i u hu
    rwa [add_nil] at this
  · have := h3.cells (g := g2) rfl i u hu
    rwa [add_nil] at this
theorem hes_S : ∀ e ∈ (entsOf (keysS tableP)).toList, ∃ l, keyOf Tryz.prog 74 e.key = some l := by
  intro e he
  obtain ⟨i, hi, rfl⟩ := entsOf_mem he
  have hi' : i < tableP.length := by simpa [keysS] using hi
  have := keyed_shape (List.getElem_mem hi')
  simpa [keysS] using this
theorem hes_N : ∀ e ∈ (entsOf (keysN tableP)).toList, ∃ l, keyOf Tryz.prog 9 e.key = some l := by
  intro e he
  obtain ⟨i, hi, rfl⟩ := entsOf_mem he
  have hi' : i < tableP.length := by simpa [keysN] using hi
  have h5 := table_short _ (List.getElem_mem hi')
  have := keyed_str (tableP[i]).2 (by omega)
  exact ⟨_, by simpa [keysN] using this⟩
theorem nd_S : (keysS tableP).Nodup := by
  unfold keysS
  have := List.Pairwise.map (S := (· ≠ ·)) shpV (fun a b h e => h (shpV_inj e)) table_nodupS
  rwa [List.map_map] at this
theorem nd_N : (keysN tableP).Nodup := by
  unfold keysN
  have := List.Pairwise.map (S := (· ≠ ·)) strV (fun a b h e => h (strV_inj e)) table_nodupN
  rwa [List.map_map] at this
theorem keysS_ne : keysS tableP ≠ [] := by
  intro e
  have : (keysS tableP).length = 84 := by simp [keysS, table_len]
  rw [e] at this; cases this
theorem keysN_ne : keysN tableP ≠ [] := by
  intro e
  have : (keysN tableP).length = 84 := by simp [keysN, table_len]
  rw [e] at this; cases this
/-- Where an instruction's shape stands. -/
theorem shape_at {x : Ins} (h : goodI x = true) : ∃ i, i < 84 ∧ tableP[i]? = some (shapeOf x, nameI x) := by
  obtain ⟨f, u, v, a, b, c, op, im⟩ := x
  have hf := good_form h
  obtain ⟨⟨a0, a1⟩, -, -, o0, o1⟩ := good_nibs h
  simp only at a0 a1 o0 o1 hf
  obtain ⟨n, rfl⟩ := Int.eq_ofNat_of_zero_le o0
  obtain ⟨m, rfl⟩ := Int.eq_ofNat_of_zero_le a0
  have hn : n < 12 := by omega
  have hm : m < 16 := by omega
  rcases hf with rfl | rfl | rfl | rfl
  · refine ⟨4 * n + (if u then (if v then 3 else 1) else (if v then 2 else 0)), ?_, ?_⟩
    · cases u <;> cases v <;> simp <;> omega
    · have key : ∀ (k : Fin 12) (u v : Bool), tableP[4 * k.1 + (if u then (if v then 3 else 1) else (if v then 2 else 0))]? = some (⟨0, ((k.1 : Nat) : Int), u, v⟩, opN (k.1 : Nat) ++ markL u v) := by decide +kernel
      simpa [shapeOf, nameI] using key ⟨n, hn⟩ u v
  · refine ⟨4 * n + (if u then (if v then 3 else 1) else (if v then 2 else 0)), ?_, ?_⟩
    · cases u <;> cases v <;> simp <;> omega
    · have key : ∀ (k : Fin 12) (u v : Bool), tableP[4 * k.1 + (if u then (if v then 3 else 1) else (if v then 2 else 0))]? = some (⟨0, ((k.1 : Nat) : Int), u, v⟩, opN (k.1 : Nat) ++ markL u v) := by decide +kernel
      simpa [shapeOf, nameI] using key ⟨n, hn⟩ u v
  · refine ⟨48 + (if u then (if v then 3 else 1) else (if v then 2 else 0)), ?_, ?_⟩
    · cases u <;> cases v <;> simp
    · cases u <;> cases v <;> simp [shapeOf, nameI] <;> decide +kernel
  · refine ⟨52 + 2 * m + (if v then 1 else 0), ?_, ?_⟩
    · cases v <;> simp <;> omega
    · have key : ∀ (k : Fin 16) (v : Bool), tableP[52 + 2 * k.1 + (if v then 1 else 0)]? = some (⟨3, ((k.1 : Nat) : Int), false, v⟩, (if v then [66, 76] else [66]) ++ (46 :: condN (k.1 : Nat))) := by decide +kernel
      simpa [shapeOf, nameI] using key ⟨m, hm⟩ v
theorem below_grow {w w' : World} {k : Nat} {os : Array Obj} (h : w' = Go.Sort.grow (w.drewN k) os) : Below w.heap.size w w' := by
  subst h
  refine ⟨rfl, rfl, rfl, by rw [Go.Sort.size_grow]; exact Nat.le_add_right _ _, fun i hi => ?_⟩
  show (w.heap ++ os)[i]? = w.heap[i]?
  rw [Array.getElem?_append_left hi]
/-- asm.of: an instruction's shape. -/
def AtOf (x : Ins) (w : World) (e : Ending) (w' : World) : Prop := e = .returned (.agg #[.int .i64 (shapeOf x).form, .int .i64 (shapeOf x).op, .bool (shapeOf x).u, .bool (shapeOf x).v]) ∧ Below w.heap.size w w'
set_option maxRecDepth 100000 in
theorem p_of (x : Ins) (w : World) : Calls Tryz.prog 55 #[insV x] w (AtOf x w) := by
  obtain ⟨f, u, v, a, b, c, op, im⟩ := x
  rw [insV_eq]
  have key : ∀ s, shapeOf ⟨f, u, v, a, b, c, op, im⟩ = s → Calls Tryz.prog 55 #[.agg #[.int .i64 f, .bool u, .bool v, .int .i64 a, .int .i64 b, .int .i64 c, .int .i64 op, .int .i64 im]] w (fun e w' => e = .returned (.agg #[.int .i64 s.form, .int .i64 s.op, .bool s.u, .bool s.v]) ∧ Below w.heap.size w w') := by
    intro s hs
    by_cases h3 : f = 3
    · subst h3
      simp [shapeOf] at hs
      subst hs
      go_enter Tryz.func55, Tryz.ntmps55
      go_wp2
      refine bodyPost_ret (v := .agg #[.int .i64 3, .int .i64 a, .bool false, .bool v]) (by simp [results, Tryz.results55, go_sem]) rfl ⟨rfl, ?_⟩
      exact bthen (ablow _ _) (ablow _ _)
    · by_cases h2 : f = 2
      · subst h2
        simp [shapeOf] at hs
        subst hs
        go_enter Tryz.func55, Tryz.ntmps55
        go_wp2
        refine bodyPost_ret (v := .agg #[.int .i64 2, .int .i64 0, .bool u, .bool v]) (by simp [results, Tryz.results55, go_sem]) rfl ⟨rfl, ?_⟩
        exact bthen (ablow _ _) (ablow _ _)
      · simp [shapeOf, h2, h3] at hs
        subst hs
        have e3 : (f == 3) = false := by simp [h3]
        have e2 : (f == 2) = false := by simp [h2]
        go_enter Tryz.func55, Tryz.ntmps55
        go_wp2
        refine bodyPost_ret (v := .agg #[.int .i64 0, .int .i64 op, .bool u, .bool v]) (by simp [results, Tryz.results55, go_sem]) rfl ⟨rfl, ?_⟩
        exact bthen (ablow _ _) (ablow _ _)
  exact key _ rfl
/-- A register's name. -/
theorem p_register (n : Int) (w : World) (h0 : 0 ≤ n) (h1 : n ≤ 15) : Calls Tryz.prog 56 #[.int .i64 n] w (Is (.string ⟨(regL n).toArray⟩) w) := by
  obtain ⟨m, rfl⟩ := Int.eq_ofNat_of_zero_le h0
  have hm : m < 100 := by omega
  have e : Lib.itoa (m : Int) = Lib.decDigits m := by rw [Lib.itoa, if_neg (by omega), Int.toNat_natCast]
  obtain ⟨S, hS⟩ : ∃ S : ByteArray, (⟨(Lib.decDigits m).toArray⟩ : ByteArray) = S := ⟨_, rfl⟩
  have hsz : S.size ≤ 20 := by rw [← hS, size_mk, ← e]; exact itoa_len (by omega) (by omega)
  have hcat : ¬ (9223372036854775807 < 1 + S.size) := by omega
  have hfin : (⟨#[82]⟩ : ByteArray) ++ S = ⟨(regL (m : Int)).toArray⟩ := str_of (by rw [← hS]; simp [ByteArray.data_append, regL, e])
  have HS := Lib.hid hS
  have HF := Lib.hid hfin
  clear hS hfin e
  go_enter Tryz.func56, Tryz.ntmps56
  go_wp2_with fail
  refine (Tryz.strconv_Itoa_small m hm _).mono ?_
  rintro e w1 ⟨rfl, rfl⟩
  rw [HS.out]
  go_wp2_with fail
  go_ret
  exact ⟨by rw [HF.out]; rfl, rfl⟩
/-- strconv.Itoa. -/
theorem p_itoa (n : Int) (w : World) (h0 : -2147483648 < n) (h1 : n < 2147483648) (hv : VarsA w) : Calls Tryz.prog 57 #[.int .i64 n] w (Gives (.string ⟨(Lib.itoa n).toArray⟩) w) := by
  refine (Tryz.strconv_Itoa n (by omega) (by omega) w hv.pow).mono ?_
  rintro e w1 ⟨rfl, dk, os, hw1⟩
  exact ⟨rfl, below_grow hw1⟩
end Go.Proofs.YtjjgjadfnongfaaGreatDoor
