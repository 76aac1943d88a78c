import Derived.Test.YtjjgjadfnongfaaGreatDoorABase
import Derived.Test.YtjjgjadfnongfaaGreatDoorAWordP
import Derived.Test.YtjjgjadfnongfaaGreatDoorAnyW
import Derived.Test.YtjjgjadfnongfaaGreatDoorABlk
import Derived.DeepKeys4
import Derived.Maps.AppendAt
set_option linter.unusedVariables false
set_option linter.unusedSimpArgs false
namespace Go.Proofs.YtjjgjadfnongfaaGreatDoor
open Go.RowKit Go.Maps Go.MapKept Go.ChangeMaps
/-! The namer's maps, entry by entry. -/
def shpC (k : Shp) : List Value := [.int .i64 k.form, .int .i64 k.op, .bool k.u, .bool k.v]
def shpV (k : Shp) : Value := .agg (shpC k).toArray
def strV (s : List UInt8) : Value := .string ⟨s.toArray⟩
/-- The entries of a map of these keys, each with its place. -/
def entsOf (l : List Value) : Array MapEntry := (l.zipIdx.map fun p => (⟨p.1, .int .i64 p.2, p.2⟩ : MapEntry)).toArray
theorem entsOf_snoc (l : List Value) (x : Value) : entsOf (l ++ [x]) = (entsOf l).push ⟨x, .int .i64 l.length, l.length⟩ := by
  simp [entsOf, List.zipIdx_append]
theorem entsOf_size (l : List Value) : (entsOf l).size = l.length := by simp [entsOf]
theorem entsOf_get (l : List Value) (i : Nat) (h : i < l.length) : (entsOf l)[i]? = some ⟨l[i], .int .i64 i, i⟩ := by
  simp [entsOf, h]
theorem entsOf_mem {l : List Value} {e : MapEntry} (h : e ∈ (entsOf l).toList) : ∃ i : Nat, ∃ h : i < l.length, e = ⟨l[i], .int .i64 i, i⟩ := by
  obtain ⟨i, hi⟩ := List.getElem?_of_mem h
  have hlt : i < l.length := by
    have := (List.getElem?_eq_some_iff.1 hi).1
    simpa [entsOf] using this
  refine ⟨i, hlt, ?_⟩
  have := entsOf_get l i hlt
  rw [← Array.getElem?_toList, hi] at this
  exact Option.some.inj this
section
variable {P : Program} {w : World} {b clock : Nat} {t k el : TypeId} {es : Array MapEntry}
theorem setBlock_at {o o' : Obj} (h : w.heap[b]? = some o') : (setBlock w b o).heap[b]? = some o := by
  have := (Array.getElem?_eq_some_iff.1 h).1
  simp [setBlock, this]
theorem setBlock_far {o : Obj} {c : Nat} (h : c ≠ b) : (setBlock w b o).heap[c]? = w.heap[c]? := by
  simp only [setBlock]
  rw [Array.getElem?_setIfInBounds_ne (fun e => h e.symm)]
theorem setBlock_size {o : Obj} : (setBlock w b o).heap.size = w.heap.size := by simp [setBlock]
theorem setBlock_below {B : Nat} {o : Obj} (h : B ≤ b) : Below B w (setBlock w b o) :=
  ⟨rfl, rfl, rfl, by simp [setBlock], fun c hc => setBlock_far (by omega)⟩
/-- A new key's entry. -/
theorem run_entry_new (K : Keyed P k) (ht : P.underlying t = some (.map k el)) {z : Value} (hz : ∀ u : World, (zeroValue el).run P u = .ok z u) (hb : w.heap[b]? = some (.map es clock))
    {key : Value} {kl : Lit} (hkey : keyOf P k key = some kl) (hes : ∀ e ∈ es.toList, ∃ l, keyOf P k e.key = some l) (hnew : ∀ e ∈ es.toList, e.key ≠ key) :
    (Instr.mapEntry t (.map (some b)) key).run P w = .ok (.tuple #[z, goInt clock]) (setBlock w b (.map (es.push ⟨key, z, clock⟩) (clock + 1))) := by
  rcases K.find w hkey es.toList hes with ⟨h1, h2⟩ | ⟨j, e0, h1, h2, h3⟩
  · simp [Instr.mapEntry, run_underlying ht, MapKept.run_getObj_map hb, K.check w false hkey, h1, hz, MapKept.run_setObj_map _ hb, Result.andThen, setBlock]
  · exact absurd h3 (hnew e0 (List.mem_of_getElem? h2))
/-- Its value. -/
theorem run_store_new {key z val : Value} (hb : w.heap[b]? = some (.map (es.push ⟨key, z, clock⟩) (clock + 1))) (hborn : ∀ e ∈ es.toList, e.born < clock) :
    (Instr.entryStore t (.map (some b)) (goInt clock) val).run P w = .ok () (setBlock w b (.map (es.push ⟨key, val, clock⟩) (clock + 1))) := by
  have hidx : (es.push ⟨key, z, clock⟩).findIdx? (fun e => ((e.born : Nat) : Int) == ((clock : Nat) : Int)) = some es.size := by
    rw [Array.findIdx?_push]
    have : es.findIdx? (fun e => ((e.born : Nat) : Int) == ((clock : Nat) : Int)) = none := by
      rw [Array.findIdx?_eq_none_iff]
      intro e he
      have := hborn e (by simpa using he)
      simp; omega
    rw [this]
    simp
  have hmod : (es.push ⟨key, z, clock⟩).modify es.size (fun e => { e with val := val }) = es.push ⟨key, val, clock⟩ := by
    apply Array.ext
    · simp
    · intro i h1 h2
      rw [Array.getElem_modify]
      simp only [Array.size_push] at h2
      by_cases e : es.size = i
      · subst e; simp
      · rw [if_neg e, Array.getElem_push_lt (by omega), Array.getElem_push_lt (by omega)]
  simp [Instr.entryStore, MapKept.run_getObj_map hb, asInt, asIntOf, goInt, hidx, hmod, MapKept.run_setObj_map _ hb, Result.andThen, setBlock]
end
/-! ### the tables -/
def keysS (T : List (Shp × List UInt8)) : List Value := T.map fun p => shpV p.1
def keysN (T : List (Shp × List UInt8)) : List Value := T.map fun p => strV p.2
theorem shpV_inj {a b : Shp} (h : shpV a = shpV b) : a = b := by
  obtain ⟨f, o, u, v⟩ := a
  obtain ⟨f', o', u', v'⟩ := b
  simp only [shpV, shpC, Value.agg.injEq, List.toArray_inj, List.cons.injEq, Value.int.injEq, Value.bool.injEq, true_and, and_true] at h
  obtain ⟨rfl, rfl, rfl, rfl⟩ := h
  rfl
theorem strV_inj {a b : List UInt8} (h : strV a = strV b) : a = b := by
  simp only [strV, Value.string.injEq, ByteArray.mk.injEq] at h
  have := congrArg Array.toList h
  exact this
theorem table_len : tableP.length = 84 := by decide +kernel
theorem table_nodupS : (tableP.map (·.1)).Nodup := by decide +kernel
theorem table_nodupN : (tableP.map (·.2)).Nodup := by decide +kernel
theorem table_short : ∀ p ∈ tableP, p.2.length ≤ 5 := by decide +kernel
theorem nin_take {α : Type} [DecidableEq α] {l : List α} (h : l.Nodup) {i : Nat} {x : α} (hx : l[i]? = some x) : x ∉ l.take i := by
  intro hm
  obtain ⟨j, hj⟩ := List.getElem?_of_mem hm
  rw [List.getElem?_take] at hj
  split at hj
  · rename_i hlt
    have h1 := (List.getElem?_eq_some_iff.1 hx)
    have h2 := (List.getElem?_eq_some_iff.1 hj)
    have := (List.getElem_inj (h₀ := h1.1) (h₁ := h2.1) h).1 (h1.2.trans h2.2.symm)
    omega
  · cases hj
theorem law_shape : Keyed Tryz.prog 74 := Keyed.of_law (deep_law_laid (by kernel_rfl) (m := 2) (by omega) (Nat.le_of_ble_eq_true (by kernel_rfl)) (by kernel_rfl) (by kernel_rfl))
theorem keyed_all : (tableP.all fun p => (keyOf Tryz.prog 74 (shpV p.1)).isSome) = true := by kernel_rfl
theorem keyed_shape {p : Shp × List UInt8} (h : p ∈ tableP) : ∃ l, keyOf Tryz.prog 74 (shpV p.1) = some l :=
  Option.isSome_iff_exists.1 (List.all_eq_true.1 keyed_all p h)
theorem keyed_str (s : List UInt8) (h : s.length ≤ 1000) : keyOf Tryz.prog 9 (strV s) = some (.string s) := by
  have := WideMaps.keyOf_string_mk (P := Tryz.prog) (k := 9) (s := ⟨s.toArray⟩) Tryz.underlying9 (by show s.toArray.size ≤ maxLen; unfold maxLen; simp; omega)
  exact this
end Go.Proofs.YtjjgjadfnongfaaGreatDoor
