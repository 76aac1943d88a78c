import Derived.Test.YtjjgjadfnongfaaGreatDoorProg
import Derived.Test.YtjjgjadfnongfaaGreatDoorShelfA
import Derived.WalkKit
import Derived.Deep.QuietTactic
import Derived.BigQuiet
import Derived.BigRegion
import Derived.Deep.LoopGhost
import Derived.Deep.RegionWith
import Derived.Lib.Hide
import Derived.WalkSpells
import Derived.WalkLawsBesides
import Derived.KernelRfl
import Derived.WalkSmall
import Derived.Maps.Own
import Derived.Maps.OwnOps
import Derived.Maps.Views
import Derived.Lib.SmallJoins
set_option linter.unusedVariables false
set_option linter.unusedSimpArgs false
namespace Go.Proofs.YtjjgjadfnongfaaGreatDoor
open Go.RowKit Go.Maps Go.MapKept

/-! ### bytes -/
theorem extract_mk (s : ByteArray) (a b : Nat) : s.extract a b = ⟨((s.data.toList.drop a).take (b - a)).toArray⟩ := by
  apply ByteArray.ext
  apply Array.ext'
  rw [ByteArray.data_extract]
  simp [List.extract_eq_take_drop]
theorem extract_list (s : ByteArray) (a b : Nat) : (s.extract a b).data.toList = (s.data.toList.drop a).take (b - a) := by
  rw [extract_mk]
theorem extract_toList (s : ByteArray) (a b : Nat) : (s.extract a b).toList = (s.data.toList.drop a).take (b - a) := by
  rw [ByteArray.toList_eq, extract_list]
theorem len_list (s : ByteArray) : s.data.toList.length = s.size := Array.length_toList
theorem get_list (s : ByteArray) (k : Nat) (h : k < s.size) : s.data.toList[k]'(by rw [len_list]; exact h) = s[k] := rfl
theorem drop_cons (s : ByteArray) (k : Nat) (h : k < s.size) : s.data.toList.drop k = s[k] :: s.data.toList.drop (k + 1) := by
  rw [List.drop_eq_getElem_cons (by rw [len_list]; exact h), get_list _ _ h]
theorem drop_nil (s : ByteArray) (k : Nat) (h : s.size ≤ k) : s.data.toList.drop k = [] := List.drop_of_length_le (by rw [len_list]; exact h)
theorem take_snoc (s : ByteArray) (k : Nat) (h : k < s.size) : s.data.toList.take (k + 1) = s.data.toList.take k ++ [s[k]] := by
  rw [List.take_succ_eq_append_getElem (by simpa using h)]; rfl
theorem mk_list (s : ByteArray) : (⟨s.data.toList.toArray⟩ : ByteArray) = s := rfl

/-! ### worlds -/
theorem cell_of_block {w : World} {b : Nat} {cs : Array Value} {T : TypeId} {fz : Nat × Nat} (h : w.heap[b]? = some (.cells cs T fz)) (c : Nat) : w.cell? ⟨b, c, none⟩ = cs[c]? := by
  simp [World.cell?, h]
theorem frozen_of_block {w : World} {b : Nat} {cs : Array Value} {T : TypeId} (h : w.heap[b]? = some (.cells cs T (0, 0))) (c : Nat) : w.frozen? ⟨b, c, none⟩ = false := by
  simp [World.frozen?, h]
theorem setCell_block {w : World} {b : Nat} {cs : Array Value} {T : TypeId} {fz : Nat × Nat} (h : w.heap[b]? = some (.cells cs T fz)) (c : Nat) (v : Value) :
    (w.setCell ⟨b, c, none⟩ v).heap[b]? = some (.cells (cs.setIfInBounds c v) T fz) := by
  simp [World.setCell, Array.getElem?_modify, h]
theorem alloc_block (w : World) (o : Obj) : (w.alloc o).heap[w.heap.size]? = some o := by
  show (w.heap.push o)[w.heap.size]? = _
  simp
theorem alloc_old {w : World} {o o' : Obj} {b : Nat} (h : w.heap[b]? = some o) : (w.alloc o').heap[b]? = some o := by
  rw [Below.heap_alloc _ _ _ (Array.getElem?_eq_some_iff.1 h).1]; exact h
theorem below_block {w w' : World} {B b : Nat} {o : Obj} (hb : Below B w w') (hB : b < B) (h : w.heap[b]? = some o) : w'.heap[b]? = some o := (hb.block b hB).trans h
theorem block_lt {w : World} {b : Nat} {o : Obj} (h : w.heap[b]? = some o) : b < w.heap.size := (Array.getElem?_eq_some_iff.1 h).1
theorem bthen {w w1 w2 : World} (h : Below w.heap.size w w1) (k : Below w1.heap.size w1 w2) : Below w.heap.size w w2 := h.trans (k.mono h.size)
theorem bcell {W w1 : World} (hb : Below W.heap.size W w1) : (∀ b o, b < W.heap.size → w1.cell? ⟨b, o, none⟩ = W.cell? ⟨b, o, none⟩) ∧ (∀ b o, b < W.heap.size → w1.frozen? ⟨b, o, none⟩ = W.frozen? ⟨b, o, none⟩) :=
  ⟨fun b o h => hb.cell (p := ⟨b, o, none⟩) h, fun b o h => hb.frozen (p := ⟨b, o, none⟩) h⟩
theorem bdrew (B : Nat) (w : World) (n : Nat) : Below B w (w.drewN n) := ⟨rfl, rfl, rfl, Nat.le_refl _, fun _ _ => rfl⟩
theorem grownBy_block {w w' : World} {row : Option Nat} {b : Nat} {o : Obj} (hg : w.grownBy w' row) (h : w.heap[b]? = some o) (hne : some b ≠ row) : w'.heap[b]? = some o :=
  (hg.block b (block_lt h) hne).trans h
/-- A fact that the walk doesn't look into. -/
structure Aside (p : Prop) : Prop where mk :: (out : p)
/-- What a function that only looks comes to. -/
def Is (v : Value) (w : World) (e : Ending) (w' : World) : Prop := e = .returned v ∧ w' = w
/-- What a function that only computes comes to: a value, and nothing that was there has turned. -/
def Gives (v : Value) (w : World) (e : Ending) (w' : World) : Prop := e = .returned v ∧ Below w.heap.size w w'
theorem ret_bool {a b : Bool} (h : a = b) : Ending.returned (.bool a) = .returned (.bool b) := by rw [h]
theorem ret_int {a b : Int} (h : a = b) : Ending.returned (.int .i64 a) = .returned (.int .i64 b) := by rw [h]
theorem law_string : Keyed Tryz.prog 9 := string_keyed Tryz.underlying9
/-- A row of texts. -/
def textsRow (l : List (List UInt8)) : Array Value := (l.map fun l => Value.string ⟨l.toArray⟩).toArray
theorem textsRow_get (l : List (List UInt8)) (i : Nat) (h : i < l.length) : (textsRow l)[i]? = some (.string ⟨l[i].toArray⟩) := by
  simp [textsRow, h]
def AtFields (l : List (List UInt8)) (n : Nat) (w : World) (e : Ending) (w' : World) : Prop := e = .returned (.slice (some ⟨w.heap.size, 0, none⟩) n n) ∧ w' = w.alloc (.cells (textsRow l) 9)
set_option maxRecDepth 100000 in
theorem fields_any (s : List UInt8) (l : List (List UInt8)) (hl : Lib.fields s = l) (n : Nat) (hn : l.length = n) (hs : s.length < 1000) (ha : ∀ b ∈ s, b.toNat < 128) (w : World) (htab : Lib.TabIs Tryz.prog w "strings.asciiSpace" .u8 Lib.asciiSpaceTab) :
    Calls Tryz.prog 34 #[.string ⟨s.toArray⟩] w (AtFields l n w) := by
  refine (Tryz.strings_Fields _ w (by show s.toArray.size < _; simp; omega) ?_ htab).mono ?_
  · intro j b hb
    exact ha b (List.mem_of_getElem? (by simpa using hb))
  · rintro e w' ⟨rfl, rfl⟩
    have e1 : Lib.fields (⟨s.toArray⟩ : ByteArray).data.toList = l := hl
    exact ⟨by rw [e1, hn], by rw [e1]; rfl⟩
/-- What is asked of the library's own variables. -/
structure VarsA (w : World) : Prop where
  space : Lib.TabIs Tryz.prog w "strings.asciiSpace" .u8 Lib.asciiSpaceTab
  range : ∃ ev, w.cell? ⟨4, 0, none⟩ = some ev ∧ (ev = .nilIface ∨ ∃ te pe, ev = .iface te pe)
  syn : ∃ ev, w.cell? ⟨3, 0, none⟩ = some ev ∧ (ev = .nilIface ∨ ∃ te pe, ev = .iface te pe)
  pow : Lib.TabIs Tryz.prog w "internal/strconv.uint64pow10" .u64 Lib.pow10Tab
  most : ∃ m, w.cell? ⟨1, 0, none⟩ = some (.int .i64 m)
theorem VarsA.stays {w w' : World} (h : VarsA w) (hb : Below w.heap.size w w') : VarsA w' :=
  ⟨Joins.tab_stays (g := 0) (by kernel_rfl) h.space hb (Nat.le_refl _), by
    obtain ⟨ev, h1, h2⟩ := h.range
    exact ⟨ev, (hb.cell (World.block_lt_of_cell? w _ h1)).trans h1, h2⟩, by
    obtain ⟨ev, h1, h2⟩ := h.syn
    exact ⟨ev, (hb.cell (World.block_lt_of_cell? w _ h1)).trans h1, h2⟩, Joins.tab_stays (g := 5) (by kernel_rfl) h.pow hb (Nat.le_refl _), by
    obtain ⟨m, h1⟩ := h.most
    exact ⟨m, (hb.cell (World.block_lt_of_cell? w _ h1)).trans h1⟩⟩
end Go.Proofs.YtjjgjadfnongfaaGreatDoor
