import Derived.Test.YtkieeaajhomdoaaDoorLib
set_option linter.unusedVariables false
set_option linter.unusedSimpArgs false
namespace Go.Proofs.YtkieeaajhomdoaaDoor
open Go.RowKit
theorem zero108 : Tryd.zeroCells108 = tabA (fun _ => false) := by kernel_rfl
def inR (rs : List (UInt8 × UInt8)) (c : Nat) : Bool := rs.any fun r => decide (r.1.toNat ≤ c) && decide (c ≤ r.2.toNat)
def rstr (r : UInt8 × UInt8) : Value := .string ⟨#[r.1, r.2]⟩
/-- A table in memory. -/
def IsTab (w : World) (v : Value) (f : Nat → Bool) : Prop := ∃ b, v = .pointer (some ⟨b, 0, none⟩) ∧ w.heap[b]? = some (.cells (tabA f) 108 (0, 0))
theorem tab_step (a : Bool) (lo hi m c : Nat) (h0 : lo ≤ m) (h1 : m ≤ hi) : (a || (decide (lo ≤ c) && decide (c ≤ hi) && decide (c < m)) || decide (c = m)) = (a || (decide (lo ≤ c) && decide (c ≤ hi) && decide (c < m + 1))) := by
  cases a
  · by_cases e : c = m
    · subst e; simp [h0, h1]
    · have : c < m ↔ c < m + 1 := by omega
      simp [e, this]
  · simp
def AtOf (w : World) (rs : List (UInt8 × UInt8)) (e : Ending) (w' : World) : Prop :=
  ∃ v, e = .returned v ∧ IsTab w' v (inR rs) ∧ Below w.heap.size w w'
set_option maxRecDepth 100000 in
set_option maxHeartbeats 800000 in
theorem of_any (g : Nat) (rs : List (UInt8 × UInt8)) (w : World) (hn : rs.length ≤ 1000) (hg : ∀ i, (h : i < rs.length) → w.cell? ⟨g, i, none⟩ = some (rstr rs[i])) :
    Calls Tryd.prog 38 #[.slice (some ⟨g, 0, none⟩) rs.length rs.length] w (AtOf w rs) := by
  have HG := Lib.hid hg
  clear hg
  go_enter Tryd.func38, Tryd.ntmps38
  go_wp2
  go_loopw [9] (fun i wr => ∃ k : Nat, k ≤ rs.length ∧ i = .int .i64 k ∧ wr.heap[w.heap.size]? = some (.cells (tabA (inR (rs.take k))) 108 (0, 0)) ∧ Below w.heap.size w wr) (fun i _ => rs.length - (intOf i).toNat)
  case atStart => exact ⟨0, Nat.zero_le _, rfl, by rw [alloc_block, zero108]; exact congrArg _ (congrArg (fun x => Obj.cells x _ _) (tabA_congr (by simp [inR]))), (Below.refl _ _).alloc (Nat.le_refl _) _⟩
  case round =>
    obtain ⟨k, hk, rfl, hb, hB⟩ := hrel
    have HB := Lib.hid hb
    clear hb
    by_cases hlt : k < rs.length
    · obtain ⟨s, hse, z1, z3, e0, e1⟩ : ∃ s : ByteArray, rstr rs[k] = .string s ∧ ∃ (h : 1 < s.size) (h' : 0 < s.size), s[0] = rs[k].1 ∧ s[1] = rs[k].2 := ⟨⟨#[rs[k].1, rs[k].2]⟩, rfl, (by decide : 1 < 2), (by decide : 0 < 2), rfl, rfl⟩
      have hcell : wr.cell? ⟨g, k, none⟩ = some (.string s) := by
        have := HG.out k hlt
        rw [hse] at this
        rw [hB.cell (World.block_lt_of_cell? w _ this)]; exact this
      have E0 := Lib.hid e0
      have E1 := Lib.hid e1
      have HS := Lib.hid hse
      have b0 : ((s[0].toNat : Nat) : Int) < 256 := by have := UInt8.toNat_lt s[0]; omega
      have b1 : ((s[1].toNat : Nat) : Int) < 256 := by have := UInt8.toNat_lt s[1]; omega
      have z2 : (1 : Int) < s.size := by omega
      have z4 : (0 : Int) < s.size := by omega
      clear e0 e1 hse
      go_wp2
      obtain ⟨wo, rfl⟩ : ∃ wo : World, wo = wr := ⟨_, rfl⟩
      go_loopw [6] (fun c wi => ∃ m : Nat, c = .int .i64 m ∧ (m ≤ 256) ∧ s[0].toNat ≤ m ∧ wi.heap[w.heap.size]? = some (.cells (tabA (fun c => inR (rs.take k) c || (decide (s[0].toNat ≤ c) && decide (c ≤ s[1].toNat) && decide (c < m)))) 108 (0, 0)) ∧ Below w.heap.size w wi) (fun c _ => 256 - (intOf c).toNat)
      case atStart =>
        refine ⟨s[0].toNat, rfl, by omega, by omega, ?_, hB⟩
        rw [HB.out]
        refine congrArg _ (congrArg (fun x => Obj.cells x _ _) (tabA_congr fun c => ?_))
        rw [show (decide (s[0].toNat ≤ c) && decide (c ≤ s[1].toNat) && decide (c < s[0].toNat)) = false by simp; omega]
        simp
      case round =>
        obtain ⟨m, rfl, hm, hlo, hb2, hB2⟩ := hrel
        have HB2 := Lib.hid hb2
        clear hb2
        by_cases hle : m ≤ s[1].toNat
        · have hmb : m < 256 := by omega
          have hcl : wr.cell? ⟨w.heap.size, m, none⟩ = some (.bool (inR (rs.take k) m || (decide (s[0].toNat ≤ m) && decide (m ≤ s[1].toNat) && decide (m < m)))) := by
            rw [cell_of_block HB2.out, tabA_get _ _ hmb]
          have hfz : wr.frozen? ⟨w.heap.size, m, none⟩ = false := frozen_of_block HB2.out m
          go_wp2
          go_roundw
          case rel =>
            refine ⟨m + 1, by go_num, by omega, by omega, ?_, hB2.setCell (Nat.le_refl _) _⟩
            rw [setCell_block HB2.out, tabA_set _ _ hmb]
            exact congrArg _ (congrArg (fun x => Obj.cells x _ _) (tabA_congr fun c => tab_step _ _ _ _ _ hlo hle))
          case measure => simp [intOf]; omega
        · go_wp2
          go_roundw
          case rel =>
            refine ⟨k + 1, by omega, by go_num, ?_, hB2⟩
            rw [HB2.out]
            refine congrArg _ (congrArg (fun x => Obj.cells x _ _) (tabA_congr fun c => ?_))
            have q0 := E0.out
            have q1 := E1.out
            rw [List.take_succ_eq_append_getElem hlt]
            simp only [inR, List.any_append, List.any_cons, List.any_nil, Bool.or_false, ← q0, ← q1]
            congr 1
            by_cases h1 : c ≤ s[1].toNat
            · have : c < m := by omega
              simp [this]
            · simp [h1]
          case measure => simp [intOf]; omega
    · go_wp2
      go_ret
      refine ⟨_, rfl, ⟨_, rfl, ?_⟩, hB⟩
      have := HB.out
      rwa [List.take_of_length_le (by omega)] at this
end Go.Proofs.YtkieeaajhomdoaaDoor
