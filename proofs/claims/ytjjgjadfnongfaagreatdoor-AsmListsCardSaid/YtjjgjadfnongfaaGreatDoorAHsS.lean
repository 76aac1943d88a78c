import Derived.Test.YtjjgjadfnongfaaGreatDoorARx
import Derived.Test.YtjjgjadfnongfaaGreatDoorAEi
set_option linter.unusedVariables false
set_option linter.unusedSimpArgs false
namespace Go.Proofs.YtjjgjadfnongfaaGreatDoor
/-! The reference's hash: plain. -/
def posH (c : UInt8) : Nat := if 48 ≤ c.toNat ∧ c.toNat ≤ 57 then c.toNat - 48 else if 97 ≤ c.toNat ∧ c.toNat ≤ 102 then c.toNat - 87 else 16
theorem pos_all : ∀ c : Fin 256, (posH (UInt8.ofNat c.1) < 16 → hexV (UInt8.ofNat c.1).toNat = some (posH (UInt8.ofNat c.1)) ∧ digL (posH (UInt8.ofNat c.1)) = UInt8.ofNat c.1) ∧ posH (UInt8.ofNat c.1) ≤ 16 := by decide +kernel
theorem pos_of (c : UInt8) : (posH c < 16 → hexV c.toNat = some (posH c) ∧ digL (posH c) = c) ∧ posH c ≤ 16 := by
  have := pos_all ⟨c.toNat, c.toNat_lt⟩
  have e : UInt8.ofNat c.toNat = c := by simp
  rw [e] at this
  exact this
theorem pos_dig : ∀ d : Fin 16, posH (digL d.1) = d.1 := by decide
theorem dig_iff (c : UInt8) (k : Nat) (hk : k < 16) : digL k = c ↔ posH c = k := by
  constructor
  · intro h; rw [← h]; exact pos_dig ⟨k, hk⟩
  · intro h; rw [← h]; exact ((pos_of c).1 (by omega)).2
def vH : List UInt8 → Nat → Option Nat
  | [], a => some a
  | c :: r, a => if posH c < 16 then vH r (a * 16 + posH c) else none
theorem vH_snoc (t : List UInt8) (c : UInt8) (a : Nat) : vH (t ++ [c]) a = (vH t a).bind fun W => if posH c < 16 then some (W * 16 + posH c) else none := by
  induction t generalizing a with
  | nil => simp [vH]
  | cons b t ih =>
    rw [List.cons_append]
    simp only [vH]
    split
    · rw [ih]
    · rfl
theorem vH_pu (t : List UInt8) (a W : Nat) (h : vH t a = some W) (ha : a < 16 ^ (8 - t.length)) (hl : t.length ≤ 8) : puV t a = some W := by
  induction t generalizing a with
  | nil => simpa [vH, puV] using h
  | cons c r ih =>
    simp only [vH] at h
    split at h
    · rename_i hc
      simp only [List.length_cons] at ha hl
      simp only [puV, ((pos_of c).1 hc).1]
      have e : 16 ^ (8 - r.length) = 16 ^ (8 - (r.length + 1)) * 16 := by
        rw [show 8 - r.length = 8 - (r.length + 1) + 1 by omega, Nat.pow_succ]
      have hb : a * 16 + posH c < 16 ^ (8 - r.length) := by rw [e]; omega
      have h8 : 16 ^ (8 - r.length) ≤ 16 ^ 8 := Nat.pow_le_pow_right (by omega) (by omega)
      rw [if_neg (by omega)]
      exact ih _ h hb (by omega)
    · cases h
theorem vH_hex (n : Nat) (t : List UInt8) (hn : t.length = n) (W : Nat) (h : vH t 0 = some W) : hexN n W = t ∧ W < 16 ^ n := by
  induction n generalizing t W with
  | zero =>
    have : t = [] := List.eq_nil_of_length_eq_zero hn
    subst this
    simp only [vH, Option.some.injEq] at h
    subst h
    exact ⟨rfl, by simp⟩
  | succ n ih =>
    obtain ⟨t', c, rfl⟩ : ∃ t' c, t = t' ++ [c] := by
      have hne : t ≠ [] := by intro e; subst e; simp at hn
      exact ⟨t.dropLast, t.getLast hne, (List.dropLast_concat_getLast hne).symm⟩
    rw [vH_snoc] at h
    cases hv : vH t' 0 with
    | none => rw [hv] at h; simp at h
    | some V =>
      rw [hv] at h
      simp only [Option.bind_some] at h
      split at h
      · rename_i hc
        simp only [Option.some.injEq] at h
        obtain ⟨h1, h2⟩ := ih t' (by simpa using hn) V hv
        subst h
        refine ⟨?_, ?_⟩
        · rw [hexN, show (V * 16 + posH c) / 16 = V by omega, show (V * 16 + posH c) % 16 = posH c by omega, h1, ((pos_of c).1 hc).2]
        · rw [Nat.pow_succ]; omega
      · cases h
theorem vH_of (n v : Nat) (h : v < 16 ^ n) : vH (hexN n v) 0 = some v := by
  induction n generalizing v with
  | zero =>
    have : v = 0 := by simpa using h
    subst this; rfl
  | succ n ih =>
    rw [hexN, vH_snoc, ih (v / 16) (by rw [Nat.pow_succ] at h; omega)]
    have hd := pos_dig ⟨v % 16, by omega⟩
    simp only at hd
    simp only [Option.bind_some, hd]
    rw [if_pos (by omega)]
    congr 1; omega
theorem puS_bound {t : List UInt8} {v : Nat} (h : puS t = some v) : v < 4294967296 := by
  unfold puS at h
  split at h
  · cases h
  · have key : ∀ (l : List UInt8) (acc u : Nat), acc ≤ 4294967295 → puV l acc = some u → u ≤ 4294967295 := by
      intro l
      induction l with
      | nil => intro acc u ha h; simp only [puV, Option.some.injEq] at h; omega
      | cons c l ih =>
        intro acc u ha h
        simp only [puV] at h
        split at h
        · cases h
        · split at h
          · cases h
          · exact ih _ _ (by omega) h
    have := key _ _ _ (by omega) h
    omega
theorem hash_len {s : List UInt8} (h : s.length ≠ 9) : hashS s = none := by
  unfold hashS
  split
  · rename_i v hv
    rw [if_neg]
    rintro ⟨-, h2⟩
    have := rawL_len v (puS_bound hv)
    rw [h2] at this
    exact h this
  · rfl
theorem hash_none {t : List UInt8} (ht : t.length = 8) (h : vH t 0 = none) : hashS (35 :: t) = none := by
  unfold hashS
  split
  · rename_i v hv
    rw [if_neg]
    rintro ⟨-, h2⟩
    have hb := puS_bound hv
    rw [rawL_hex v hb] at h2
    have h3 := (List.cons.inj h2).2
    have := vH_of 8 v (by simpa using hb)
    rw [h3, h] at this
    cases this
  · rfl
theorem hash_some {t : List UInt8} (ht : t.length = 8) {W : Nat} (h : vH t 0 = some W) : hashS (35 :: t) = if goodW (W : Int) = false then some W else none := by
  obtain ⟨h1, h2⟩ := vH_hex 8 t ht W h
  have hp : puS t = some W := by
    unfold puS
    rw [if_neg (by intro e; subst e; simp at ht)]
    exact vH_pu t 0 W h (Nat.pow_pos (by omega)) (by omega)
  have hr : rawL W = 35 :: t := by rw [rawL_hex W (by simpa using h2), h1]
  unfold hashS
  rw [show (35 :: t).drop 1 = t from rfl, hp]
  simp [hr]
end Go.Proofs.YtjjgjadfnongfaaGreatDoor
