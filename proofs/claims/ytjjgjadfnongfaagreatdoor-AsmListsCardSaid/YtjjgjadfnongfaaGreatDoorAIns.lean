import Derived.Lib.Strings
set_option linter.unusedVariables false
set_option linter.unusedSimpArgs false
namespace Go.Proofs.YtjjgjadfnongfaaGreatDoor
/-! The machine's instructions, over numbers. -/
structure Ins where
  form : Int
  u : Bool
  v : Bool
  a : Int
  b : Int
  c : Int
  op : Int
  im : Int
  deriving DecidableEq
def uOk (u : Bool) (op : Int) : Bool := !u || decide (op = 0) || (decide (8 ≤ op) && decide (op ≤ 10))
def nib (n : Int) : Bool := decide (0 ≤ n) && decide (n ≤ 15)
/-- Is it an instruction? -/
def goodI (x : Ins) : Bool :=
  nib x.a && nib x.b && nib x.c && (decide (0 ≤ x.op) && decide (x.op ≤ 11)) &&
  (if x.form = 0 then uOk x.u x.op && (!x.v || (x.u && decide (x.op = 0))) && decide (x.im = 0)
   else if x.form = 1 then uOk x.u x.op && decide (x.c = 0) && (decide (0 ≤ x.im) && decide (x.im ≤ 65535))
   else if x.form = 2 then decide (x.c = 0) && decide (x.op = 0) && (decide (-524288 ≤ x.im) && decide (x.im < 524288))
   else if x.form = 3 then decide (x.b = 0) && decide (x.op = 0) && (if x.u then decide (x.c = 0) && (decide (-8388608 ≤ x.im) && decide (x.im < 8388608)) else decide (x.im = 0))
   else false)
def bitN (b : Bool) (n : Int) : Int := if b then n else 0
/-- Its word. -/
def encI (x : Ins) : Int :=
  x.form * 1073741824 + bitN x.u 536870912 + bitN x.v 268435456 + x.a * 16777216 +
  (if x.form = 3 then x.c + x.im % 16777216
   else x.b * 1048576 + (if x.form = 2 then x.im % 1048576 else x.op * 65536 + x.c + x.im))
def sext (n m : Int) : Int := if n < m / 2 then n else n - m
/-- What a word would be as an instruction. -/
def insOf (w : Int) : Ins :=
  let f := w / 1073741824
  let u := decide (w / 536870912 % 2 = 1)
  { form := f, u := u, v := decide (w / 268435456 % 2 = 1), a := w / 16777216 % 16,
    b := if f = 3 then 0 else w / 1048576 % 16,
    op := if f = 0 ∨ f = 1 then w / 65536 % 16 else 0,
    c := if f = 0 ∨ (f = 3 ∧ u = false) then w % 16 else 0,
    im := if f = 1 then w % 65536 else if f = 2 then sext (w % 1048576) 1048576 else if f = 3 ∧ u = true then sext (w % 16777216) 16777216 else 0 }
/-- Is a word an instruction? -/
def goodW (w : Int) : Bool := goodI (insOf w) && decide (encI (insOf w) = w)
def zeroI : Ins := ⟨0, false, false, 0, 0, 0, 0, 0⟩
/-- The instruction of a word, and an error's number. -/
def decW (w : Int) : Ins × Int := if goodW w then (insOf w, 0) else (zeroI, 20)
def encW (x : Ins) : Int × Int := if goodI x then (encI x, 0) else (0, 20)
theorem encI_range {x : Ins} (h : goodI x = true) : 0 ≤ encI x ∧ encI x ≤ 4294967295 := by
  obtain ⟨f, u, v, a, b, c, op, im⟩ := x
  simp only [goodI, nib, Bool.and_eq_true, decide_eq_true_eq] at h
  obtain ⟨⟨⟨⟨⟨ha0, ha1⟩, hb0, hb1⟩, hc0, hc1⟩, ho0, ho1⟩, h⟩ := h
  have hu : 0 ≤ bitN u 536870912 ∧ bitN u 536870912 ≤ 536870912 := by cases u <;> simp [bitN]
  have hv : 0 ≤ bitN v 268435456 ∧ bitN v 268435456 ≤ 268435456 := by cases v <;> simp [bitN]
  simp only [encI]
  split at h
  · rename_i e
    subst e
    simp only [Bool.and_eq_true, decide_eq_true_eq] at h
    simp
    omega
  · split at h
    · rename_i e
      subst e
      simp only [Bool.and_eq_true, decide_eq_true_eq] at h
      simp
      omega
    · split at h
      · rename_i e
        subst e
        simp only [Bool.and_eq_true, decide_eq_true_eq] at h
        simp
        omega
      · split at h
        · rename_i e
          subst e
          simp only [Bool.and_eq_true, decide_eq_true_eq] at h
          simp
          have hi : c + im % 16777216 ≤ 16777230 := by omega
          cases u <;> simp at h <;> omega
        · cases h
end Go.Proofs.YtjjgjadfnongfaaGreatDoor
