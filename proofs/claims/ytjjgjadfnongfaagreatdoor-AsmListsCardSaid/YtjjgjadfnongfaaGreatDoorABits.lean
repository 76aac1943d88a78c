import Derived.Test.YtjjgjadfnongfaaGreatDoorAIns
import Derived.Laws.BitsAllLaws
set_option linter.unusedVariables false
set_option linter.unusedSimpArgs false
namespace Go.Proofs.YtjjgjadfnongfaaGreatDoor
theorem u32_low (x : Int) (k : Nat) (hk : k ≤ 31) (h0 : 0 ≤ x) (h1 : x ≤ 4294967295) : bits .and .u32 x ((2 ^ k - 1 : Nat) : Int) = x % ((2 ^ k : Nat) : Int) := by
  have hp : 2 ^ k ≤ 2 ^ 31 := Nat.pow_le_pow_right (by omega) hk
  have hq : 0 < 2 ^ k := Nat.pow_pos (by omega)
  have e31 : (2 : Nat) ^ 31 = 2147483648 := rfl
  obtain ⟨n, rfl⟩ := Int.eq_ofNat_of_zero_le h0
  rw [u32_and _ _ h0 (by omega) (by omega) (by omega)]
  rw [Int.toNat_natCast, Int.toNat_natCast, Nat.and_two_pow_sub_one_eq_mod]
  omega
theorem u32_and15 (x : Int) (h0 : 0 ≤ x) (h1 : x ≤ 4294967295) : bits .and .u32 x 15 = x % 16 := u32_low x 4 (by omega) h0 h1
theorem u32_and1 (x : Int) (h0 : 0 ≤ x) (h1 : x ≤ 4294967295) : bits .and .u32 x 1 = x % 2 := u32_low x 1 (by omega) h0 h1
theorem u32_and24 (x : Int) (h0 : 0 ≤ x) (h1 : x ≤ 4294967295) : bits .and .u32 x 16777215 = x % 16777216 := u32_low x 24 (by omega) h0 h1
theorem u32_and20 (x : Int) (h0 : 0 ≤ x) (h1 : x ≤ 4294967295) : bits .and .u32 x 1048575 = x % 1048576 := u32_low x 20 (by omega) h0 h1
/-- Numbers that have no bit in common. -/
theorem u32_plus (x y : Int) (k : Nat) (hk : k ≤ 32) (hx : x % ((2 ^ k : Nat) : Int) = 0) (h0 : 0 ≤ x) (h1 : x ≤ 4294967295) (h2 : 0 ≤ y) (h3 : y < ((2 ^ k : Nat) : Int)) : bits .or .u32 x y = x + y := by
  have hp : 2 ^ k ≤ 2 ^ 32 := Nat.pow_le_pow_right (by omega) hk
  have e32 : (2 : Nat) ^ 32 = 4294967296 := rfl
  have hq : 0 < 2 ^ k := Nat.pow_pos (by omega)
  obtain ⟨n, rfl⟩ := Int.eq_ofNat_of_zero_le h0
  obtain ⟨m, rfl⟩ := Int.eq_ofNat_of_zero_le h2
  rw [u32_or _ _ h0 (by omega) h2 (by omega), Int.toNat_natCast, Int.toNat_natCast]
  have hd : 2 ^ k ∣ n := by
    have : ((2 ^ k : Nat) : Int) ∣ (n : Int) := Int.dvd_of_emod_eq_zero hx
    exact Int.natCast_dvd_natCast.1 this
  obtain ⟨q, rfl⟩ := hd
  have := Nat.two_pow_add_eq_or_of_lt (i := k) (b := m) (by omega) q
  rw [← this]
  omega
theorem u32_zero (x : Int) (h0 : 0 ≤ x) (h1 : x ≤ 4294967295) : bits .or .u32 x 0 = x := by
  have := u32_plus x 0 0 (by omega) (by simp) h0 h1 (by omega) (by decide)
  rw [this]; omega
def bitK (b : Bool) (n : Int) : Int := if n = 29 then bitN b 536870912 else bitN b 268435456
theorem bitN_cases (b : Bool) (n : Int) : bitN b n = 0 ∨ bitN b n = n := by cases b <;> simp [bitN]
def topI (F : Int) (u v : Bool) (a : Int) : Int := F + bitN u 536870912 + bitN v 268435456 + a * 16777216
theorem topI_facts {F : Int} {u v : Bool} {a : Int} (hF : F = 0 ∨ F = 1073741824 ∨ F = 2147483648 ∨ F = 3221225472) (h0 : 0 ≤ a) (h1 : a ≤ 15) : topI F u v a % 16777216 = 0 ∧ 0 ≤ topI F u v a ∧ topI F u v a ≤ 4278190080 := by
  unfold topI
  rcases bitN_cases u 536870912 with hu | hu <;> rcases bitN_cases v 268435456 with hv | hv <;> rw [hu, hv] <;> rcases hF with rfl | rfl | rfl | rfl <;> omega
theorem or_top (F : Int) (u v : Bool) (a : Int) (hF : F = 0 ∨ F = 1073741824 ∨ F = 2147483648 ∨ F = 3221225472) (h0 : 0 ≤ a) (h1 : a ≤ 15) :
    bits .or .u32 (bits .or .u32 (bits .or .u32 F (bitK u 29)) (bitK v 28)) (a % 4294967296 * 16777216 % 4294967296) = topI F u v a := by
  have e29 : bitK u 29 = bitN u 536870912 := rfl
  have e28 : bitK v 28 = bitN v 268435456 := rfl
  have ea : a % 4294967296 * 16777216 % 4294967296 = a * 16777216 := by omega
  rw [e29, e28, ea]
  have hu := bitN_cases u 536870912
  have hv := bitN_cases v 268435456
  have p30 : ((2 ^ 30 : Nat) : Int) = 1073741824 := rfl
  have p29 : ((2 ^ 29 : Nat) : Int) = 536870912 := rfl
  have p28 : ((2 ^ 28 : Nat) : Int) = 268435456 := rfl
  rw [u32_plus F (bitN u 536870912) 30 (by omega) (by rw [p30]; rcases hF with rfl | rfl | rfl | rfl <;> rfl) (by rcases hF with rfl | rfl | rfl | rfl <;> omega) (by rcases hF with rfl | rfl | rfl | rfl <;> omega) (by omega) (by rw [p30]; omega)]
  rw [u32_plus (F + bitN u 536870912) (bitN v 268435456) 29 (by omega) (by rw [p29]; rcases hF with rfl | rfl | rfl | rfl <;> omega) (by rcases hF with rfl | rfl | rfl | rfl <;> omega) (by rcases hF with rfl | rfl | rfl | rfl <;> omega) (by omega) (by rw [p29]; omega)]
  rw [u32_plus (F + bitN u 536870912 + bitN v 268435456) (a * 16777216) 28 (by omega) (by rw [p28]; rcases hF with rfl | rfl | rfl | rfl <;> omega) (by rcases hF with rfl | rfl | rfl | rfl <;> omega) (by rcases hF with rfl | rfl | rfl | rfl <;> omega) (by omega) (by rw [p28]; omega)]
  rfl
theorem p24 : ((2 ^ 24 : Nat) : Int) = 16777216 := rfl
theorem p20 : ((2 ^ 20 : Nat) : Int) = 1048576 := rfl
theorem p16 : ((2 ^ 16 : Nat) : Int) = 65536 := rfl
theorem or_b (T b : Int) (hT : T % 16777216 = 0) (h0 : 0 ≤ T) (h1 : T ≤ 4278190080) (hb0 : 0 ≤ b) (hb1 : b ≤ 15) : bits .or .u32 T (b % 4294967296 * 1048576 % 4294967296) = T + b * 1048576 := by
  rw [show b % 4294967296 * 1048576 % 4294967296 = b * 1048576 by omega]
  exact u32_plus _ _ 24 (by omega) (by rw [p24]; exact hT) h0 (by omega) (by omega) (by rw [p24]; omega)
theorem or_op (T o : Int) (hT : T % 1048576 = 0) (h0 : 0 ≤ T) (h1 : T ≤ 4294967295) (hb0 : 0 ≤ o) (hb1 : o ≤ 15) : bits .or .u32 T (o % 4294967296 * 65536 % 4294967296) = T + o * 65536 := by
  rw [show o % 4294967296 * 65536 % 4294967296 = o * 65536 by omega]
  exact u32_plus _ _ 20 (by omega) (by rw [p20]; exact hT) h0 (by omega) (by omega) (by rw [p20]; omega)
theorem or_c (T c : Int) (hT : T % 65536 = 0) (h0 : 0 ≤ T) (h1 : T ≤ 4294967295) (hb0 : 0 ≤ c) (hb1 : c ≤ 65535) : bits .or .u32 T (c % 4294967296) = T + c := by
  rw [show c % 4294967296 = c by omega]
  exact u32_plus _ _ 16 (by omega) (by rw [p16]; exact hT) h0 (by omega) (by omega) (by rw [p16]; omega)
theorem or_im20 (T i : Int) (hT : T % 1048576 = 0) (h0 : 0 ≤ T) (h1 : T ≤ 4294967295) : bits .or .u32 T (bits .and .u32 (i % 4294967296) 1048575) = T + i % 1048576 := by
  rw [u32_and20 _ (by omega) (by omega), show i % 4294967296 % 1048576 = i % 1048576 by omega]
  exact u32_plus _ _ 20 (by omega) (by rw [p20]; exact hT) h0 (by omega) (by omega) (by rw [p20]; omega)
theorem or_im24 (T i : Int) (hT : T % 16777216 = 0) (h0 : 0 ≤ T) (h1 : T ≤ 4294967295) : bits .or .u32 T (bits .and .u32 (i % 4294967296) 16777215) = T + i % 16777216 := by
  rw [u32_and24 _ (by omega) (by omega), show i % 4294967296 % 16777216 = i % 16777216 by omega]
  exact u32_plus _ _ 24 (by omega) (by rw [p24]; exact hT) h0 (by omega) (by omega) (by rw [p24]; omega)
theorem good_nibs {x : Ins} (h : goodI x = true) : (0 ≤ x.a ∧ x.a ≤ 15) ∧ (0 ≤ x.b ∧ x.b ≤ 15) ∧ (0 ≤ x.c ∧ x.c ≤ 15) ∧ (0 ≤ x.op ∧ x.op ≤ 11) := by
  simp only [goodI, nib, Bool.and_eq_true, decide_eq_true_eq] at h
  exact ⟨h.1.1.1.1, h.1.1.1.2, h.1.1.2, h.1.2⟩
theorem enc_or0 {u v : Bool} {a b c op im : Int} (h : goodI ⟨0, u, v, a, b, c, op, im⟩ = true) :
    bits .or .u32 (bits .or .u32 (bits .or .u32 (bits .or .u32 (bits .or .u32 (bits .or .u32 (bits .or .u32 0 (bitK u 29)) (bitK v 28)) (a % 4294967296 * 16777216 % 4294967296)) (b % 4294967296 * 1048576 % 4294967296)) (op % 4294967296 * 65536 % 4294967296)) (c % 4294967296)) (im % 4294967296)
      = encI ⟨0, u, v, a, b, c, op, im⟩ := by
  obtain ⟨⟨a0, a1⟩, ⟨b0, b1⟩, ⟨c0, c1⟩, o0, o1⟩ := good_nibs h
  simp only at a0 a1 b0 b1 c0 c1 o0 o1
  have him : im = 0 := by simp [goodI] at h; exact h.2.2
  subst him
  obtain ⟨t0, t1, t2⟩ := topI_facts (u := u) (v := v) (F := 0) (by omega) a0 a1
  rw [or_top 0 u v a (by omega) a0 a1, or_b _ b t0 t1 t2 b0 b1, or_op _ op (by omega) (by omega) (by omega) o0 (by omega), or_c _ c (by omega) (by omega) (by omega) c0 (by omega)]
  rw [show (0 : Int) % 4294967296 = 0 from rfl, u32_zero _ (by omega) (by omega)]
  simp [encI, topI]
  omega
theorem enc_or1 {u v : Bool} {a b c op im : Int} (h : goodI ⟨1, u, v, a, b, c, op, im⟩ = true) :
    bits .or .u32 (bits .or .u32 (bits .or .u32 (bits .or .u32 (bits .or .u32 (bits .or .u32 (bits .or .u32 1073741824 (bitK u 29)) (bitK v 28)) (a % 4294967296 * 16777216 % 4294967296)) (b % 4294967296 * 1048576 % 4294967296)) (op % 4294967296 * 65536 % 4294967296)) (c % 4294967296)) (im % 4294967296)
      = encI ⟨1, u, v, a, b, c, op, im⟩ := by
  obtain ⟨⟨a0, a1⟩, ⟨b0, b1⟩, ⟨c0, c1⟩, o0, o1⟩ := good_nibs h
  simp only at a0 a1 b0 b1 c0 c1 o0 o1
  have him : c = 0 ∧ 0 ≤ im ∧ im ≤ 65535 := by simp [goodI] at h; omega
  obtain ⟨rfl, i0, i1⟩ := him
  obtain ⟨t0, t1, t2⟩ := topI_facts (u := u) (v := v) (F := 1073741824) (by omega) a0 a1
  rw [or_top _ u v a (by omega) a0 a1, or_b _ b t0 t1 t2 b0 b1, or_op _ op (by omega) (by omega) (by omega) o0 (by omega)]
  rw [show (0 : Int) % 4294967296 = 0 from rfl, u32_zero _ (by omega) (by omega), or_c _ im (by omega) (by omega) (by omega) i0 i1]
  simp [encI, topI]
  omega
theorem enc_or2 {u v : Bool} {a b c op im : Int} (h : goodI ⟨2, u, v, a, b, c, op, im⟩ = true) :
    bits .or .u32 (bits .or .u32 (bits .or .u32 (bits .or .u32 (bits .or .u32 2147483648 (bitK u 29)) (bitK v 28)) (a % 4294967296 * 16777216 % 4294967296)) (b % 4294967296 * 1048576 % 4294967296)) (bits .and .u32 (im % 4294967296) 1048575)
      = encI ⟨2, u, v, a, b, c, op, im⟩ := by
  obtain ⟨⟨a0, a1⟩, ⟨b0, b1⟩, ⟨c0, c1⟩, o0, o1⟩ := good_nibs h
  simp only at a0 a1 b0 b1 c0 c1 o0 o1
  obtain ⟨t0, t1, t2⟩ := topI_facts (u := u) (v := v) (F := 2147483648) (by omega) a0 a1
  rw [or_top _ u v a (by omega) a0 a1, or_b _ b t0 t1 t2 b0 b1, or_im20 _ im (by omega) (by omega) (by omega)]
  simp [encI, topI]
  omega
theorem enc_or3 {u v : Bool} {a b c op im : Int} (h : goodI ⟨3, u, v, a, b, c, op, im⟩ = true) :
    bits .or .u32 (bits .or .u32 (bits .or .u32 (bits .or .u32 (bits .or .u32 3221225472 (bitK u 29)) (bitK v 28)) (a % 4294967296 * 16777216 % 4294967296)) (c % 4294967296)) (bits .and .u32 (im % 4294967296) 16777215)
      = encI ⟨3, u, v, a, b, c, op, im⟩ := by
  obtain ⟨⟨a0, a1⟩, ⟨b0, b1⟩, ⟨c0, c1⟩, o0, o1⟩ := good_nibs h
  simp only at a0 a1 b0 b1 c0 c1 o0 o1
  obtain ⟨t0, t1, t2⟩ := topI_facts (u := u) (v := v) (F := 3221225472) (by omega) a0 a1
  rw [or_top _ u v a (by omega) a0 a1, or_c _ c (by omega) (by omega) (by omega) c0 (by omega)]
  have him : c = 0 ∨ im = 0 := by
    simp [goodI] at h
    cases u <;> simp at h <;> omega
  rcases him with rfl | rfl
  · rw [Int.add_zero, or_im24 _ im t0 t1 (by omega)]
    simp [encI, topI]
  · rw [u32_and24 _ (by omega) (by omega), show (0 : Int) % 4294967296 % 16777216 = 0 from rfl, u32_zero _ (by omega) (by omega)]
    simp [encI, topI]
end Go.Proofs.YtjjgjadfnongfaaGreatDoor
