/- Layer 1, plain: turning and words. -/
import Derived.Laws.Bits64
import Derived.Laws.BitsAllLaws
import Derived.Test.YthnmbeooohgccaaSa4
import Derived.Test.YthnmbeooohgccaaHSc
import Derived.Test.YthnmbeooohgccaaBits
set_option linter.unusedVariables false
set_option linter.unusedSimpArgs false
namespace Go.Proofs.Ythnmbeooohgccaa.HSa
open Go.RowKit Go.Proofs.YthnmbeooohgccaaW.PrintWords Go.Proofs.Ythnmbeooohgccaa.Kit Go.Proofs.Ythnmbeooohgccaa.Sa

def W32 (x : Int) : Prop := 0 ≤ x ∧ x < 4294967296
def turnN (x i : Nat) : Nat := x / 2 ^ i + x % 2 ^ i * 2 ^ (32 - i)
theorem turnN_zero (x : Nat) : turnN x 0 = x := by simp [turnN, Nat.mod_one]
theorem turnN_succ (x i : Nat) (h : i < 32) : turnN x (i + 1) = turnN x i / 2 + turnN x i % 2 * 2147483648 := by
  unfold turnN
  obtain ⟨p, hp⟩ : ∃ p, p = 2 ^ i := ⟨_, rfl⟩
  obtain ⟨q, hq⟩ : ∃ q, q = 2 ^ (31 - i) := ⟨_, rfl⟩
  have h1 : 2 ^ (i + 1) = p * 2 := by rw [Nat.pow_succ, hp]
  have h2 : 2 ^ (32 - i) = q * 2 := by rw [show 32 - i = (31 - i) + 1 from by omega, Nat.pow_succ, hq]
  have h3 : 2 ^ (32 - (i + 1)) = q := by rw [show 32 - (i + 1) = 31 - i from by omega, hq]
  have h4 : p * q = 2147483648 := by rw [hp, hq, ← Nat.pow_add, show i + (31 - i) = 31 from by omega]
  rw [h1, h2, h3, ← hp]
  have h5 : x / (p * 2) = x / p / 2 := (Nat.div_div_eq_div_mul x p 2).symm
  have h6 : x % (p * 2) = x % p + p * (x / p % 2) := Nat.mod_mul
  rw [h5, h6]
  have h7 : x % p * (q * 2) = 2 * (x % p * q) := by rw [← Nat.mul_assoc, Nat.mul_comm]
  have h8 : (x % p + p * (x / p % 2)) * q = x % p * q + (x / p % 2) * 2147483648 := by
    rw [Nat.add_mul, ← h4, Nat.mul_comm p (x / p % 2), Nat.mul_assoc]
  rw [h7, h8]
  generalize x / p = a
  generalize x % p * q = b
  omega
theorem turnN_lt (x i : Nat) (h : i ≤ 32) (hx : x < 4294967296) : turnN x i < 4294967296 := by
  unfold turnN
  obtain ⟨p, hp⟩ : ∃ p, p = 2 ^ i := ⟨_, rfl⟩
  obtain ⟨q, hq⟩ : ∃ q, q = 2 ^ (32 - i) := ⟨_, rfl⟩
  have h4 : p * q = 4294967296 := by rw [hp, hq, ← Nat.pow_add, show i + (32 - i) = 32 from by omega]
  rw [← hp, ← hq]
  have hp0 : 0 < p := by rw [hp]; exact Nat.two_pow_pos i
  have h1 : x / p < q := by rw [Nat.div_lt_iff_lt_mul hp0, Nat.mul_comm, h4]; exact hx
  have h2 : x % p < p := Nat.mod_lt _ hp0
  have h3 : (x % p + 1) * q ≤ p * q := Nat.mul_le_mul_right q h2
  rw [Nat.add_mul, h4] at h3
  omega
theorem rotr_nat (x n : Nat) (h : 0 < n ∧ n < 32) (hx : x < 4294967296) : rotr x n = (turnN x n : Int) := by
  unfold rotr turnN
  obtain ⟨p, hp⟩ : ∃ p, p = 2 ^ n := ⟨_, rfl⟩
  obtain ⟨q, hq⟩ : ∃ q, q = 2 ^ (32 - n) := ⟨_, rfl⟩
  have h4 : p * q = 4294967296 := by rw [hp, hq, ← Nat.pow_add, show n + (32 - n) = 32 from by omega]
  have hp0 : 0 < p := by rw [hp]; exact Nat.two_pow_pos n
  have h1 : x / p < q := by rw [Nat.div_lt_iff_lt_mul hp0, Nat.mul_comm, h4]; exact hx
  have e1 : ((x : Int) * 2 ^ (32 - (n : Int)).toNat % 4294967296) = ((x * q % 4294967296 : Nat) : Int) := by
    rw [show (32 - (n : Int)).toNat = 32 - n from by omega]
    rw [show (2 : Int) ^ (32 - n) = ((2 ^ (32 - n) : Nat) : Int) from by rw [Int.natCast_pow]; rfl, ← hq]
    rw [Int.natCast_emod, Int.natCast_mul, show ((4294967296 : Nat) : Int) = 4294967296 from rfl]
  have e2 : ((x : Int) / 2 ^ (n : Int).toNat) = ((x / p : Nat) : Int) := by
    rw [show (n : Int).toNat = n from by omega, hp, Int.natCast_ediv, Int.natCast_pow]; rfl
  rw [e1, e2, bor32 _ _ (Nat.mod_lt _ (by decide)) (by have := Nat.div_le_self x p; omega), ← hp, ← hq]
  have e3 : x * q % 4294967296 = x % p * q := by rw [← h4, Nat.mul_mod_mul_right]
  rw [e3, Nat.add_comm, Nat.mul_comm (x % p) q, hq, Nat.two_pow_add_eq_or_of_lt (by rw [← hq]; exact h1)]
theorem rotr_w (x n : Int) (h : 0 < n ∧ n < 32) (hx : W32 x) : W32 (rotr x n) := by
  obtain ⟨a, rfl⟩ := Int.eq_ofNat_of_zero_le hx.1
  obtain ⟨b, rfl⟩ := Int.eq_ofNat_of_zero_le (by omega : 0 ≤ n)
  rw [rotr_nat a b (by omega) (by have := hx.2; omega)]
  have := turnN_lt a b (by omega) (by have := hx.2; omega)
  exact ⟨by omega, by omega⟩
theorem turn_loop (x n : Nat) (hn : n < 32) (hx : x < 4294967296) : ∀ d i k, i + d = n → padlockref01_Turn.l0 (k + d + 1) (turnN x i : Int) n i = some (turnN x n : Int)
  | 0, i, k, hi => by
    have : i = n := by omega
    subst this
    simp only [padlockref01_Turn.l0]
    rw [if_neg (by omega)]
  | d + 1, i, k, hi => by
    have ih := turn_loop x n hn hx d (i + 1) k (by omega)
    have hl := turnN_lt x i (by omega) hx
    generalize hK : k + (d + 1) = K
    simp only [padlockref01_Turn.l0]
    subst hK
    rw [if_pos (by omega), show wrap64 ((i : Int) + 1) = ((i + 1 : Nat) : Int) from by unfold wrap64; omega]
    rw [← ih, turnN_succ x i (by omega)]
    rw [Int.tdiv_eq_ediv_of_nonneg (by omega), Int.tmod_eq_emod_of_nonneg (by omega)]
    have e : (((turnN x i : Int) / 2 % 4294967296 + (turnN x i : Int) % 2 * 2147483648 % 4294967296) % 4294967296) = ((turnN x i / 2 + turnN x i % 2 * 2147483648 : Nat) : Int) := by
      omega
    rw [e]
    rfl
theorem turn_tells (x n : Int) (h : 0 < n ∧ n < 32) (hx : W32 x) (k : Nat) : padlockref01_Turn.f (k + 33) x n = some (rotr x n) := by
  obtain ⟨a, rfl⟩ := Int.eq_ofNat_of_zero_le hx.1
  obtain ⟨b, rfl⟩ := Int.eq_ofNat_of_zero_le (by omega : 0 ≤ n)
  have ha : a < 4294967296 := by have := hx.2; omega
  rw [rotr_nat a b (by omega) ha]
  have := turn_loop a b (by omega) ha b 0 (k + 33 - b - 1) (by omega)
  rw [turnN_zero, show k + 33 - b - 1 + b + 1 = k + 33 from by omega] at this
  exact this
theorem bxor_w (a b : Int) (ha : W32 a) (hb : W32 b) : W32 (Go.bits .xor .u32 a b) := by
  obtain ⟨a, rfl⟩ := Int.eq_ofNat_of_zero_le ha.1
  obtain ⟨b, rfl⟩ := Int.eq_ofNat_of_zero_le hb.1
  have h1 : a < 2 ^ 32 := by have := ha.2; omega
  have h2 : b < 2 ^ 32 := by have := hb.2; omega
  rw [bxor32 a b h1 h2]
  have := Nat.xor_lt_two_pow h1 h2
  exact ⟨by omega, by omega⟩
theorem band_w (a b : Int) (ha : W32 a) (hb : W32 b) : W32 (Go.bits .and .u32 a b) := by
  obtain ⟨a, rfl⟩ := Int.eq_ofNat_of_zero_le ha.1
  obtain ⟨b, rfl⟩ := Int.eq_ofNat_of_zero_le hb.1
  have h1 : a < 2 ^ 32 := by have := ha.2; omega
  have h2 : b < 2 ^ 32 := by have := hb.2; omega
  rw [band32 a b h1 h2]
  have := Nat.and_lt_two_pow a h2
  exact ⟨by omega, by omega⟩
theorem or_add (a b i p : Nat) (hp : p = 2 ^ i) (hb : b < p) : a * p ||| b = a * p + b := by
  subst hp
  rw [Nat.mul_comm, ← Nat.two_pow_add_eq_or_of_lt hb]
theorem word4_sum (l : List Int) (hl : Bytes l) (i : Nat) : word4 l i = ((l.getD (4 * i) 0 * 256 + l.getD (4 * i + 1) 0) * 256 + l.getD (4 * i + 2) 0) * 256 + l.getD (4 * i + 3) 0 := by
  have hb : ∀ j, 0 ≤ l.getD j 0 ∧ l.getD j 0 < 256 := fun j => by have := hl.at_ (j : Int); simpa [rd] using this
  unfold word4
  have h0 := hb (4 * i)
  have h1 := hb (4 * i + 1)
  have h2 := hb (4 * i + 2)
  have h3 := hb (4 * i + 3)
  obtain ⟨a, ea⟩ := Int.eq_ofNat_of_zero_le h0.1
  obtain ⟨b, eb⟩ := Int.eq_ofNat_of_zero_le h1.1
  obtain ⟨c, ec⟩ := Int.eq_ofNat_of_zero_le h2.1
  obtain ⟨d, ed⟩ := Int.eq_ofNat_of_zero_le h3.1
  rw [ea] at h0
  rw [eb] at h1
  rw [ec] at h2
  rw [ed] at h3
  rw [ea, eb, ec, ed]
  have e0 : ((a : Int) % 4294967296 * 16777216 % 4294967296) = ((a * 16777216 : Nat) : Int) := by omega
  have e1 : ((b : Int) % 4294967296 * 65536 % 4294967296) = ((b * 65536 : Nat) : Int) := by omega
  have e2 : ((c : Int) % 4294967296 * 256 % 4294967296) = ((c * 256 : Nat) : Int) := by omega
  have e3 : ((d : Int) % 4294967296) = ((d : Nat) : Int) := by omega
  rw [e0, e1, e2, e3, bor32 _ _ (by omega) (by omega), or_add a (b * 65536) 24 16777216 rfl (by omega)]
  rw [show a * 16777216 + b * 65536 = (a * 256 + b) * 65536 from by omega, bor32 _ _ (by omega) (by omega), or_add _ (c * 256) 16 65536 rfl (by omega)]
  rw [show (a * 256 + b) * 65536 + c * 256 = ((a * 256 + b) * 256 + c) * 256 from by omega, bor32 _ _ (by omega) (by omega), or_add _ d 8 256 rfl (by omega)]
  omega
theorem word4_w (l : List Int) (hl : Bytes l) (i : Nat) : W32 (word4 l i) := by
  have hb : ∀ j, 0 ≤ l.getD j 0 ∧ l.getD j 0 < 256 := fun j => by have := hl.at_ (j : Int); simpa [rd] using this
  rw [word4_sum l hl]
  have h0 := hb (4 * i)
  have h1 := hb (4 * i + 1)
  have h2 := hb (4 * i + 2)
  have h3 := hb (4 * i + 3)
  exact ⟨by omega, by omega⟩
theorem andNot_eq (a b : Int) (ha : W32 a) (hb : W32 b) : Go.bits .andNot .u32 a b = Go.bits .and .u32 ((4294967295 - b) % 4294967296) a := by
  obtain ⟨a, rfl⟩ := Int.eq_ofNat_of_zero_le ha.1
  obtain ⟨b, rfl⟩ := Int.eq_ofNat_of_zero_le hb.1
  have h1 : a < 4294967296 := by have := ha.2; omega
  have h2 : b < 4294967296 := by have := hb.2; omega
  rw [u32_andNot _ _ ha.1 ha.2 hb.1 hb.2, show (4294967295 - (b : Int)) % 4294967296 = ((4294967295 - b : Nat) : Int) from by omega, band32 _ _ (by omega) h1, Nat.and_comm]
  rfl
end Go.Proofs.Ythnmbeooohgccaa.HSa
