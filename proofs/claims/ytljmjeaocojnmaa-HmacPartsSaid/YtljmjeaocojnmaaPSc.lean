import Derived.Laws.Bits64
import Derived.Laws.BitsAllLaws
import Derived.Test.YtljmjeaocojnmaaSa4
import Derived.Test.YtljmjeaocojnmaaHSc
import Derived.Test.YtljmjeaocojnmaaBits
section
/- Layer 1, plain: turning and words. -/
set_option linter.unusedVariables false
set_option linter.unusedSimpArgs false
namespace Go.Proofs.Ytljmjeaocojnmaa.HSa
open Go.RowKit Go.Proofs.YtljmjeaocojnmaaW.PrintWords Go.Proofs.Ytljmjeaocojnmaa.Kit Go.Proofs.Ytljmjeaocojnmaa.Sa

def W32 (x : Int) : Prop := 0 ≤ x ∧ x < 4294967296
def turnN (x i : Nat) : Nat := x / 2 ^ i + x % 2 ^ i * 2 ^ (32 - i)
theorem turnN_zero (x : Nat) : turnN x 0 = x := by simp [turnN, Nat.mod_one]
theorem turnN_succ (x i : Nat) (h : i < 32) : turnN x (i + 1) = turnN x i / 2 + turnN x i % 2 * 2147483648 := by
  unfold turnN
  obtain ⟨p, hp⟩ : ∃ p, p = 2 ^ i := ⟨_, rfl⟩
  obtain ⟨q, hq⟩ : ∃ q, q = 2 ^ (31 - i) := ⟨_, rfl⟩
  have h1 : 2 ^ (i + 1) = p * 2 := by rw [Nat.pow_succ, hp]
  have h2 : 2 ^ (32 - i) = q * 2 := by rw [show 32 - i = (31 - i) + 1 from by omega, Nat.pow_succ, hq]
  have h3 : 2 ^ (32 - (i + 1)) = q := by rw [show 32 - (i + 1) = 31 - i from by omega, hq]
  have h4 : p * q = 2147483648 := by rw [hp, hq, ← Nat.pow_add, show i + (31 - i) = 31 from by omega]
  rw [h1, h2, h3, ← hp]
  have h5 : x / (p * 2) = x / p / 2 := (Nat.div_div_eq_div_mul x p 2).symm
  have h6 : x % (p * 2) = x % p + p * (x / p % 2) := Nat.mod_mul
  rw [h5, h6]
  have h7 : x % p * (q * 2) = 2 * (x % p * q) := by rw [← Nat.mul_assoc, Nat.mul_comm]
  have h8 : (x % p + p * (x / p % 2)) * q = x % p * q + (x / p % 2) * 2147483648 := by
    rw [Nat.add_mul, ← h4, Nat.mul_comm p (x / p % 2), Nat.mul_assoc]
  rw [h7, h8]
  generalize x / p = a
  generalize x % p * q = b
  omega
theorem turnN_lt (x i : Nat) (h : i ≤ 32) (hx : x < 4294967296) : turnN x i < 4294967296 := by
  unfold turnN
  obtain ⟨p, hp⟩ : ∃ p, p = 2 ^ i := ⟨_, rfl⟩
  obtain ⟨q, hq⟩ : ∃ q, q = 2 ^ (32 - i) := ⟨_, rfl⟩
  have h4 : p * q = 4294967296 := by rw [hp, hq, ← Nat.pow_add, show i + (32 - i) = 32 from by omega]
  rw [← hp, ← hq]
  have hp0 : 0 < p := by rw [hp]; exact Nat.two_pow_pos i
  have h1 : x / p < q := by rw [Nat.div_lt_iff_lt_mul hp0, Nat.mul_comm, h4]; exact hx
  have h2 : x % p < p := Nat.mod_lt _ hp0
  have h3 : (x % p + 1) * q ≤ p * q := Nat.mul_le_mul_right q h2
  rw [Nat.add_mul, h4] at h3
  omega
theorem rotr_nat (x n : Nat) (h : 0 < n ∧ n < 32) (hx : x < 4294967296) : rotr x n = (turnN x n : Int) := by
  unfold rotr turnN
  obtain ⟨p, hp⟩ : ∃ p, p = 2 ^ n := ⟨_, rfl⟩
  obtain ⟨q, hq⟩ : ∃ q, q = 2 ^ (32 - n) := ⟨_, rfl⟩
  have h4 : p * q = 4294967296 := by rw [hp, hq, ← Nat.pow_add, show n + (32 - n) = 32 from by omega]
  have hp0 : 0 < p := by rw [hp]; exact Nat.two_pow_pos n
  have h1 : x / p < q := by rw [Nat.div_lt_iff_lt_mul hp0, Nat.mul_comm, h4]; exact hx
  have e1 : ((x : Int) * 2 ^ (32 - (n : Int)).toNat % 4294967296) = ((x * q % 4294967296 : Nat) : Int) := by
    rw [show (32 - (n : Int)).toNat = 32 - n from by omega]
    rw [show (2 : Int) ^ (32 - n) = ((2 ^ (32 - n) : Nat) : Int) from by rw [Int.natCast_pow]; rfl, ← hq]
    rw [Int.natCast_emod, Int.natCast_mul, show ((4294967296 : Nat) : Int) = 4294967296 from rfl]
  have e2 : ((x : Int) / 2 ^ (n : Int).toNat) = ((x / p : Nat) : Int) := by
    rw [show (n : Int).toNat = n from by omega, hp, Int.natCast_ediv, Int.natCast_pow]; rfl
  rw [e1, e2, bor32 _ _ (Nat.mod_lt _ (by decide)) (by have := Nat.div_le_self x p; omega), ← hp, ← hq]
  have e3 : x * q % 4294967296 = x % p * q := by rw [← h4, Nat.mul_mod_mul_right]
  rw [e3, Nat.add_comm, Nat.mul_comm (x % p) q, hq, Nat.two_pow_add_eq_or_of_lt (by rw [← hq]; exact h1)]
theorem rotr_w (x n : Int) (h : 0 < n ∧ n < 32) (hx : W32 x) : W32 (rotr x n) := by
  obtain ⟨a, rfl⟩ := Int.eq_ofNat_of_zero_le hx.1
  obtain ⟨b, rfl⟩ := Int.eq_ofNat_of_zero_le (by omega : 0 ≤ n)
  rw [rotr_nat a b (by omega) (by have := hx.2; omega)]
  have := turnN_lt a b (by omega) (by have := hx.2; omega)
  exact ⟨by omega, by omega⟩
theorem turn_loop (x n : Nat) (hn : n < 32) (hx : x < 4294967296) : ∀ d i k, i + d = n → padlockref01_Turn.l0 (k + d + 1) (turnN x i : Int) n i = some (turnN x n : Int)
  | 0, i, k, hi => by
    have : i = n := by omega
    subst this
    simp only [padlockref01_Turn.l0]
    rw [if_neg (by omega)]
  | d + 1, i, k, hi => by
    have ih := turn_loop x n hn hx d (i + 1) k (by omega)
    have hl := turnN_lt x i (by omega) hx
    generalize hK : k + (d + 1) = K
    simp only [padlockref01_Turn.l0]
    subst hK
    rw [if_pos (by omega), show wrap64 ((i : Int) + 1) = ((i + 1 : Nat) : Int) from by unfold wrap64; omega]
    rw [← ih, turnN_succ x i (by omega)]
    rw [Int.tdiv_eq_ediv_of_nonneg (by omega), Int.tmod_eq_emod_of_nonneg (by omega)]
    have e : (((turnN x i : Int) / 2 % 4294967296 + (turnN x i : Int) % 2 * 2147483648 % 4294967296) % 4294967296) = ((turnN x i / 2 + turnN x i % 2 * 2147483648 : Nat) : Int) := by
      omega
    rw [e]
    rfl
theorem turn_tells (x n : Int) (h : 0 < n ∧ n < 32) (hx : W32 x) (k : Nat) : padlockref01_Turn.f (k + 33) x n = some (rotr x n) := by
  obtain ⟨a, rfl⟩ := Int.eq_ofNat_of_zero_le hx.1
  obtain ⟨b, rfl⟩ := Int.eq_ofNat_of_zero_le (by omega : 0 ≤ n)
  have ha : a < 4294967296 := by have := hx.2; omega
  rw [rotr_nat a b (by omega) ha]
  have := turn_loop a b (by omega) ha b 0 (k + 33 - b - 1) (by omega)
  rw [turnN_zero, show k + 33 - b - 1 + b + 1 = k + 33 from by omega] at this
  exact this
theorem bxor_w (a b : Int) (ha : W32 a) (hb : W32 b) : W32 (Go.bits .xor .u32 a b) := by
  obtain ⟨a, rfl⟩ := Int.eq_ofNat_of_zero_le ha.1
  obtain ⟨b, rfl⟩ := Int.eq_ofNat_of_zero_le hb.1
  have h1 : a < 2 ^ 32 := by have := ha.2; omega
  have h2 : b < 2 ^ 32 := by have := hb.2; omega
  rw [bxor32 a b h1 h2]
  have := Nat.xor_lt_two_pow h1 h2
  exact ⟨by omega, by omega⟩
theorem band_w (a b : Int) (ha : W32 a) (hb : W32 b) : W32 (Go.bits .and .u32 a b) := by
  obtain ⟨a, rfl⟩ := Int.eq_ofNat_of_zero_le ha.1
  obtain ⟨b, rfl⟩ := Int.eq_ofNat_of_zero_le hb.1
  have h1 : a < 2 ^ 32 := by have := ha.2; omega
  have h2 : b < 2 ^ 32 := by have := hb.2; omega
  rw [band32 a b h1 h2]
  have := Nat.and_lt_two_pow a h2
  exact ⟨by omega, by omega⟩
theorem or_add (a b i p : Nat) (hp : p = 2 ^ i) (hb : b < p) : a * p ||| b = a * p + b := by
  subst hp
  rw [Nat.mul_comm, ← Nat.two_pow_add_eq_or_of_lt hb]
theorem word4_sum (l : List Int) (hl : Bytes l) (i : Nat) : word4 l i = ((l.getD (4 * i) 0 * 256 + l.getD (4 * i + 1) 0) * 256 + l.getD (4 * i + 2) 0) * 256 + l.getD (4 * i + 3) 0 := by
  have hb : ∀ j, 0 ≤ l.getD j 0 ∧ l.getD j 0 < 256 := fun j => by have := hl.at_ (j : Int); simpa [rd] using this
  unfold word4
  have h0 := hb (4 * i)
  have h1 := hb (4 * i + 1)
  have h2 := hb (4 * i + 2)
  have h3 := hb (4 * i + 3)
  obtain ⟨a, ea⟩ := Int.eq_ofNat_of_zero_le h0.1
  obtain ⟨b, eb⟩ := Int.eq_ofNat_of_zero_le h1.1
  obtain ⟨c, ec⟩ := Int.eq_ofNat_of_zero_le h2.1
  obtain ⟨d, ed⟩ := Int.eq_ofNat_of_zero_le h3.1
  rw [ea] at h0
  rw [eb] at h1
  rw [ec] at h2
  rw [ed] at h3
  rw [ea, eb, ec, ed]
  have e0 : ((a : Int) % 4294967296 * 16777216 % 4294967296) = ((a * 16777216 : Nat) : Int) := by omega
  have e1 : ((b : Int) % 4294967296 * 65536 % 4294967296) = ((b * 65536 : Nat) : Int) := by omega
  have e2 : ((c : Int) % 4294967296 * 256 % 4294967296) = ((c * 256 : Nat) : Int) := by omega
  have e3 : ((d : Int) % 4294967296) = ((d : Nat) : Int) := by omega
  rw [e0, e1, e2, e3, bor32 _ _ (by omega) (by omega), or_add a (b * 65536) 24 16777216 rfl (by omega)]
  rw [show a * 16777216 + b * 65536 = (a * 256 + b) * 65536 from by omega, bor32 _ _ (by omega) (by omega), or_add _ (c * 256) 16 65536 rfl (by omega)]
  rw [show (a * 256 + b) * 65536 + c * 256 = ((a * 256 + b) * 256 + c) * 256 from by omega, bor32 _ _ (by omega) (by omega), or_add _ d 8 256 rfl (by omega)]
  omega
theorem word4_w (l : List Int) (hl : Bytes l) (i : Nat) : W32 (word4 l i) := by
  have hb : ∀ j, 0 ≤ l.getD j 0 ∧ l.getD j 0 < 256 := fun j => by have := hl.at_ (j : Int); simpa [rd] using this
  rw [word4_sum l hl]
  have h0 := hb (4 * i)
  have h1 := hb (4 * i + 1)
  have h2 := hb (4 * i + 2)
  have h3 := hb (4 * i + 3)
  exact ⟨by omega, by omega⟩
theorem andNot_eq (a b : Int) (ha : W32 a) (hb : W32 b) : Go.bits .andNot .u32 a b = Go.bits .and .u32 ((4294967295 - b) % 4294967296) a := by
  obtain ⟨a, rfl⟩ := Int.eq_ofNat_of_zero_le ha.1
  obtain ⟨b, rfl⟩ := Int.eq_ofNat_of_zero_le hb.1
  have h1 : a < 4294967296 := by have := ha.2; omega
  have h2 : b < 4294967296 := by have := hb.2; omega
  rw [u32_andNot _ _ ha.1 ha.2 hb.1 hb.2, show (4294967295 - (b : Int)) % 4294967296 = ((4294967295 - b : Nat) : Int) from by omega, band32 _ _ (by omega) h1, Nat.and_comm]
  rfl
end Go.Proofs.Ytljmjeaocojnmaa.HSa
end
section
/- Layer 1, plain: the words of a block. -/
set_option linter.unusedVariables false
set_option linter.unusedSimpArgs false
namespace Go.Proofs.Ytljmjeaocojnmaa.HSa
open Go.RowKit Go.Proofs.YtljmjeaocojnmaaW.PrintWords Go.Proofs.Ytljmjeaocojnmaa.Kit Go.Proofs.Ytljmjeaocojnmaa.Sa

def msgV (l : List Int) (i : Nat) : Int := if i < 16 then word4 l i else wordN (msg l i) i
theorem take_set_next (m : List Int) (i : Nat) (v : Int) (h : i < m.length) : (m.set i v).take (i + 1) = m.take i ++ [v] := by
  rw [List.take_add_one, List.getElem?_set_self h, List.take_set_of_le (Nat.le_refl i)]
  rfl
theorem msg_take (l : List Int) (i : Nat) (h : i < 64) : (msg l (i + 1)).take (i + 1) = (msg l i).take i ++ [msgV l i] := by
  show ((msg l i).set i _).take (i + 1) = _
  rw [take_set_next _ _ _ (by rw [msg_length]; exact h)]
  rfl
theorem set_w (m : List Int) (i : Nat) (v : Int) (hm : ∀ j, W32 (m.getD j 0)) (hv : W32 v) (j : Nat) : W32 ((m.set i v).getD j 0) := by
  rw [List.getD_eq_getElem?_getD, List.getElem?_set]
  split
  · split
    · exact hv
    · exact ⟨by decide, by decide⟩
  · rw [← List.getD_eq_getElem?_getD]; exact hm j
theorem mod_w (x : Int) : W32 (IntKind.u32.wrap x) := by rw [IntKind.wrap_u32]; exact ⟨by omega, by omega⟩
theorem msg_w (l : List Int) (hl : Bytes l) : ∀ n j, W32 ((msg l n).getD j 0)
  | 0, j => by
    show W32 ((List.replicate 64 (0 : Int)).getD j 0)
    rw [List.getD_eq_getElem?_getD, List.getElem?_replicate]
    split <;> exact ⟨by decide, by decide⟩
  | n + 1, j => by
    show W32 (((msg l n).set n (if n < 16 then word4 l n else wordN (msg l n) n)).getD j 0)
    refine set_w _ _ _ (msg_w l hl n) ?_ j
    split
    · exact word4_w l hl n
    · exact mod_w _
theorem rd_nat (l : List Int) (j : Nat) : rd l (j : Int) = l.getD j 0 := rfl
theorem at_nat {l : List Int} (hb : Bytes l) (j : Nat) : 0 ≤ l.getD j 0 ∧ l.getD j 0 < 256 := hb.at_ (j : Int)
theorem rd_take (m : List Int) (i : Nat) (j : Int) (h0 : 0 ≤ j) (h1 : j < i) : rd (m.take i) j = m.getD j.toNat 0 := by
  unfold rd
  rw [List.getD_eq_getElem?_getD, List.getElem?_take, if_pos (by omega), ← List.getD_eq_getElem?_getD]
theorem s_eq (x : Int) (hx : W32 x) (t1 t2 : Int) (c : Int) (hc : 0 < c) : Go.bits .xor .u32 (Go.bits .xor .u32 t1 t2) ((Int.tdiv x c) % 4294967296) = Go.bits .xor .u32 (Go.bits .xor .u32 t1 t2) (x / c) := by
  rw [Int.tdiv_eq_ediv_of_nonneg hx.1]
  have h1 : 0 ≤ x / c := Int.ediv_nonneg hx.1 (by omega)
  have h2 : x / c ≤ x := Int.ediv_le_self c hx.1
  rw [Int.emod_eq_of_lt h1 (by have := hx.2; omega)]
attribute [local irreducible] msg
theorem words_byte (l x3 : List Int) (i : Nat) (k : Nat) (hi : i < 16) (hl : l.length = 64) (j : Nat) (hj : j < 4) (x : Int) (hx : 0 ≤ x ∧ x < 16777216) (hb : Bytes l) :
    padlockref01_Words.l1 (k + 1) l x3 i x j = padlockref01_Words.l1 k l x3 i (x * 256 + l.getD (4 * i + j) 0) ((j + 1 : Nat) : Int) := by
  have e : wrap64 (wrap64 (4 * (i : Int)) + (j : Int)) = ((4 * i + j : Nat) : Int) := by unfold wrap64; omega
  have hbj : 0 ≤ l.getD (4 * i + j) 0 ∧ l.getD (4 * i + j) 0 < 256 := at_nat hb _
  have er : rd l ((4 * i + j : Nat) : Int) = l.getD (4 * i + j) 0 := rd_nat _ _
  simp only [padlockref01_Words.l1]
  rw [e, er, if_pos (by omega), if_pos (by omega), if_pos (by omega), show wrap64 ((j : Int) + 1) = ((j + 1 : Nat) : Int) from by unfold wrap64; omega]
  generalize l.getD (4 * i + j) 0 = b at *
  rw [show (x * 256 % 4294967296 + b % 4294967296) % 4294967296 = x * 256 + b from by omega]
theorem words_four (l x3 : List Int) (i : Nat) (k : Nat) (hi : i < 16) (hl : l.length = 64) (hb : Bytes l) (h3 : x3.length ≤ 64) :
    padlockref01_Words.l1 (k + 5) l x3 i 0 0 = padlockref01_Words.l0 k l (x3 ++ [word4 l i]) ((i + 1 : Nat) : Int) := by
  have hg : ∀ j, 0 ≤ l.getD j 0 ∧ l.getD j 0 < 256 := at_nat hb
  have g0 := hg (4 * i)
  have g1 := hg (4 * i + 1)
  have g2 := hg (4 * i + 2)
  have g3 := hg (4 * i + 3)
  have s0 := words_byte l x3 i (k + 4) hi hl 0 (by decide) 0 (by omega) hb
  have s1 := words_byte l x3 i (k + 3) hi hl 1 (by decide) (0 * 256 + l.getD (4 * i) 0) (by omega) hb
  have s2 := words_byte l x3 i (k + 2) hi hl 2 (by decide) ((0 * 256 + l.getD (4 * i) 0) * 256 + l.getD (4 * i + 1) 0) (by omega) hb
  have s3 := words_byte l x3 i (k + 1) hi hl 3 (by decide) (((0 * 256 + l.getD (4 * i) 0) * 256 + l.getD (4 * i + 1) 0) * 256 + l.getD (4 * i + 2) 0) (by omega) hb
  refine s0.trans (s1.trans (s2.trans (s3.trans ?_)))
  rw [word4_sum l hb]
  simp only [padlockref01_Words.l1]
  rw [if_neg (by omega), if_pos (by omega), show wrap64 ((i : Int) + 1) = ((i + 1 : Nat) : Int) from by unfold wrap64; omega]
  simp
theorem words_loop (l : List Int) (hl : l.length = 64) (hb : Bytes l) : ∀ d i K, i + d = 64 → 34 + 6 * d ≤ K → padlockref01_Words.l0 K l ((msg l i).take i) i = some (msg l 64)
  | 0, i, K, hi, hK => by
    obtain ⟨k, rfl⟩ : ∃ k, K = k + 1 := ⟨K - 1, by omega⟩
    have : i = 64 := by omega
    subst this
    simp only [padlockref01_Words.l0]
    rw [if_neg (by omega), List.take_of_length_le (by rw [msg_length]; exact Nat.le_refl _)]
  | d + 1, i, K, hi, hK => by
    have hlen : ((msg l i).take i).length = i := by rw [List.length_take, msg_length]; omega
    by_cases h16 : i < 16
    · obtain ⟨k, rfl⟩ : ∃ k, K = k + 5 + 1 := ⟨K - 6, by omega⟩
      have ih := words_loop l hl hb d (i + 1) k (by omega) (by omega)
      rw [msg_take l i (by omega), show msgV l i = word4 l i from if_pos h16] at ih
      rw [← ih, ← words_four l _ i k h16 hl hb (by omega)]
      generalize hK5 : k + 5 = K5
      simp only [padlockref01_Words.l0]
      rw [if_pos (by omega), if_pos (by omega)]
    · obtain ⟨k, rfl⟩ : ∃ k, K = k + 33 + 1 := ⟨K - 34, by omega⟩
      have ih := words_loop l hl hb d (i + 1) (k + 33) (by omega) (by omega)
      rw [msg_take l i (by omega), show msgV l i = wordN (msg l i) i from if_neg h16] at ih
      have hw := msg_w l hb i
      have r15 : rd ((msg l i).take i) ((i - 15 : Nat) : Int) = (msg l i).getD (i - 15) 0 := rd_take _ _ _ (by omega) (by omega)
      have r2 : rd ((msg l i).take i) ((i - 2 : Nat) : Int) = (msg l i).getD (i - 2) 0 := rd_take _ _ _ (by omega) (by omega)
      have r16 : rd ((msg l i).take i) ((i - 16 : Nat) : Int) = (msg l i).getD (i - 16) 0 := rd_take _ _ _ (by omega) (by omega)
      have r7 : rd ((msg l i).take i) ((i - 7 : Nat) : Int) = (msg l i).getD (i - 7) 0 := rd_take _ _ _ (by omega) (by omega)
      have w15 : wrap64 ((i : Int) - 15) = ((i - 15 : Nat) : Int) := by unfold wrap64; omega
      have w2 : wrap64 ((i : Int) - 2) = ((i - 2 : Nat) : Int) := by unfold wrap64; omega
      have w16 : wrap64 ((i : Int) - 16) = ((i - 16 : Nat) : Int) := by unfold wrap64; omega
      have w7 : wrap64 ((i : Int) - 7) = ((i - 7 : Nat) : Int) := by unfold wrap64; omega
      have w1 : wrap64 ((i : Int) + 1) = ((i + 1 : Nat) : Int) := by unfold wrap64; omega
      unfold wordN s0 s1 at ih
      simp only [IntKind.wrap_u32] at ih
      rw [← ih]
      generalize hT : (msg l i).take i = t at *
      generalize hK5 : k + 33 = K5
      simp only [padlockref01_Words.l0]
      rw [w15, w2, w16, w7, w1, r15, r2, r16, r7]
      subst hK5
      have h15 := hw (i - 15)
      have h2 := hw (i - 2)
      clear hw r15 r2 r16 r7 w15 w2 w16 w7 w1 ih hT
      generalize (msg l i).getD (i - 15) 0 = a15 at *
      generalize (msg l i).getD (i - 2) 0 = a2 at *
      generalize (msg l i).getD (i - 16) 0 = a16 at *
      generalize (msg l i).getD (i - 7) 0 = a7 at *
      have t1 := turn_tells a15 7 (by decide) h15 k
      have t2 := turn_tells a15 18 (by decide) h15 k
      have t3 := turn_tells a2 17 (by decide) h2 k
      have t4 := turn_tells a2 19 (by decide) h2 k
      have e1 := s_eq a15 h15 (rotr a15 7) (rotr a15 18) 8 (by decide)
      have e2 := s_eq a2 h2 (rotr a2 17) (rotr a2 19) 1024 (by decide)
      rw [if_pos (by omega), if_neg (by omega), if_pos (by omega), if_pos (by omega), if_pos (by omega), if_pos (by omega), if_pos (by omega), if_pos (by omega), if_pos (by omega), if_pos (by omega)]
      rw [t1, t2, t3, t4]
      simp only [Option.bind_some]
      rw [e1, e2, if_pos (by omega)]
theorem words_tells (l : List Int) (hl : l.length = 64) (hb : Bytes l) (k : Nat) : padlockref01_Words.f (k + 418) l = some (msg l 64) := by
  have := words_loop l hl hb 64 0 (k + 418) rfl (by omega)
  exact this
end Go.Proofs.Ytljmjeaocojnmaa.HSa
end
section
/- Layer 1, plain: a block comes. -/
set_option linter.unusedVariables false
set_option linter.unusedSimpArgs false
namespace Go.Proofs.Ytljmjeaocojnmaa.HSa
open Go.RowKit Go.Proofs.YtljmjeaocojnmaaW.PrintWords Go.Proofs.Ytljmjeaocojnmaa.Kit Go.Proofs.Ytljmjeaocojnmaa.Sa

theorem consts_length : consts.length = 64 := by decide
theorem big1_w (x : Int) (h : W32 x) : W32 (big1 x) := bxor_w _ _ (bxor_w _ _ (rotr_w _ _ (by decide) h) (rotr_w _ _ (by decide) h)) (rotr_w _ _ (by decide) h)
theorem vstep_w (m v : List Int) (i : Nat) (hv : ∀ j, W32 (v.getD j 0)) : ∀ j, W32 ((vstep m v i).getD j 0)
  | 0 => ⟨by simp [vstep]; omega, by simp [vstep]; omega⟩
  | 1 => hv 0
  | 2 => hv 1
  | 3 => hv 2
  | 4 => ⟨by simp [vstep]; omega, by simp [vstep]; omega⟩
  | 5 => hv 4
  | 6 => hv 5
  | 7 => hv 6
  | n + 8 => ⟨by simp [vstep], by simp [vstep]⟩
theorem vloop_w (m s : List Int) (hs : ∀ j, W32 (s.getD j 0)) : ∀ n j, W32 ((vloop m s n).getD j 0)
  | 0, j => hs j
  | n + 1, j => vstep_w m _ n (vloop_w m s hs n) j
theorem adds_w (s v : List Int) (hs : ∀ j, W32 (s.getD j 0)) : ∀ n j, W32 ((adds s v n).getD j 0)
  | 0, j => hs j
  | n + 1, j => set_w _ _ _ (adds_w s v hs n) (mod_w _) j
theorem comeF_w (s l : List Int) (hs : ∀ j, W32 (s.getD j 0)) (j : Nat) : W32 ((comeF s l).getD j 0) := adds_w s _ hs 8 j
theorem adds_later (s v : List Int) : ∀ n j, n ≤ j → (adds s v n).getD j 0 = s.getD j 0
  | 0, j, _ => rfl
  | n + 1, j, h => by
    show ((adds s v n).set n _).getD j 0 = _
    rw [List.getD_eq_getElem?_getD, List.getElem?_set_ne (by omega), ← List.getD_eq_getElem?_getD]
    exact adds_later s v n j (by omega)
theorem adds_take (s v : List Int) (i : Nat) (h : i < s.length) : (adds s v (i + 1)).take (i + 1) = (adds s v i).take i ++ [(s.getD i 0 + v.getD i 0) % 4294967296] := by
  show ((adds s v i).set i _).take (i + 1) = _
  rw [take_set_next _ _ _ (by rw [adds_length]; exact h), adds_later s v i i (Nat.le_refl i), IntKind.wrap_u32]
theorem come_out (s v : List Int) (hs : s.length = 8) (hv : v.length = 8) : ∀ d i k, i + d = 8 → padlockref01_Come.l1 (k + d + 1) s v ((adds s v i).take i) i = some (adds s v 8)
  | 0, i, k, hi => by
    have : i = 8 := by omega
    subst this
    simp only [padlockref01_Come.l1]
    rw [if_neg (by omega), List.take_of_length_le (by rw [adds_length, hs]; exact Nat.le_refl _)]
  | d + 1, i, k, hi => by
    have ih := come_out s v hs hv d (i + 1) k (by omega)
    have hlen : ((adds s v i).take i).length = i := by rw [List.length_take, adds_length]; omega
    rw [adds_take s v i (by omega)] at ih
    rw [← ih]
    generalize hK : k + (d + 1) = K
    simp only [padlockref01_Come.l1]
    subst hK
    rw [rd_nat, rd_nat, if_pos (by omega), if_pos (by omega), if_pos (by omega), if_pos (by omega), if_pos (by omega), show wrap64 ((i : Int) + 1) = ((i + 1 : Nat) : Int) from by unfold wrap64; omega]
theorem come_step (s m v : List Int) (i k : Nat) (hi : i < 64) (hm : m.length = 64) (hv : v.length = 8) (hw : ∀ j, W32 (v.getD j 0)) :
    padlockref01_Come.l0 (k + 33 + 1) s consts m v i = padlockref01_Come.l0 (k + 33) s consts m (vstep m v i) ((i + 1 : Nat) : Int) := by
  have hc := consts_length
  unfold vstep oneS twoS big0 big1
  have r0 : rd v 0 = v.getD 0 0 := rfl
  have r1 : rd v 1 = v.getD 1 0 := rfl
  have r2 : rd v 2 = v.getD 2 0 := rfl
  have r3 : rd v 3 = v.getD 3 0 := rfl
  have r4 : rd v 4 = v.getD 4 0 := rfl
  have r5 : rd v 5 = v.getD 5 0 := rfl
  have r6 : rd v 6 = v.getD 6 0 := rfl
  have r7 : rd v 7 = v.getD 7 0 := rfl
  have rc : rd consts (i : Int) = consts.getD i 0 := rfl
  have rm : rd m (i : Int) = m.getD i 0 := rfl
  have w1 : wrap64 ((i : Int) + 1) = ((i + 1 : Nat) : Int) := by unfold wrap64; omega
  rw [andNot_eq _ _ (hw 6) (hw 4)]
  have h4 := hw 4
  have h0 := hw 0
  generalize hC : consts = C at *
  generalize hK : k + 33 = K
  simp only [padlockref01_Come.l0]
  subst hK
  rw [r0, r1, r2, r3, r4, r5, r6, r7, rc, rm, w1]
  clear r0 r1 r2 r3 r4 r5 r6 r7 rc rm w1 hw
  generalize v.getD 0 0 = v0 at *
  generalize v.getD 1 0 = v1 at *
  generalize v.getD 2 0 = v2 at *
  generalize v.getD 3 0 = v3 at *
  generalize v.getD 4 0 = v4 at *
  generalize v.getD 5 0 = v5 at *
  generalize v.getD 6 0 = v6 at *
  generalize v.getD 7 0 = v7 at *
  generalize C.getD i 0 = c at *
  generalize m.getD i 0 = mi at *
  have t1 := turn_tells v4 6 (by decide) h4 k
  have t2 := turn_tells v4 11 (by decide) h4 k
  have t3 := turn_tells v4 25 (by decide) h4 k
  have t4 := turn_tells v0 2 (by decide) h0 k
  have t5 := turn_tells v0 13 (by decide) h0 k
  have t6 := turn_tells v0 22 (by decide) h0 k
  rw [if_pos (by omega), if_pos (by omega), if_pos (by omega), if_pos (by omega), t1, t2, t3, t4, t5, t6]
  simp only [Option.bind_some]
  rw [if_pos (by omega), if_pos (by omega), if_pos (by omega), if_pos (by omega), if_pos (by omega), if_pos (by omega), if_pos (by omega), if_pos (by omega)]
  generalize Go.bits .xor .u32 (Go.bits .xor .u32 (rotr v4 6) (rotr v4 11)) (rotr v4 25) = x1
  generalize Go.bits .xor .u32 (Go.bits .xor .u32 (rotr v0 2) (rotr v0 13)) (rotr v0 22) = x2
  generalize Go.bits .xor .u32 (Go.bits .and .u32 v4 v5) (Go.bits .and .u32 ((4294967295 - v4) % 4294967296) v6) = x3
  generalize Go.bits .xor .u32 (Go.bits .xor .u32 (Go.bits .and .u32 v0 v1) (Go.bits .and .u32 v0 v2)) (Go.bits .and .u32 v1 v2) = x4
  have e1 : ((((((v7 + x1) % 4294967296 + x3) % 4294967296 + c) % 4294967296 + mi) % 4294967296 + (x2 + x4) % 4294967296) % 4294967296) = (v7 + x1 + x3 + c + mi + (x2 + x4)) % 4294967296 := by omega
  have e2 : ((v3 + ((((v7 + x1) % 4294967296 + x3) % 4294967296 + c) % 4294967296 + mi) % 4294967296) % 4294967296) = (v3 + (v7 + x1 + x3 + c + mi)) % 4294967296 := by omega
  rw [e1, e2]
attribute [local irreducible] vstep consts
theorem come_loop (s m : List Int) (hm : m.length = 64) (hs : s.length = 8) (hw : ∀ j, W32 (s.getD j 0)) : ∀ d i k, i + d = 64 → padlockref01_Come.l0 (k + 33 + d + 1) s consts m (vloop m s i) i = some (adds s (vloop m s 64) 8)
  | 0, i, k, hi => by
    have : i = 64 := by omega
    subst this
    have ho := come_out s (vloop m s 64) hs (vloop_length m s hs 64) 8 0 (k + 24) rfl
    rw [show k + 24 + 8 + 1 = k + 33 from by omega] at ho
    rw [← ho]
    generalize hK : k + 33 + 0 = K
    simp only [padlockref01_Come.l0]
    subst hK
    rw [if_neg (by omega)]
    rfl
  | d + 1, i, k, hi => by
    have ih := come_loop s m hm hs hw d (i + 1) k (by omega)
    rw [← ih]
    have h := come_step s m (vloop m s i) i (k + (d + 1)) (by omega) hm (vloop_length m s hs i) (vloop_w m s hw i)
    rw [show k + (d + 1) + 33 + 1 = k + 33 + (d + 1) + 1 from by omega, show k + (d + 1) + 33 = k + 33 + d + 1 from by omega] at h
    exact h
theorem come_tells (s l : List Int) (hs : s.length = 8) (hw : ∀ j, W32 (s.getD j 0)) (hl : l.length = 64) (hb : Bytes l) (k : Nat) :
    padlockref01_Come.f (k + 418) s l consts = some (comeF s l) := by
  have h := come_loop s (msg l 64) (msg_length l 64) hs hw 64 0 (k + 320) rfl
  rw [show k + 320 + 33 + 64 + 1 = k + 418 from by omega] at h
  unfold padlockref01_Come.f
  rw [words_tells l hl hb k]
  simp only [Option.bind_some]
  rw [if_pos (by simp; omega)]
  exact h
end Go.Proofs.Ytljmjeaocojnmaa.HSa
end
