/- Plain lemmas: the reference's bits and bytes are the bitmap's. -/
import Derived.Test.YthnmbeooohgccaaPBt
set_option linter.unusedVariables false
namespace Go.Proofs.Ythnmbeooohgccaa.HBm
open Go.RowKit Go.Proofs.YthnmbeooohgccaaW.PrintWords Go.Proofs.YthnmbeooohgccaaW.PrintLast Go.Proofs.Ythnmbeooohgccaa.Ba Go.Proofs.Ythnmbeooohgccaa.Kit

attribute [local irreducible] padlockref12_Bits.l0 padlockref12_Bits.l1 padlockref12_Bytes.l0 padlockref12_Bytes.l1
def bitsOf (l : List Int) : List Bool := (List.range (8 * l.length)).map fun i : Nat => getv l i
theorem bitsOf_length (l : List Int) : (bitsOf l).length = 8 * l.length := by simp [bitsOf]
theorem bitsOf_get (l : List Int) (i : Int) (h0 : 0 ≤ i) (h1 : i < 8 * (l.length : Int)) : rdOf false (bitsOf l) i = getv l i := by
  obtain ⟨n, rfl⟩ := Int.eq_ofNat_of_zero_le h0
  have h2 : n < 8 * l.length := by omega
  unfold rdOf bitsOf
  simp only [Int.toNat_natCast]
  rw [List.getD_eq_getElem?_getD, List.getElem?_map, List.getElem?_range h2, Option.map_some, Option.getD_some]
theorem range_add8 (n m : Nat) (f : Nat → Bool) : (List.range (n + m)).map f = (List.range n).map f ++ (List.range m).map (fun j => f (n + j)) := by
  rw [List.range_add, List.map_append, List.map_map]
  rfl
theorem rd_nat {l : List Int} (hb : Bytes l) (i : Int) : ∃ x : Nat, x < 256 ∧ rd l i = x := by
  obtain ⟨x, hx⟩ := Int.eq_ofNat_of_zero_le (hb.at_ i).1
  have := (hb.at_ i).2
  exact ⟨x, by omega, hx⟩
theorem getv_at {l : List Int} (hb : Bytes l) (m j : Nat) (hm : m < l.length) (hl : l.length ≤ 1000) (hj : j < 8) {x : Nat} (hx : rd l m = x) : getv l ((8 * m + j : Nat) : Int) = decide (x / 2 ^ j % 2 = 1) := by
  rw [getv_bit hb _ (by omega) (by omega) (by omega), show ((8 * m + j : Nat) : Int) / 8 = m from by omega, show ((8 * m + j : Nat) : Int) % 8 = j from by omega, hx]
  simp only [Int.toNat_natCast]
  exact Nat.testBit_eq_decide_div_mod_eq

theorem bits_inner (l : List Int) (acc : List Bool) (m x : Nat) (hx : x < 256) (hacc : acc.length ≤ 10000) (hm : m ≤ 10000) : ∀ (r j k : Nat), j + r = 8 →
    padlockref12_Bits.l1 (k + r + 1) l (acc ++ (List.range j).map fun i => decide (x / 2 ^ i % 2 = 1)) m ((x / 2 ^ j : Nat) : Int) j
      = padlockref12_Bits.l0 k l (acc ++ (List.range 8).map fun i => decide (x / 2 ^ i % 2 = 1)) ((m + 1 : Nat) : Int)
  | 0, j, k, h => by
    obtain rfl : j = 8 := by omega
    simp only [padlockref12_Bits.l1]
    rw [if_neg (by omega), show wrap64 ((m : Int) + 1) = ((m + 1 : Nat) : Int) from by unfold wrap64; omega]
  | r + 1, j, k, h => by
    rw [show k + (r + 1) + 1 = (k + r + 1) + 1 from by omega]
    generalize hK : k + r + 1 = K
    simp only [padlockref12_Bits.l1]
    subst hK
    have h2 : x / 2 ^ j ≤ x := Nat.div_le_self _ _
    have e1 : (Int.tmod ((x / 2 ^ j : Nat) : Int) 2 == 1) = decide (x / 2 ^ j % 2 = 1) := by
      rw [Int.tmod_eq_emod_of_nonneg (Int.natCast_nonneg _)]
      generalize x / 2 ^ j = y
      rw [Bool.eq_iff_iff]
      simp
      omega
    have e2 : (Int.tdiv ((x / 2 ^ j : Nat) : Int) 2) % 256 = ((x / 2 ^ (j + 1) : Nat) : Int) := by
      rw [Int.tdiv_eq_ediv_of_nonneg (Int.natCast_nonneg _), Nat.pow_succ, ← Nat.div_div_eq_div_mul]
      generalize x / 2 ^ j = y at *
      omega
    rw [if_pos (by omega), if_pos (by simp; omega), e1, e2, show wrap64 ((j : Int) + 1) = ((j + 1 : Nat) : Int) from by unfold wrap64; omega]
    have e3 : acc ++ (List.range j).map (fun i => decide (x / 2 ^ i % 2 = 1)) ++ [decide (x / 2 ^ j % 2 = 1)] = acc ++ (List.range (j + 1)).map fun i => decide (x / 2 ^ i % 2 = 1) := by
      rw [List.range_succ, List.map_append, List.append_assoc]
      rfl
    rw [e3]
    exact bits_inner l acc m x hx hacc hm r (j + 1) k (by omega)
theorem bits_outer {l : List Int} (hb : Bytes l) (hl : l.length ≤ 1000) : ∀ (n m k : Nat), m + n = l.length →
    padlockref12_Bits.l0 (k + n * 10 + 1) l ((List.range (8 * m)).map fun i : Nat => getv l i) m = some (bitsOf l)
  | 0, m, k, h => by
    simp only [padlockref12_Bits.l0]
    rw [if_neg (by omega)]
    obtain rfl : m = l.length := by omega
    rfl
  | n + 1, m, k, h => by
    rw [show k + (n + 1) * 10 + 1 = ((k + n * 10 + 1) + 8 + 1) + 1 from by omega]
    generalize hK : k + n * 10 + 1 + 8 + 1 = K
    simp only [padlockref12_Bits.l0]
    subst hK
    obtain ⟨x, hx, hr⟩ := rd_nat hb m
    rw [if_pos (by omega), if_pos (by omega), hr]
    have h1 := bits_inner l ((List.range (8 * m)).map fun i : Nat => getv l i) m x hx (by simp; omega) (by omega) 8 0 (k + n * 10 + 1) rfl
    simp only [List.range_zero, List.map_nil, List.append_nil, Nat.pow_zero, Nat.div_one] at h1
    have e : ((List.range (8 * m)).map fun i : Nat => getv l i) ++ (List.range 8).map (fun i => decide (x / 2 ^ i % 2 = 1)) = (List.range (8 * (m + 1))).map fun i : Nat => getv l i := by
      rw [show 8 * (m + 1) = 8 * m + 8 from by omega, range_add8]
      congr 1
      apply List.map_congr_left
      intro j hj
      have := List.mem_range.1 hj
      exact (getv_at hb m j (by omega) hl this hr).symm
    rw [show ((0 : Nat) : Int) = 0 from rfl] at h1
    rw [h1, e]
    exact bits_outer hb hl n (m + 1) k (by omega)
theorem bits_tells {l : List Int} (hb : Bytes l) (hl : l.length ≤ 1000) (k : Nat) (hk : l.length * 10 < k) : padlockref12_Bits.f k l = some (bitsOf l) := by
  obtain ⟨q, rfl⟩ : ∃ q, k = q + l.length * 10 + 1 := ⟨k - (l.length * 10 + 1), by omega⟩
  exact bits_outer hb hl l.length 0 q (by omega)

theorem bytes_inner {l : List Int} (hb : Bytes l) (hl : l.length ≤ 1000) (acc : List Int) (hacc : acc.length ≤ 10000) (m x : Nat) (hx : x < 256) (hm : m < l.length) (hr : rd l m = x) : ∀ (j k : Nat), j ≤ 8 →
    padlockref12_Bytes.l1 (k + j + 1) (bitsOf l) acc ((8 * m : Nat) : Int) ((x / 2 ^ j : Nat) : Int) ((j : Int) - 1) = padlockref12_Bytes.l0 k (bitsOf l) (acc ++ [(x : Int)]) ((8 * (m + 1) : Nat) : Int)
  | 0, k, h => by
    simp only [padlockref12_Bytes.l1]
    rw [if_neg (by omega), if_pos (by omega), show wrap64 (((8 * m : Nat) : Int) + 8) = ((8 * (m + 1) : Nat) : Int) from by unfold wrap64; omega]
    simp
  | j + 1, k, h => by
    rw [show k + (j + 1) + 1 = (k + j + 1) + 1 from by omega]
    generalize hK : k + j + 1 = K
    simp only [padlockref12_Bytes.l1]
    subst hK
    have e0 : wrap64 (((8 * m : Nat) : Int) + (((j + 1 : Nat) : Int) - 1)) = ((8 * m + j : Nat) : Int) := by unfold wrap64; omega
    have e4 : wrap64 (((j + 1 : Nat) : Int) - 1 - 1) = (j : Int) - 1 := by unfold wrap64; omega
    have hle : x / 2 ^ j < 256 := Nat.lt_of_le_of_lt (Nat.div_le_self _ _) hx
    have e5 : x / 2 ^ (j + 1) = x / 2 ^ j / 2 := by rw [Nat.pow_succ, ← Nat.div_div_eq_div_mul]
    have ih := bytes_inner hb hl acc hacc m x hx hm hr j k (by omega)
    rw [if_pos (by omega), e0, if_pos (by omega), if_pos (by rw [bitsOf_length]; omega), e4, bitsOf_get l _ (by omega) (by omega), getv_at hb m j hm hl (by omega) hr, e5]
    generalize x / 2 ^ j = y at *
    by_cases hy : y % 2 = 1
    · rw [if_pos (by simpa using hy), show ((((((y / 2 : Nat) : Int)) * 2) % 256 + 1) % 256) = (y : Int) from by omega]
      exact ih
    · rw [if_neg (by simpa using hy), show ((((y / 2 : Nat) : Int)) * 2) % 256 = (y : Int) from by omega]
      exact ih
theorem bytes_outer {l : List Int} (hb : Bytes l) (hl : l.length ≤ 1000) : ∀ (n m k : Nat), m + n = l.length →
    padlockref12_Bytes.l0 (k + n * 10 + 1) (bitsOf l) (l.take m) ((8 * m : Nat) : Int) = some l
  | 0, m, k, h => by
    simp only [padlockref12_Bytes.l0]
    rw [if_neg (by rw [bitsOf_length]; omega), List.take_of_length_le (by omega)]
  | n + 1, m, k, h => by
    rw [show k + (n + 1) * 10 + 1 = ((k + n * 10 + 1) + 8 + 1) + 1 from by omega]
    generalize hK : k + n * 10 + 1 + 8 + 1 = K
    simp only [padlockref12_Bytes.l0]
    subst hK
    obtain ⟨x, hx, hr⟩ := rd_nat hb m
    rw [if_pos (by rw [bitsOf_length]; omega)]
    have h1 := bytes_inner hb hl (l.take m) (by simp; omega) m x hx (by omega) hr 8 (k + n * 10 + 1) (by omega)
    have h2 : x / 2 ^ 8 = 0 := Nat.div_eq_of_lt hx
    rw [h2] at h1
    have h3 : l.take m ++ [(x : Int)] = l.take (m + 1) := by
      rw [List.take_succ_eq_append_getElem (by omega)]
      congr 2
      rw [← hr]
      unfold rd
      simp
      rw [List.getElem?_eq_getElem (by omega)]
      rfl
    rw [h3] at h1
    rw [show ((0 : Nat) : Int) = 0 from rfl, show ((8 : Nat) : Int) - 1 = 7 from rfl] at h1
    rw [h1]
    exact bytes_outer hb hl n (m + 1) k (by omega)
theorem bytes_tells {l : List Int} (hb : Bytes l) (hl : l.length ≤ 1000) (k : Nat) (hk : l.length * 10 < k) : padlockref12_Bytes.f k (bitsOf l) = some l := by
  obtain ⟨q, rfl⟩ : ∃ q, k = q + l.length * 10 + 1 := ⟨k - (l.length * 10 + 1), by omega⟩
  exact bytes_outer hb hl l.length 0 q (by omega)
end Go.Proofs.Ythnmbeooohgccaa.HBm
