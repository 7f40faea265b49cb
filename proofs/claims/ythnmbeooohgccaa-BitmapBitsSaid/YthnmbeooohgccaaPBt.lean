/- Plain lemmas on bits in bytes: what setting the first free one comes to. -/
import Derived.Test.YthnmbeooohgccaaHBn
import Derived.Test.YthnmbeooohgccaaBits
set_option linter.unusedVariables false
namespace Go.Proofs.Ythnmbeooohgccaa.HBm
open Go.RowKit Go.Proofs.YthnmbeooohgccaaW.PrintWords Go.Proofs.YthnmbeooohgccaaW.PrintLast Go.Proofs.Ythnmbeooohgccaa.Ba Go.Proofs.Ythnmbeooohgccaa.Kit

theorem getv_bit {l : List Int} (hb : Bytes l) (i : Int) (h0 : 0 ≤ i) (hi : i ≤ 9223372036854775807) (h1 : i / 8 < (l.length : Int)) :
    getv l i = (rd l (i / 8)).toNat.testBit (i % 8).toNat := by
  rw [getv_in l i h0 hi h1]
  obtain ⟨x, hx⟩ := Int.eq_ofNat_of_zero_le (hb.at_ (i / 8)).1
  have hx2 : x < 256 := by have := (hb.at_ (i / 8)).2; omega
  rw [hx]
  generalize (i % 8).toNat = m
  have e : ((x : Int) / 2 ^ m) = ((x / 2 ^ m : Nat) : Int) := by simp
  have hlt : x / 2 ^ m < 256 := Nat.lt_of_le_of_lt (Nat.div_le_self _ _) hx2
  rw [e, show (1 : Int) = ((1 : Nat) : Int) from rfl, band8 _ _ hlt (by decide)]
  simp only [Int.toNat_natCast]
  rw [Nat.testBit_eq_decide_div_mod_eq, Nat.and_one_is_mod]
  generalize x / 2 ^ m % 2 = y
  rw [Bool.eq_iff_iff]
  simp
  omega

theorem bytes_set {l : List Int} (hb : Bytes l) (n : Nat) (x : Int) (h0 : 0 ≤ x) (h1 : x < 256) : Bytes (l.set n x) := fun y hy => by
  rcases List.mem_or_eq_of_mem_set hy with h | h
  · exact hb y h
  · omega
theorem flip_val {l : List Int} (hb : Bytes l) (i : Int) (h0 : 0 ≤ i) : ∃ x : Nat, x < 256 ∧ rd l (i / 8) = x ∧ Go.bits .xor .u8 (rd l (i / 8)) (2 ^ (i % 8).toNat % 256) = ((x ^^^ 2 ^ (i % 8).toNat : Nat) : Int) := by
  obtain ⟨x, hx⟩ := Int.eq_ofNat_of_zero_le (hb.at_ (i / 8)).1
  have hx2 : x < 256 := by have := (hb.at_ (i / 8)).2; omega
  refine ⟨x, hx2, hx, ?_⟩
  rw [hx]
  have hm : (i % 8).toNat < 8 := by omega
  have hp : 2 ^ (i % 8).toNat < 256 := Nat.pow_lt_pow_right (a := 2) (by omega) hm
  have e : ((2 : Int) ^ (i % 8).toNat % 256) = ((2 ^ (i % 8).toNat : Nat) : Int) := by
    have : ((2 : Int) ^ (i % 8).toNat) = ((2 ^ (i % 8).toNat : Nat) : Int) := by simp
    rw [this]
    have h2 := Nat.mod_eq_of_lt hp
    generalize 2 ^ (i % 8).toNat = q at h2
    omega
  rw [e, bxor8 _ _ hx2 hp]
theorem bytes_flip {l : List Int} (hb : Bytes l) (i : Int) (h0 : 0 ≤ i) : Bytes (flip l i) := by
  obtain ⟨x, hx, _, he⟩ := flip_val hb i h0
  unfold flip
  rw [he]
  have hm : (i % 8).toNat < 8 := by omega
  have hp : 2 ^ (i % 8).toNat < 2 ^ 8 := Nat.pow_lt_pow_right (a := 2) (by omega) hm
  have := Nat.xor_lt_two_pow (n := 8) hx hp
  exact bytes_set hb _ _ (by omega) (by omega)
theorem flip_length (l : List Int) (i : Int) : (flip l i).length = l.length := by simp [flip]
theorem rd_set_same {l : List Int} (n : Int) (x : Int) (h0 : 0 ≤ n) (h : n < (l.length : Int)) : rd (l.set n.toNat x) n = x := by
  unfold rd
  rw [List.getD_eq_getElem?_getD, List.getElem?_set_self (by omega)]
  rfl
theorem rd_set_ne {l : List Int} (n m : Int) (x : Int) (h0 : 0 ≤ n) (h1 : 0 ≤ m) (h : n ≠ m) : rd (l.set n.toNat x) m = rd l m := by
  unfold rd
  rw [List.getD_eq_getElem?_getD, List.getElem?_set_ne (by omega), ← List.getD_eq_getElem?_getD]
theorem getv_flip {l : List Int} (hb : Bytes l) (i j : Int) (h0 : 0 ≤ i) (hi : i ≤ 9223372036854775807) (h1 : i / 8 < (l.length : Int)) (hj : j ≤ 9223372036854775807) :
    getv (flip l i) j = if j = i then !getv l j else getv l j := by
  by_cases hj0 : 0 ≤ j ∧ j / 8 < (l.length : Int)
  · obtain ⟨hj0, hj1⟩ := hj0
    rw [getv_bit (bytes_flip hb i h0) j hj0 hj (by rw [flip_length]; exact hj1), getv_bit hb j hj0 hj hj1]
    obtain ⟨x, hx, hr, he⟩ := flip_val hb i h0
    by_cases hq : j / 8 = i / 8
    · have e1 : rd (flip l i) (j / 8) = ((x ^^^ 2 ^ (i % 8).toNat : Nat) : Int) := by
        unfold flip; rw [he, hq, rd_set_same _ _ (by omega) h1]
      rw [e1, hq, hr]
      simp only [Int.toNat_natCast]
      rw [Nat.testBit_xor, Nat.testBit_two_pow]
      by_cases hji : j = i
      · subst hji; simp
      · have hne : ¬ (i % 8).toNat = (j % 8).toNat := by omega
        rw [if_neg hji]
        simp [hne]
    · have e1 : rd (flip l i) (j / 8) = rd l (j / 8) := by
        unfold flip; exact rd_set_ne _ _ _ (by omega) (by omega) (fun e => hq e.symm)
      have hji : j ≠ i := fun e => hq (by rw [e])
      rw [e1, if_neg hji]
  · have hji : j ≠ i := by rintro rfl; exact hj0 ⟨h0, h1⟩
    rw [getv_out _ j (by rw [flip_length]; omega) hj, getv_out _ j (by omega) hj, if_neg hji]

/-! counting -/
theorem cnt_congr {p q : Int → Bool} {lo : Int} : ∀ n : Nat, (∀ j, lo ≤ j → j < lo + n → p j = q j) → cnt p lo n = cnt q lo n
  | 0, _ => rfl
  | n + 1, h => by
    unfold cnt
    rw [cnt_congr n (fun j h1 h2 => h j h1 (by omega)), h (lo + n) (by omega) (by omega)]
theorem cnt_one {p q : Int → Bool} {lo : Int} (i : Int) (hi : lo ≤ i) (hp : p i = false) (hq : q i = true) : ∀ n : Nat, i < lo + n → (∀ j, lo ≤ j → j < lo + n → j ≠ i → p j = q j) → cnt q lo n = cnt p lo n + 1
  | 0, h, _ => by omega
  | n + 1, h, hj => by
    unfold cnt
    by_cases e : lo + (n : Int) = i
    · rw [e, hp, hq, cnt_congr n (p := q) (q := p) (fun j h1 h2 => (hj j h1 (by omega) (by omega)).symm)]
      simp
    · rw [cnt_one i hi hp hq n (by omega) (fun j h1 h2 h3 => hj j h1 (by omega) h3), hj (lo + n) (by omega) (by omega) e]
      omega
theorem cnt_all {p : Int → Bool} {lo : Int} : ∀ n : Nat, (∀ j, lo ≤ j → j < lo + n → p j = true) → cnt p lo n = n
  | 0, _ => rfl
  | n + 1, h => by
    unfold cnt
    rw [cnt_all n (fun j h1 h2 => h j h1 (by omega)), h (lo + n) (by omega) (by omega)]
    simp

theorem many_tells (l : List Int) (lo hi : Int) (hl : l.length ≤ 100) : ∀ (d : Nat) (k : Nat) (n i : Int), 0 ≤ i → 8 * (l.length : Int) - i = d → 0 ≤ n → n ≤ i → d < k →
    padlocklaw12_many.l0 k l lo hi n i = some (n + (min hi (8 * (l.length : Int)) - max lo i).toNat)
  | d, 0, n, i, h0, hd, hn, hn2, hk => by omega
  | 0, k + 1, n, i, h0, hd, hn, hn2, hk => by
    simp only [padlocklaw12_many.l0]
    rw [if_neg (by unfold wrap64; omega)]
    congr 1
    omega
  | d + 1, k + 1, n, i, h0, hd, hn, hn2, hk => by
    simp only [padlocklaw12_many.l0]
    have w1 : wrap64 (i + 1) = i + 1 := by unfold wrap64; omega
    have w2 : wrap64 (n + 1) = n + 1 := by unfold wrap64; omega
    rw [if_pos (by unfold wrap64; omega), w1, w2]
    by_cases h1 : i ≥ lo
    · rw [if_pos h1]
      by_cases h2 : i < hi
      · rw [if_pos h2, many_tells l lo hi hl d k (n + 1) (i + 1) (by omega) (by omega) (by omega) (by omega) (by omega)]
        congr 1
        omega
      · rw [if_neg h2, many_tells l lo hi hl d k n (i + 1) (by omega) (by omega) (by omega) (by omega) (by omega)]
        congr 1
        omega
    · rw [if_neg h1, many_tells l lo hi hl d k n (i + 1) (by omega) (by omega) (by omega) (by omega) (by omega)]
      congr 1
      omega
end Go.Proofs.Ythnmbeooohgccaa.HBm
