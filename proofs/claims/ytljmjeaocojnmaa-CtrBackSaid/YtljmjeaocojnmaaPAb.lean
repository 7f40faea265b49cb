/- Layer 3, plain: doubling is linear; a column's byte, both ways. -/
import Derived.Test.YtljmjeaocojnmaaPAa
set_option linter.unusedVariables false
set_option linter.unusedSimpArgs false
namespace Go.Proofs.Ytljmjeaocojnmaa.HAa
open Go.RowKit Go.Proofs.YtljmjeaocojnmaaW.PrintWords Go.Proofs.Ytljmjeaocojnmaa.Kit Go.Proofs.Ytljmjeaocojnmaa.Ra
theorem twice_nat (x : Nat) (h : x < 256) : twiceF x = ((x <<< 1 ^^^ (x >>> 7) * 283 : Nat) : Int) := twice_fin ⟨x, h⟩
theorem xlc (a b c : Nat) : a ^^^ (b ^^^ c) = b ^^^ (a ^^^ c) := by rw [← Nat.xor_assoc, Nat.xor_comm a b, Nat.xor_assoc]
theorem bit_mul (p q : Nat) (hp : p < 2) (hq : q < 2) : (p ^^^ q) * 283 = p * 283 ^^^ q * 283 := by
  match p, q, hp, hq with
  | 0, 0, _, _ => rfl
  | 0, 1, _, _ => rfl
  | 1, 0, _, _ => rfl
  | 1, 1, _, _ => rfl
theorem twice_xor (x y : Nat) (hx : x < 256) (hy : y < 256) : (x ^^^ y) <<< 1 ^^^ ((x ^^^ y) >>> 7) * 283 = (x <<< 1 ^^^ (x >>> 7) * 283) ^^^ (y <<< 1 ^^^ (y >>> 7) * 283) := by
  have h1 : x >>> 7 < 2 := by rw [Nat.shiftRight_eq_div_pow]; omega
  have h2 : y >>> 7 < 2 := by rw [Nat.shiftRight_eq_div_pow]; omega
  rw [Nat.shiftLeft_xor_distrib, Nat.shiftRight_xor_distrib, bit_mul _ _ h1 h2]
  simp only [Nat.xor_assoc, Nat.xor_comm, xlc]
theorem twice_lin (a b : Int) (ha : Byte a) (hb : Byte b) : twiceF (Go.bits .xor .u8 a b) = Go.bits .xor .u8 (twiceF a) (twiceF b) := by
  have ta := twice_b a
  have tb := twice_b b
  obtain ⟨a, rfl⟩ := Int.eq_ofNat_of_zero_le ha.1
  obtain ⟨b, rfl⟩ := Int.eq_ofNat_of_zero_le hb.1
  have h1 : a < 2 ^ 8 := by have := ha.2; omega
  have h2 : b < 2 ^ 8 := by have := hb.2; omega
  have h3 := Nat.xor_lt_two_pow h1 h2
  rw [bxor8 a b h1 h2]
  have e1 := twice_nat a h1
  have e2 := twice_nat b h2
  have e3 := twice_nat (a ^^^ b) h3
  rw [e1] at ta ⊢
  rw [e2] at tb ⊢
  rw [e3, bxor8 _ _ (by have := ta.2; omega) (by have := tb.2; omega), twice_xor a b h1 h2]
/-- a column's byte, both ways -/
theorem mix_eq (a b c d : Int) (ha : Byte a) (hb : Byte b) (hc : Byte c) (hd : Byte d) (all : Int) (hall : all = Go.bits .xor .u8 (Go.bits .xor .u8 (Go.bits .xor .u8 a b) c) d) :
    mixV all a b = Go.bits .xor .u8 (Go.bits .xor .u8 (Go.bits .xor .u8 (twiceF a) (Go.bits .xor .u8 (twiceF b) b)) c) d := by
  unfold mixV
  rw [twice_lin a b ha hb, hall]
  have ta := twice_b a
  have tb := twice_b b
  obtain ⟨p, hp⟩ := Int.eq_ofNat_of_zero_le ta.1
  obtain ⟨q, hq⟩ := Int.eq_ofNat_of_zero_le tb.1
  rw [hp] at ta ⊢
  rw [hq] at tb ⊢
  clear hp hq hall
  obtain ⟨a, rfl⟩ := Int.eq_ofNat_of_zero_le ha.1
  obtain ⟨b, rfl⟩ := Int.eq_ofNat_of_zero_le hb.1
  obtain ⟨c, rfl⟩ := Int.eq_ofNat_of_zero_le hc.1
  obtain ⟨d, rfl⟩ := Int.eq_ofNat_of_zero_le hd.1
  have ha' : a < 2 ^ 8 := by have := ha.2; omega
  have hb' : b < 2 ^ 8 := by have := hb.2; omega
  have hc' : c < 2 ^ 8 := by have := hc.2; omega
  have hd' : d < 2 ^ 8 := by have := hd.2; omega
  have hp' : p < 2 ^ 8 := by have := ta.2; omega
  have hq' : q < 2 ^ 8 := by have := tb.2; omega
  have x1 := Nat.xor_lt_two_pow ha' hb'
  have x2 := Nat.xor_lt_two_pow x1 hc'
  have x3 := Nat.xor_lt_two_pow x2 hd'
  have x4 := Nat.xor_lt_two_pow hp' hq'
  have x5 := Nat.xor_lt_two_pow x3 x4
  have x6 := Nat.xor_lt_two_pow hq' hb'
  have x7 := Nat.xor_lt_two_pow hp' x6
  have x8 := Nat.xor_lt_two_pow x7 hc'
  rw [bxor8 a b ha' hb', bxor8 _ c x1 hc', bxor8 _ d x2 hd', bxor8 p q hp' hq', bxor8 _ _ x3 x4, bxor8 a _ ha' x5, bxor8 q b hq' hb', bxor8 p _ hp' x6, bxor8 _ c x7 hc', bxor8 _ d x8 hd']
  congr 1
  have e : a ^^^ (a ^^^ b ^^^ c ^^^ d ^^^ (p ^^^ q)) = b ^^^ c ^^^ d ^^^ (p ^^^ q) := by
    simp only [Nat.xor_assoc]
    rw [← Nat.xor_assoc a a, Nat.xor_self, Nat.zero_xor]
  rw [e]
  simp only [Nat.xor_assoc, Nat.xor_comm, xlc]
theorem mixA_turn (a b c d : Int) (ha : Byte a) (hb : Byte b) (hc : Byte c) (hd : Byte d) : Go.bits .xor .u8 (Go.bits .xor .u8 (Go.bits .xor .u8 a b) c) d = Go.bits .xor .u8 (Go.bits .xor .u8 (Go.bits .xor .u8 b c) d) a := by
  obtain ⟨a, rfl⟩ := Int.eq_ofNat_of_zero_le ha.1
  obtain ⟨b, rfl⟩ := Int.eq_ofNat_of_zero_le hb.1
  obtain ⟨c, rfl⟩ := Int.eq_ofNat_of_zero_le hc.1
  obtain ⟨d, rfl⟩ := Int.eq_ofNat_of_zero_le hd.1
  have ha' : a < 2 ^ 8 := by have := ha.2; omega
  have hb' : b < 2 ^ 8 := by have := hb.2; omega
  have hc' : c < 2 ^ 8 := by have := hc.2; omega
  have hd' : d < 2 ^ 8 := by have := hd.2; omega
  have x1 := Nat.xor_lt_two_pow ha' hb'
  have x2 := Nat.xor_lt_two_pow x1 hc'
  have x3 := Nat.xor_lt_two_pow hb' hc'
  have x4 := Nat.xor_lt_two_pow x3 hd'
  rw [bxor8 a b ha' hb', bxor8 _ c x1 hc', bxor8 _ d x2 hd', bxor8 b c hb' hc', bxor8 _ d x3 hd', bxor8 _ a x4 ha']
  congr 1
  simp only [Nat.xor_assoc, Nat.xor_comm, xlc]
end Go.Proofs.Ytljmjeaocojnmaa.HAa
