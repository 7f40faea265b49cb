/- Layer 3, plain: by one key unlike blocks are turned to unlike ones. -/
import Derived.Test.YthnmbeooohgccaaPAe
set_option linter.unusedVariables false
set_option linter.unusedSimpArgs false
namespace Go.Proofs.Ythnmbeooohgccaa.HAa
open Go.RowKit Go.Proofs.YthnmbeooohgccaaW.PrintWords Go.Proofs.Ythnmbeooohgccaa.Kit
def ph (x : Int) : BitVec 8 := BitVec.ofInt 8 x
def tB (x : BitVec 8) : BitVec 8 := x <<< 1 ^^^ (if x.msb then 27 else 0)
theorem tB_xor (x y : BitVec 8) : tB (x ^^^ y) = tB x ^^^ tB y := by
  unfold tB
  rw [BitVec.shiftLeft_xor_distrib, BitVec.msb_xor]
  have e : ∀ a b c d : BitVec 8, a ^^^ c ^^^ (b ^^^ d) = a ^^^ b ^^^ (c ^^^ d) := fun a b c d => by
    rw [BitVec.xor_assoc, BitVec.xor_assoc, ← BitVec.xor_assoc c, BitVec.xor_comm c b, BitVec.xor_assoc]
  rw [e]
  congr 1
  cases x.msb <;> cases y.msb <;> decide
theorem ph_nat (n : Nat) : ph (n : Int) = BitVec.ofNat 8 n := by unfold ph; rw [BitVec.ofInt_natCast]
theorem ph_inj (x y : Int) (hx : Byte x) (hy : Byte y) (h : ph x = ph y) : x = y := by
  obtain ⟨x, rfl⟩ := Int.eq_ofNat_of_zero_le hx.1
  obtain ⟨y, rfl⟩ := Int.eq_ofNat_of_zero_le hy.1
  rw [ph_nat, ph_nat] at h
  have h2 := congrArg BitVec.toNat h
  simp only [BitVec.toNat_ofNat] at h2
  have := hx.2
  have := hy.2
  omega
theorem ph_xor (a b : Int) (ha : Byte a) (hb : Byte b) : ph (Go.bits .xor .u8 a b) = ph a ^^^ ph b := by
  obtain ⟨a, rfl⟩ := Int.eq_ofNat_of_zero_le ha.1
  obtain ⟨b, rfl⟩ := Int.eq_ofNat_of_zero_le hb.1
  have h1 : a < 2 ^ 8 := by have := ha.2; omega
  have h2 : b < 2 ^ 8 := by have := hb.2; omega
  rw [bxor8 a b h1 h2, ph_nat, ph_nat, ph_nat]
  apply BitVec.eq_of_toNat_eq
  rw [BitVec.toNat_xor, BitVec.toNat_ofNat, BitVec.toNat_ofNat, BitVec.toNat_ofNat, Nat.mod_eq_of_lt h1, Nat.mod_eq_of_lt h2, Nat.mod_eq_of_lt (Nat.xor_lt_two_pow h1 h2)]
set_option maxRecDepth 100000 in
theorem ph_twice_fin : ∀ i : Fin 256, ph (twiceF i.1) = tB (ph i.1) := by decide +kernel
theorem ph_twice (a : Int) (ha : Byte a) : ph (twiceF a) = tB (ph a) := by
  obtain ⟨a, rfl⟩ := Int.eq_ofNat_of_zero_le ha.1
  exact ph_twice_fin ⟨a, by have := ha.2; omega⟩
/-! mixing, undone -/
def mB (a b c d : BitVec 8) : BitVec 8 := tB a ^^^ (tB b ^^^ b) ^^^ c ^^^ d
def sB (a c : BitVec 8) : BitVec 8 := tB (tB a) ^^^ tB (tB c) ^^^ a
theorem blc (a b c : BitVec 8) : a ^^^ (b ^^^ c) = b ^^^ (a ^^^ c) := by rw [← BitVec.xor_assoc, BitVec.xor_comm a b, BitVec.xor_assoc]
theorem bcc (a b : BitVec 8) : a ^^^ (a ^^^ b) = b := by rw [← BitVec.xor_assoc, BitVec.xor_self, BitVec.zero_xor]
theorem mB_twice (a b c d : BitVec 8) : mB (mB a b c d) (mB b c d a) (mB c d a b) (mB d a b c) = sB a c := by
  unfold mB sB
  simp only [tB_xor]
  generalize tB (tB a) = a2
  generalize tB (tB b) = b2
  generalize tB (tB c) = c2
  generalize tB (tB d) = d2
  generalize tB a = a1
  generalize tB b = b1
  generalize tB c = c1
  generalize tB d = d1
  simp only [BitVec.xor_assoc]
  simp only [BitVec.xor_comm, blc, bcc, BitVec.xor_self, BitVec.xor_zero, BitVec.zero_xor]
theorem sB_twice (a c : BitVec 8) : sB (sB a c) (sB c a) = a := by
  unfold sB
  simp only [tB_xor]
  generalize tB (tB (tB (tB a))) = a4
  generalize tB (tB (tB (tB c))) = c4
  generalize tB (tB a) = a2
  generalize tB (tB c) = c2
  simp only [BitVec.xor_assoc]
  simp only [BitVec.xor_comm, blc, bcc, BitVec.xor_self, BitVec.xor_zero, BitVec.zero_xor]
theorem mB_inj (a b c d a' b' c' d' : BitVec 8) (h0 : mB a b c d = mB a' b' c' d') (h1 : mB b c d a = mB b' c' d' a') (h2 : mB c d a b = mB c' d' a' b') (h3 : mB d a b c = mB d' a' b' c') : a = a' := by
  have e0 : sB a c = sB a' c' := by rw [← mB_twice a b c d, ← mB_twice a' b' c' d', h0, h1, h2, h3]
  have e1 : sB c a = sB c' a' := by rw [← mB_twice c d a b, ← mB_twice c' d' a' b', h0, h1, h2, h3]
  rw [← sB_twice a c, ← sB_twice a' c', e0, e1]
theorem ph_fM (xs : List Int) (hb : Bytes xs) (i : Nat) : ph (fM xs i) = mB (ph (at4 xs i 0)) (ph (at4 xs i 1)) (ph (at4 xs i 2)) (ph (at4 xs i 3)) := by
  have B : ∀ d, Byte (at4 xs i d) := fun d => byte_at hb (4 * (i / 4) + (i % 4 + d) % 4)
  unfold fM mB
  rw [ph_xor _ _ (bxor_b _ _ (bxor_b _ _ (twice_b _) (bxor_b _ _ (twice_b _) (B 1))) (B 2)) (B 3), ph_xor _ _ (bxor_b _ _ (twice_b _) (bxor_b _ _ (twice_b _) (B 1))) (B 2), ph_xor _ _ (twice_b _) (bxor_b _ _ (twice_b _) (B 1)), ph_xor _ _ (twice_b _) (B 1), ph_twice _ (B 0), ph_twice _ (B 1)]
theorem mapR_inj (f g : Nat → Int) (h : mapR f = mapR g) (i : Nat) (hi : i < 16) : f i = g i := by rw [← mapR_at f i hi, ← mapR_at g i hi, h]
theorem at4_at (xs : List Int) (c m d : Nat) (hm : m < 4) : at4 xs (4 * c + m) d = xs.getD (4 * c + (m + d) % 4) 0 := by
  unfold at4
  rw [show (4 * c + m) / 4 = c from by omega, show (4 * c + m) % 4 = m from by omega]
theorem mix_inj (xs ys : List Int) (hx : xs.length = 16) (hy : ys.length = 16) (bx : Bytes xs) (by_ : Bytes ys) (h : mixAll xs 4 = mixAll ys 4) : xs = ys := by
  rw [mix_map xs hx bx, mix_map ys hy by_] at h
  have hi := mapR_inj _ _ h
  have hp : ∀ c m, c < 4 → m < 4 → mB (ph (xs.getD (4 * c + (m + 0) % 4) 0)) (ph (xs.getD (4 * c + (m + 1) % 4) 0)) (ph (xs.getD (4 * c + (m + 2) % 4) 0)) (ph (xs.getD (4 * c + (m + 3) % 4) 0)) = mB (ph (ys.getD (4 * c + (m + 0) % 4) 0)) (ph (ys.getD (4 * c + (m + 1) % 4) 0)) (ph (ys.getD (4 * c + (m + 2) % 4) 0)) (ph (ys.getD (4 * c + (m + 3) % 4) 0)) := fun c m hc hm => by
    have e := congrArg ph (hi (4 * c + m) (by omega))
    rw [ph_fM xs bx, ph_fM ys by_] at e
    simp only [at4_at _ c m _ hm] at e
    exact e
  refine ext_getD _ _ 16 hx hy (fun j hj => ?_)
  obtain ⟨c, n, hc, hn, rfl⟩ : ∃ c n, c < 4 ∧ n < 4 ∧ j = 4 * c + n := ⟨j / 4, j % 4, by omega, by omega, by omega⟩
  apply ph_inj _ _ (byte_at bx _) (byte_at by_ _)
  have p0 := hp c 0 hc (by omega)
  have p1 := hp c 1 hc (by omega)
  have p2 := hp c 2 hc (by omega)
  have p3 := hp c 3 hc (by omega)
  match n, hn with
  | 0, _ => exact mB_inj _ _ _ _ _ _ _ _ p0 p1 p2 p3
  | 1, _ => exact mB_inj _ _ _ _ _ _ _ _ p1 p2 p3 p0
  | 2, _ => exact mB_inj _ _ _ _ _ _ _ _ p2 p3 p0 p1
  | 3, _ => exact mB_inj _ _ _ _ _ _ _ _ p3 p0 p1 p2
set_option maxRecDepth 100000 in
theorem box_back : ∀ i : Fin 256, boxT.idxOf (boxT.getD i.1 0) = i.1 := by decide +kernel
theorem box_inj (x y : Int) (hx : Byte x) (hy : Byte y) (h : boxT.getD x.toNat 0 = boxT.getD y.toNat 0) : x = y := by
  have e1 := box_back ⟨x.toNat, by have := hx.1; have := hx.2; omega⟩
  have e2 := box_back ⟨y.toNat, by have := hy.1; have := hy.2; omega⟩
  simp only at e1 e2
  rw [h] at e1
  have := hx.1
  have := hy.1
  omega
theorem sub_inj (xs ys : List Int) (hx : xs.length = 16) (hy : ys.length = 16) (bx : Bytes xs) (by_ : Bytes ys) (h : subN boxT xs 16 = subN boxT ys 16) : xs = ys := by
  rw [sub_map _ xs hx, sub_map _ ys hy] at h
  have hi := mapR_inj _ _ h
  refine ext_getD _ _ 16 hx hy (fun j hj => ?_)
  have e := hi (4 * ((j / 4 + (4 - j % 4)) % 4) + j % 4) (by omega)
  unfold fS at e
  rw [show 4 * (((4 * ((j / 4 + (4 - j % 4)) % 4) + j % 4) / 4 + (4 * ((j / 4 + (4 - j % 4)) % 4) + j % 4) % 4) % 4) + (4 * ((j / 4 + (4 - j % 4)) % 4) + j % 4) % 4 = j from by omega] at e
  exact box_inj _ _ (byte_at bx _) (byte_at by_ _) e
theorem xor_inj (x y k : Int) (hx : Byte x) (hy : Byte y) (hk : Byte k) (h : Go.bits .xor .u8 x k = Go.bits .xor .u8 y k) : x = y := by
  have e := congrArg ph h
  rw [ph_xor _ _ hx hk, ph_xor _ _ hy hk] at e
  have e2 := congrArg (· ^^^ ph k) e
  simp only [BitVec.xor_assoc, BitVec.xor_self, BitVec.xor_zero] at e2
  exact ph_inj _ _ hx hy e2
theorem add_inj (all : List Int) (r : Nat) (xs ys : List Int) (hx : xs.length = 16) (hy : ys.length = 16) (ba : Bytes all) (bx : Bytes xs) (by_ : Bytes ys) (h : addN all r xs 16 = addN all r ys 16) : xs = ys := by
  rw [add_map _ _ xs hx, add_map _ _ ys hy] at h
  have hi := mapR_inj _ _ h
  exact ext_getD _ _ 16 hx hy (fun j hj => xor_inj _ _ _ (byte_at bx _) (byte_at by_ _) (byte_at ba _) (hi j hj))
theorem round_inj (all : List Int) (r : Nat) (xs ys : List Int) (hx : xs.length = 16) (hy : ys.length = 16) (ba : Bytes all) (bx : Bytes xs) (by_ : Bytes ys) (h : roundF all boxT xs r = roundF all boxT ys r) : xs = ys := by
  have sx := subN_b boxT xs boxT_b bx 16
  have sy := subN_b boxT ys boxT_b by_ 16
  have lx : (subN boxT xs 16).length = 16 := by rw [subN_length, hx]
  have ly : (subN boxT ys 16).length = 16 := by rw [subN_length, hy]
  unfold roundF at h
  by_cases hr : r < 10
  · rw [if_pos hr, if_pos hr] at h
    have h2 := add_inj all r _ _ (by rw [mixAll_length, lx]) (by rw [mixAll_length, ly]) ba (mixAll_b _ sx 4) (mixAll_b _ sy 4) h
    exact sub_inj xs ys hx hy bx by_ (mix_inj _ _ lx ly sx sy h2)
  · rw [if_neg hr, if_neg hr] at h
    exact sub_inj xs ys hx hy bx by_ (add_inj all r _ _ lx ly ba sx sy h)
attribute [local irreducible] encN roundF addN subN mixAll boxT keyN in
theorem encN_inj (all a b : List Int) (ha : a.length = 16) (hb : b.length = 16) (ba : Bytes all) (xa : Bytes a) (xb : Bytes b) : ∀ n, encN all boxT a n = encN all boxT b n → a = b
  | 0, h => by
    rw [encN, encN] at h
    exact add_inj all 0 a b ha hb ba xa xb h
  | n + 1, h => by
    rw [encN, encN] at h
    exact encN_inj all a b ha hb ba xa xb n (round_inj all (n + 1) _ _ (by rw [encN_length, ha]) (by rw [encN_length, hb]) ba (encN_b _ _ _ ba boxT_b xa n) (encN_b _ _ _ ba boxT_b xb n) h)
attribute [local irreducible] encN boxT keyN in
theorem encF_inj (key a b : List Int) (hk : key.length = 16) (ha : a.length = 16) (hb : b.length = 16) (bk : Bytes key) (xa : Bytes a) (xb : Bytes b) (h : encF key a = encF key b) : a = b := by
  unfold encF at h
  exact encN_inj _ a b ha hb (keyN_b key boxT bk boxT_b 40) xa xb 10 h
end Go.Proofs.Ythnmbeooohgccaa.HAa
