/- Layer 3, plain: the reference's printed loops come to the program's rounds. -/
import Derived.Test.YtljmjeaocojnmaaPAc
set_option linter.unusedVariables false
set_option linter.unusedSimpArgs false
namespace Go.Proofs.Ytljmjeaocojnmaa.HAa
open Go.RowKit Go.Proofs.YtljmjeaocojnmaaW.PrintWords Go.Proofs.Ytljmjeaocojnmaa.Kit Go.Proofs.Ytljmjeaocojnmaa.Ra
theorem mul_two (x : Int) (h : Byte x) (d : Nat) : padlockref03_Mul.f (10 + d) x 2 = some (twiceF x) := by
  obtain ⟨x, rfl⟩ := Int.eq_ofNat_of_zero_le h.1
  have h0 := (mul_fin ⟨x, by have := h.2; omega⟩).1
  induction d with
  | zero => exact h0
  | succ d ih => exact padlockref03_Mul.mono _ _ _ _ ih
theorem mul_three (x : Int) (h : Byte x) (d : Nat) : padlockref03_Mul.f (10 + d) x 3 = some (Go.bits .xor .u8 (twiceF x) x) := by
  obtain ⟨x, rfl⟩ := Int.eq_ofNat_of_zero_le h.1
  have h0 := (mul_fin ⟨x, by have := h.2; omega⟩).2
  induction d with
  | zero => exact h0
  | succ d ih => exact padlockref03_Mul.mono _ _ _ _ ih
theorem rd_at (l : List Int) (j : Nat) : rd l (j : Int) = l.getD j 0 := rfl
/-! add -/
structure WordsOf (KS : List Int) (W : List (List Int)) : Prop where
  len : W.length = 44
  get : ∀ j, j < 44 → W.getD j [] = four KS (4 * j)
theorem four_at (xs : List Int) (o n : Nat) (h : n < 4) : (four xs o).getD n 0 = xs.getD (o + n) 0 := by
  match n, h with
  | 0, _ => rfl
  | 1, _ => rfl
  | 2, _ => rfl
  | 3, _ => rfl
theorem add_step (KS : List Int) (W : List (List Int)) (hW : WordsOf KS W) (b acc : List Int) (hb : b.length = 16) (r i k : Nat) (hr : r ≤ 10) (hi : i < 16) (ha : acc.length ≤ 16) :
    padlockref03_add.l0 (k + 1) b W r acc i = padlockref03_add.l0 k b W r (acc ++ [fA KS b r i]) ((i + 1 : Nat) : Int) := by
  have e1 : wrap64 (wrap64 (4 * (r : Int)) + wrap64 (Int.tdiv (i : Int) 4)) = ((4 * r + i / 4 : Nat) : Int) := by
    rw [Int.tdiv_eq_ediv_of_nonneg (by omega)]
    unfold wrap64
    omega
  have e2 : Int.tmod (i : Int) 4 = ((i % 4 : Nat) : Int) := by rw [Int.tmod_eq_emod_of_nonneg (by omega)]; omega
  have e3 : wrap64 ((i : Int) + 1) = ((i + 1 : Nat) : Int) := by unfold wrap64; omega
  have e4 : rd_L1 W ((4 * r + i / 4 : Nat) : Int) = four KS (4 * (4 * r + i / 4)) := hW.get _ (by omega)
  simp only [padlockref03_add.l0, e1, e2, e3]
  rw [e4, if_pos (by omega), if_pos (by omega), if_pos (by omega), if_pos (by omega), if_pos (by rw [hW.len]; omega), if_pos (by omega), if_pos (by simp [four]; omega), if_pos (by omega)]
  unfold fA
  rw [rd_at, rd_at, four_at _ _ _ (by omega), show 4 * (4 * r + i / 4) + i % 4 = 16 * r + i from by omega]
theorem add_loop (KS : List Int) (W : List (List Int)) (hW : WordsOf KS W) (b : List Int) (hb : b.length = 16) (r : Nat) (hr : r ≤ 10) : ∀ d i k, i + d = 16 →
    padlockref03_add.l0 (k + d + 1) b W r ((List.range i).map (fA KS b r)) i = some (mapR (fA KS b r))
  | 0, i, k, h => by
    have : i = 16 := by omega
    subst this
    show padlockref03_add.l0 (k + 1) b W r _ _ = _
    simp only [padlockref03_add.l0]
    rw [if_neg (by omega)]
    rfl
  | d + 1, i, k, h => by
    rw [show k + (d + 1) + 1 = (k + d + 1) + 1 from by omega, add_step KS W hW b _ hb r i _ hr (by omega) (by simp; omega)]
    have := add_loop KS W hW b hb r hr d (i + 1) k (by omega)
    rw [List.range_succ, List.map_append] at this
    exact this
theorem add_tells (KS : List Int) (W : List (List Int)) (hW : WordsOf KS W) (b : List Int) (hb : b.length = 16) (r : Nat) (hr : r ≤ 10) (k : Nat) : padlockref03_add.f (k + 17) b W r = some (addN KS r b 16) := by
  rw [add_map _ _ _ hb]
  exact add_loop KS W hW b hb r hr 16 0 k (by omega)
/-! the bytes, swapped -/
def bld (f : Nat → Int) (j : Nat) : List Int := (List.range j).map f ++ List.replicate (16 - j) 0
theorem bld_length (f : Nat → Int) (j : Nat) (h : j ≤ 16) : (bld f j).length = 16 := by simp [bld]; omega
theorem bld_set (f : Nat → Int) (j : Nat) (h : j < 16) : (bld f j).set j (f j) = bld f (j + 1) := by
  unfold bld
  rw [show List.replicate (16 - j) (0 : Int) = 0 :: List.replicate (16 - (j + 1)) 0 from by rw [show 16 - j = (16 - (j + 1)) + 1 from by omega, List.replicate_succ], List.set_append_right _ _ (by simp)]
  simp [List.range_succ]
theorem bld_end (f : Nat → Int) : bld f 16 = mapR f := by simp [bld, mapR]
theorem ix0 (c n : Nat) (hc : c < 4) (hn : n < 4) : wrap64 (wrap64 (4 * (c : Int)) + (n : Int)) = ((4 * c + n : Nat) : Int) := by unfold wrap64; omega
theorem ix1 (c n : Nat) (hc : c < 4) (hn : n < 4) : wrap64 (wrap64 (4 * (Int.tmod (wrap64 ((c : Int) + (n : Int))) 4)) + (n : Int)) = ((4 * ((c + n) % 4) + n : Nat) : Int) := by
  rw [show wrap64 ((c : Int) + (n : Int)) = ((c + n : Nat) : Int) from by unfold wrap64; omega, Int.tmod_eq_emod_of_nonneg (by omega)]
  unfold wrap64
  omega
theorem ixd (c n d : Nat) (hc : c < 4) (hn : n < 4) (hd : d < 4) : wrap64 (wrap64 (4 * (c : Int)) + Int.tmod (wrap64 ((n : Int) + (d : Int))) 4) = ((4 * c + (n + d) % 4 : Nat) : Int) := by
  rw [show wrap64 ((n : Int) + (d : Int)) = ((n + d : Nat) : Int) from by unfold wrap64; omega, Int.tmod_eq_emod_of_nonneg (by omega)]
  unfold wrap64
  omega
theorem nx (c : Nat) (hc : c < 100) : wrap64 ((c : Int) + 1) = ((c + 1 : Nat) : Int) := by unfold wrap64; omega
theorem sub_step (W : List (List Int)) (box b x9 : List Int) (r : Int) (c n k : Nat) (hc : c < 4) (hn : n < 4) (h256 : box.length = 256) (hb : b.length = 16) (hby : Bytes b) :
    padlockref03_Turned.l2 (k + 1) W box b r (bld (fS box b) (4 * c + n)) c n = padlockref03_Turned.l2 k W box b r (bld (fS box b) (4 * c + (n + 1))) c ((n + 1 : Nat) : Int) := by
  have B := byte_at hby (4 * ((c + n) % 4) + n)
  simp only [padlockref03_Turned.l2, ix0 c n hc hn, ix1 c n hc hn, nx n (by omega), rd_at]
  rw [if_pos (by omega), if_pos (by omega), if_pos (by rw [hb]; omega), if_pos (by omega), if_pos (by rw [h256]; omega), if_pos (by omega), if_pos (by rw [bld_length _ _ (by omega)]; omega)]
  rw [Int.toNat_natCast, show 4 * c + (n + 1) = 4 * c + n + 1 from by omega, ← bld_set _ _ (by omega)]
  congr 1
  congr 1
  unfold fS
  rw [show (4 * c + n) / 4 = c from by omega, show (4 * c + n) % 4 = n from by omega]
  rfl
theorem sub_col (W : List (List Int)) (box b : List Int) (r : Int) (c k : Nat) (hc : c < 4) (h256 : box.length = 256) (hb : b.length = 16) (hby : Bytes b) :
    padlockref03_Turned.l1 (k + 6) W box b r (bld (fS box b) (4 * c)) c = padlockref03_Turned.l1 k W box b r (bld (fS box b) (4 * (c + 1))) ((c + 1 : Nat) : Int) := by
  have s0 := sub_step W box b [] r c 0 (k + 4) hc (by omega) h256 hb hby
  have s1 := sub_step W box b [] r c 1 (k + 3) hc (by omega) h256 hb hby
  have s2 := sub_step W box b [] r c 2 (k + 2) hc (by omega) h256 hb hby
  have s3 := sub_step W box b [] r c 3 (k + 1) hc (by omega) h256 hb hby
  have e : padlockref03_Turned.l1 (k + 6) W box b r (bld (fS box b) (4 * c)) c = padlockref03_Turned.l2 (k + 5) W box b r (bld (fS box b) (4 * c)) c 0 := by
    generalize hK : k + 5 = K
    rw [show k + 6 = K + 1 from by omega]
    simp only [padlockref03_Turned.l1]
    rw [if_pos (by omega)]
  have e2 : padlockref03_Turned.l2 (k + 1) W box b r (bld (fS box b) (4 * c + 4)) c ((4 : Nat) : Int) = padlockref03_Turned.l1 k W box b r (bld (fS box b) (4 * (c + 1))) ((c + 1 : Nat) : Int) := by
    simp only [padlockref03_Turned.l2]
    rw [if_neg (by omega), nx c (by omega), show 4 * (c + 1) = 4 * c + 4 from by omega]
  rw [e]
  exact s0.trans (s1.trans (s2.trans (s3.trans e2)))
/-! the columns, mixed -/
theorem mix_step (W : List (List Int)) (box s : List Int) (r : Int) (c n k : Nat) (hc : c < 4) (hn : n < 4) (hs : s.length = 16) (hby : Bytes s) :
    padlockref03_Turned.l4 (k + 10 + 1) W box (bld (fM s) (4 * c + n)) r s c n = padlockref03_Turned.l4 (k + 10) W box (bld (fM s) (4 * c + (n + 1))) r s c ((n + 1 : Nat) : Int) := by
  generalize hK : k + 10 = K
  have i1 := ixd c n 1 hc hn (by omega)
  have i2 := ixd c n 2 hc hn (by omega)
  have i3 := ixd c n 3 hc hn (by omega)
  rw [show (((1 : Nat) : Int)) = 1 from rfl] at i1
  rw [show (((2 : Nat) : Int)) = 2 from rfl] at i2
  rw [show (((3 : Nat) : Int)) = 3 from rfl] at i3
  have m2 := mul_two (s.getD (4 * c + n) 0) (byte_at hby _) k
  have m3 := mul_three (s.getD (4 * c + (n + 1) % 4) 0) (byte_at hby _) k
  rw [show 10 + k = K from by omega] at m2 m3
  simp only [padlockref03_Turned.l4, ix0 c n hc hn, i1, i2, i3, rd_at, m2, m3, Option.bind_some]
  rw [if_pos (by omega), if_pos (by omega), if_pos (by rw [hs]; omega), if_pos (by omega), if_pos (by rw [hs]; omega), if_pos (by omega), if_pos (by rw [hs]; omega), if_pos (by omega), if_pos (by rw [hs]; omega), if_pos (by rw [bld_length _ _ (by omega)]; omega)]
  rw [nx n (by omega), Int.toNat_natCast, show 4 * c + (n + 1) = 4 * c + n + 1 from by omega, ← bld_set _ _ (by omega)]
  congr 1
  congr 1
  unfold fM at4
  rw [show (4 * c + n) / 4 = c from by omega, show (4 * c + n) % 4 = n from by omega, show (n + 0) % 4 = n from by omega]
theorem mix_col (W : List (List Int)) (box s : List Int) (r : Int) (c k : Nat) (hc : c < 4) (hs : s.length = 16) (hby : Bytes s) :
    padlockref03_Turned.l3 (k + 10 + 6) W box (bld (fM s) (4 * c)) r s c = padlockref03_Turned.l3 (k + 10) W box (bld (fM s) (4 * (c + 1))) r s ((c + 1 : Nat) : Int) := by
  have s0 := mix_step W box s r c 0 (k + 4) hc (by omega) hs hby
  have s1 := mix_step W box s r c 1 (k + 3) hc (by omega) hs hby
  have s2 := mix_step W box s r c 2 (k + 2) hc (by omega) hs hby
  have s3 := mix_step W box s r c 3 (k + 1) hc (by omega) hs hby
  rw [show k + 4 + 10 + 1 = k + 10 + 5 from by omega, show k + 4 + 10 = k + 10 + 4 from by omega] at s0
  rw [show k + 3 + 10 + 1 = k + 10 + 4 from by omega, show k + 3 + 10 = k + 10 + 3 from by omega] at s1
  rw [show k + 2 + 10 + 1 = k + 10 + 3 from by omega, show k + 2 + 10 = k + 10 + 2 from by omega] at s2
  rw [show k + 1 + 10 + 1 = k + 10 + 2 from by omega, show k + 1 + 10 = k + 10 + 1 from by omega] at s3
  have e : padlockref03_Turned.l3 (k + 10 + 6) W box (bld (fM s) (4 * c)) r s c = padlockref03_Turned.l4 (k + 10 + 5) W box (bld (fM s) (4 * c)) r s c 0 := by
    generalize hK : k + 10 + 5 = K
    rw [show k + 10 + 6 = K + 1 from by omega]
    simp only [padlockref03_Turned.l3]
    rw [if_pos (by omega)]
  have e2 : padlockref03_Turned.l4 (k + 10 + 1) W box (bld (fM s) (4 * c + 4)) r s c ((4 : Nat) : Int) = padlockref03_Turned.l3 (k + 10) W box (bld (fM s) (4 * (c + 1))) r s ((c + 1 : Nat) : Int) := by
    generalize hK : k + 10 = K
    simp only [padlockref03_Turned.l4]
    rw [if_neg (by omega), nx c (by omega), show 4 * (c + 1) = 4 * c + 4 from by omega]
  rw [e]
  exact s0.trans (s1.trans (s2.trans (s3.trans e2)))
theorem sub_all (W : List (List Int)) (box b : List Int) (r : Int) (k : Nat) (h256 : box.length = 256) (hb : b.length = 16) (hby : Bytes b) :
    padlockref03_Turned.l1 (k + 24) W box b r (List.replicate 16 0) 0 = padlockref03_Turned.l1 k W box b r (subN box b 16) 4 := by
  have s0 := sub_col W box b r 0 (k + 18) (by omega) h256 hb hby
  have s1 := sub_col W box b r 1 (k + 12) (by omega) h256 hb hby
  have s2 := sub_col W box b r 2 (k + 6) (by omega) h256 hb hby
  have s3 := sub_col W box b r 3 k (by omega) h256 hb hby
  rw [sub_map _ _ hb, ← bld_end]
  exact s0.trans (s1.trans (s2.trans s3))
theorem mix_all (W : List (List Int)) (box s : List Int) (r : Int) (k : Nat) (hs : s.length = 16) (hby : Bytes s) :
    padlockref03_Turned.l3 (k + 10 + 24) W box (List.replicate 16 0) r s 0 = padlockref03_Turned.l3 (k + 10) W box (mixAll s 4) r s 4 := by
  have s0 := mix_col W box s r 0 (k + 18) (by omega) hs hby
  have s1 := mix_col W box s r 1 (k + 12) (by omega) hs hby
  have s2 := mix_col W box s r 2 (k + 6) (by omega) hs hby
  have s3 := mix_col W box s r 3 k (by omega) hs hby
  rw [mix_map _ hs hby, ← bld_end]
  rw [show k + 18 + 10 + 6 = k + 10 + 24 from by omega, show k + 18 + 10 = k + 10 + 18 from by omega] at s0
  rw [show k + 12 + 10 + 6 = k + 10 + 18 from by omega, show k + 12 + 10 = k + 10 + 12 from by omega] at s1
  rw [show k + 6 + 10 + 6 = k + 10 + 12 from by omega, show k + 6 + 10 = k + 10 + 6 from by omega] at s2
  exact s0.trans (s1.trans (s2.trans s3))
theorem round_step (KS : List Int) (W : List (List Int)) (hW : WordsOf KS W) (box b : List Int) (r k : Nat) (hr : 1 ≤ r ∧ r ≤ 10) (h256 : box.length = 256) (hB : Bytes box) (hb : b.length = 16) (hby : Bytes b) :
    ∃ d, d ≤ 51 ∧ padlockref03_Turned.l0 (k + 30 + d) W box b r = padlockref03_Turned.l0 (k + 30) W box (roundF KS box b r) ((r + 1 : Nat) : Int) := by
  have hsl : (subN box b 16).length = 16 := by rw [subN_length, hb]
  have hsb : Bytes (subN box b 16) := subN_b _ _ hB hby _
  by_cases h10 : r < 10
  · refine ⟨51, by omega, ?_⟩
    have e0 : padlockref03_Turned.l0 (k + 30 + 51) W box b r = padlockref03_Turned.l1 (k + 56 + 24) W box b r (List.replicate 16 0) 0 := by
      generalize hK : k + 56 + 24 = K
      rw [show k + 30 + 51 = K + 1 from by omega]
      simp only [padlockref03_Turned.l0]
      rw [if_pos (by omega), if_pos (by decide)]
    have e1 : padlockref03_Turned.l1 (k + 56) W box b r (subN box b 16) 4 = padlockref03_Turned.l3 (k + 21 + 10 + 24) W box (List.replicate 16 0) r (subN box b 16) 0 := by
      generalize hK : k + 21 + 10 + 24 = K
      rw [show k + 56 = K + 1 from by omega]
      simp only [padlockref03_Turned.l1]
      rw [if_neg (by omega), if_pos (by omega), if_pos (by decide)]
    have e2 : padlockref03_Turned.l3 (k + 21 + 10) W box (mixAll (subN box b 16) 4) r (subN box b 16) 4 = padlockref03_Turned.l0 (k + 30) W box (roundF KS box b r) ((r + 1 : Nat) : Int) := by
      have ha := add_tells KS W hW (mixAll (subN box b 16) 4) (by rw [mixAll_length, hsl]) r (by omega) (k + 13)
      rw [show k + 13 + 17 = k + 30 from by omega] at ha
      generalize hK : k + 30 = K at *
      rw [show k + 21 + 10 = K + 1 from by omega]
      simp only [padlockref03_Turned.l3]
      rw [if_neg (by omega), ha, nx r (by omega)]
      simp only [Option.bind_some]
      unfold roundF
      rw [if_pos h10]
    rw [e0, sub_all W box b r (k + 56) h256 hb hby, e1, mix_all W box _ r (k + 21) hsl hsb, e2]
  · refine ⟨26, by omega, ?_⟩
    have e0 : padlockref03_Turned.l0 (k + 30 + 26) W box b r = padlockref03_Turned.l1 (k + 31 + 24) W box b r (List.replicate 16 0) 0 := by
      generalize hK : k + 31 + 24 = K
      rw [show k + 30 + 26 = K + 1 from by omega]
      simp only [padlockref03_Turned.l0]
      rw [if_pos (by omega), if_pos (by decide)]
    have e2 : padlockref03_Turned.l1 (k + 31) W box b r (subN box b 16) 4 = padlockref03_Turned.l0 (k + 30) W box (roundF KS box b r) ((r + 1 : Nat) : Int) := by
      have ha := add_tells KS W hW (subN box b 16) hsl r (by omega) (k + 13)
      rw [show k + 13 + 17 = k + 30 from by omega] at ha
      generalize hK : k + 30 = K at *
      rw [show k + 31 = K + 1 from by omega]
      simp only [padlockref03_Turned.l1]
      rw [if_neg (by omega), if_neg (by omega), ha, nx r (by omega)]
      simp only [Option.bind_some]
      unfold roundF
      rw [if_neg h10]
    rw [e0, sub_all W box b r (k + 31) h256 hb hby, e2]
theorem l0_more (W : List (List Int)) (box b r : List Int) (i : Int) (K : Nat) (h : padlockref03_Turned.l0 K W box b i = some r) : ∀ d, padlockref03_Turned.l0 (K + d) W box b i = some r
  | 0 => h
  | d + 1 => (padlockref03_Turned.mono_l (K + d)).1 _ _ _ _ _ (l0_more W box b r i K h d)
theorem rounds_tell (KS : List Int) (W : List (List Int)) (hW : WordsOf KS W) (hKS : Bytes KS) (box block : List Int) (h256 : box.length = 256) (hB : Bytes box) (hb : block.length = 16) (hby : Bytes block) : ∀ d n, n + d = 10 →
    ∃ K, padlockref03_Turned.l0 K W box (encN KS box block n) ((n + 1 : Nat) : Int) = some (encN KS box block 10)
  | 0, n, h => ⟨1, by
    have : n = 10 := by omega
    subst this
    simp only [padlockref03_Turned.l0]
    rw [if_neg (by omega)]⟩
  | d + 1, n, h => by
    obtain ⟨K, ih⟩ := rounds_tell KS W hW hKS box block h256 hB hb hby d (n + 1) (by omega)
    obtain ⟨e, _, hs⟩ := round_step KS W hW box (encN KS box block n) (n + 1) K (by omega) h256 hB (by rw [encN_length, hb]) (encN_b KS box block hKS hB hby n)
    refine ⟨K + 30 + e, hs.trans ?_⟩
    have h2 := l0_more W box _ _ _ K ih 30
    rw [encN] at h2
    exact h2
theorem add_more (b r : List Int) (W : List (List Int)) (i : Int) (K : Nat) (h : padlockref03_add.f K b W i = some r) : ∀ d, padlockref03_add.f (K + d) b W i = some r
  | 0 => h
  | d + 1 => padlockref03_add.mono _ _ _ _ _ (add_more b r W i K h d)
theorem turned_tells (KS : List Int) (W : List (List Int)) (hW : WordsOf KS W) (hKS : Bytes KS) (box block : List Int) (h256 : box.length = 256) (hB : Bytes box) (hb : block.length = 16) (hby : Bytes block) :
    ∃ K, padlockref03_Turned.f K W block box = some (encN KS box block 10) := by
  obtain ⟨K, h⟩ := rounds_tell KS W hW hKS box block h256 hB hb hby 10 0 (by omega)
  have ha := add_tells KS W hW block hb 0 (by omega) K
  refine ⟨K + 17, ?_⟩
  unfold padlockref03_Turned.f
  rw [show ((0 : Int)) = ((0 : Nat) : Int) from rfl, ha]
  simp only [Option.bind_some]
  exact l0_more W box _ _ _ K h 17
/-! the box -/
theorem swap_more (x r : Int) (K : Nat) (h : padlockref03_Swap.f K x = some r) : ∀ d, padlockref03_Swap.f (K + d) x = some r
  | 0 => h
  | d + 1 => padlockref03_Swap.mono _ _ _ (swap_more x r K h d)
theorem box_loop : ∀ d i k, i + d = 256 → padlockref03_Box.l0 (300 + k + d + 1) ((List.range i).map fun j => boxT.getD j 0) i = some ((List.range 256).map fun j => boxT.getD j 0)
  | 0, i, k, h => by
    have : i = 256 := by omega
    subst this
    show padlockref03_Box.l0 (300 + k + 1) _ _ = _
    generalize 300 + k = K
    simp only [padlockref03_Box.l0]
    rw [if_neg (by omega)]
  | d + 1, i, k, h => by
    have hs := swap_more _ _ _ (swap_all i (by omega)) (k + d + 1)
    have ih := box_loop d (i + 1) k (by omega)
    rw [show 300 + (k + d + 1) = 300 + k + d + 1 from by omega] at hs
    rw [show 300 + k + (d + 1) + 1 = 300 + k + d + 1 + 1 from by omega]
    generalize 300 + k + d + 1 = K at *
    simp only [padlockref03_Box.l0]
    rw [if_pos (by omega), show (i : Int) % 256 = (i : Int) from by omega, hs]
    simp only [Option.bind_some]
    rw [if_pos (by simp; omega), show wrap64 ((i : Int) + 1) = ((i + 1 : Nat) : Int) from by unfold wrap64; omega, ← ih, List.range_succ, List.map_append]
    rfl
theorem boxT_length : boxT.length = 256 := by decide +kernel
theorem box_tells : padlockref03_Box.f 557 = some boxT := by
  have h := box_loop 256 0 0 (by omega)
  have e : ((List.range 256).map fun j => boxT.getD j 0) = boxT := ext_getD _ _ 256 (by simp) boxT_length (fun j hj => range_getD _ _ _ hj)
  rw [e] at h
  exact h
end Go.Proofs.Ytljmjeaocojnmaa.HAa
