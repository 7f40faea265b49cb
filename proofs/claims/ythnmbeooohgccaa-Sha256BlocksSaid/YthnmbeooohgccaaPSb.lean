/- Layer 1, plain: the words of a block. -/
import Derived.Test.YthnmbeooohgccaaPSa
set_option linter.unusedVariables false
set_option linter.unusedSimpArgs false
namespace Go.Proofs.Ythnmbeooohgccaa.HSa
open Go.RowKit Go.Proofs.YthnmbeooohgccaaW.PrintWords Go.Proofs.Ythnmbeooohgccaa.Kit Go.Proofs.Ythnmbeooohgccaa.Sa

def msgV (l : List Int) (i : Nat) : Int := if i < 16 then word4 l i else wordN (msg l i) i
theorem take_set_next (m : List Int) (i : Nat) (v : Int) (h : i < m.length) : (m.set i v).take (i + 1) = m.take i ++ [v] := by
  rw [List.take_add_one, List.getElem?_set_self h, List.take_set_of_le (Nat.le_refl i)]
  rfl
theorem msg_take (l : List Int) (i : Nat) (h : i < 64) : (msg l (i + 1)).take (i + 1) = (msg l i).take i ++ [msgV l i] := by
  show ((msg l i).set i _).take (i + 1) = _
  rw [take_set_next _ _ _ (by rw [msg_length]; exact h)]
  rfl
theorem set_w (m : List Int) (i : Nat) (v : Int) (hm : ∀ j, W32 (m.getD j 0)) (hv : W32 v) (j : Nat) : W32 ((m.set i v).getD j 0) := by
  rw [List.getD_eq_getElem?_getD, List.getElem?_set]
  split
  · split
    · exact hv
    · exact ⟨by decide, by decide⟩
  · rw [← List.getD_eq_getElem?_getD]; exact hm j
theorem mod_w (x : Int) : W32 (IntKind.u32.wrap x) := by rw [IntKind.wrap_u32]; exact ⟨by omega, by omega⟩
theorem msg_w (l : List Int) (hl : Bytes l) : ∀ n j, W32 ((msg l n).getD j 0)
  | 0, j => by
    show W32 ((List.replicate 64 (0 : Int)).getD j 0)
    rw [List.getD_eq_getElem?_getD, List.getElem?_replicate]
    split <;> exact ⟨by decide, by decide⟩
  | n + 1, j => by
    show W32 (((msg l n).set n (if n < 16 then word4 l n else wordN (msg l n) n)).getD j 0)
    refine set_w _ _ _ (msg_w l hl n) ?_ j
    split
    · exact word4_w l hl n
    · exact mod_w _
theorem rd_nat (l : List Int) (j : Nat) : rd l (j : Int) = l.getD j 0 := rfl
theorem at_nat {l : List Int} (hb : Bytes l) (j : Nat) : 0 ≤ l.getD j 0 ∧ l.getD j 0 < 256 := hb.at_ (j : Int)
theorem rd_take (m : List Int) (i : Nat) (j : Int) (h0 : 0 ≤ j) (h1 : j < i) : rd (m.take i) j = m.getD j.toNat 0 := by
  unfold rd
  rw [List.getD_eq_getElem?_getD, List.getElem?_take, if_pos (by omega), ← List.getD_eq_getElem?_getD]
theorem s_eq (x : Int) (hx : W32 x) (t1 t2 : Int) (c : Int) (hc : 0 < c) : Go.bits .xor .u32 (Go.bits .xor .u32 t1 t2) ((Int.tdiv x c) % 4294967296) = Go.bits .xor .u32 (Go.bits .xor .u32 t1 t2) (x / c) := by
  rw [Int.tdiv_eq_ediv_of_nonneg hx.1]
  have h1 : 0 ≤ x / c := Int.ediv_nonneg hx.1 (by omega)
  have h2 : x / c ≤ x := Int.ediv_le_self c hx.1
  rw [Int.emod_eq_of_lt h1 (by have := hx.2; omega)]
attribute [local irreducible] msg
theorem words_byte (l x3 : List Int) (i : Nat) (k : Nat) (hi : i < 16) (hl : l.length = 64) (j : Nat) (hj : j < 4) (x : Int) (hx : 0 ≤ x ∧ x < 16777216) (hb : Bytes l) :
    padlockref01_Words.l1 (k + 1) l x3 i x j = padlockref01_Words.l1 k l x3 i (x * 256 + l.getD (4 * i + j) 0) ((j + 1 : Nat) : Int) := by
  have e : wrap64 (wrap64 (4 * (i : Int)) + (j : Int)) = ((4 * i + j : Nat) : Int) := by unfold wrap64; omega
  have hbj : 0 ≤ l.getD (4 * i + j) 0 ∧ l.getD (4 * i + j) 0 < 256 := at_nat hb _
  have er : rd l ((4 * i + j : Nat) : Int) = l.getD (4 * i + j) 0 := rd_nat _ _
  simp only [padlockref01_Words.l1]
  rw [e, er, if_pos (by omega), if_pos (by omega), if_pos (by omega), show wrap64 ((j : Int) + 1) = ((j + 1 : Nat) : Int) from by unfold wrap64; omega]
  generalize l.getD (4 * i + j) 0 = b at *
  rw [show (x * 256 % 4294967296 + b % 4294967296) % 4294967296 = x * 256 + b from by omega]
theorem words_four (l x3 : List Int) (i : Nat) (k : Nat) (hi : i < 16) (hl : l.length = 64) (hb : Bytes l) (h3 : x3.length ≤ 64) :
    padlockref01_Words.l1 (k + 5) l x3 i 0 0 = padlockref01_Words.l0 k l (x3 ++ [word4 l i]) ((i + 1 : Nat) : Int) := by
  have hg : ∀ j, 0 ≤ l.getD j 0 ∧ l.getD j 0 < 256 := at_nat hb
  have g0 := hg (4 * i)
  have g1 := hg (4 * i + 1)
  have g2 := hg (4 * i + 2)
  have g3 := hg (4 * i + 3)
  have s0 := words_byte l x3 i (k + 4) hi hl 0 (by decide) 0 (by omega) hb
  have s1 := words_byte l x3 i (k + 3) hi hl 1 (by decide) (0 * 256 + l.getD (4 * i) 0) (by omega) hb
  have s2 := words_byte l x3 i (k + 2) hi hl 2 (by decide) ((0 * 256 + l.getD (4 * i) 0) * 256 + l.getD (4 * i + 1) 0) (by omega) hb
  have s3 := words_byte l x3 i (k + 1) hi hl 3 (by decide) (((0 * 256 + l.getD (4 * i) 0) * 256 + l.getD (4 * i + 1) 0) * 256 + l.getD (4 * i + 2) 0) (by omega) hb
  refine s0.trans (s1.trans (s2.trans (s3.trans ?_)))
  rw [word4_sum l hb]
  simp only [padlockref01_Words.l1]
  rw [if_neg (by omega), if_pos (by omega), show wrap64 ((i : Int) + 1) = ((i + 1 : Nat) : Int) from by unfold wrap64; omega]
  simp
theorem words_loop (l : List Int) (hl : l.length = 64) (hb : Bytes l) : ∀ d i K, i + d = 64 → 34 + 6 * d ≤ K → padlockref01_Words.l0 K l ((msg l i).take i) i = some (msg l 64)
  | 0, i, K, hi, hK => by
    obtain ⟨k, rfl⟩ : ∃ k, K = k + 1 := ⟨K - 1, by omega⟩
    have : i = 64 := by omega
    subst this
    simp only [padlockref01_Words.l0]
    rw [if_neg (by omega), List.take_of_length_le (by rw [msg_length]; exact Nat.le_refl _)]
  | d + 1, i, K, hi, hK => by
    have hlen : ((msg l i).take i).length = i := by rw [List.length_take, msg_length]; omega
    by_cases h16 : i < 16
    · obtain ⟨k, rfl⟩ : ∃ k, K = k + 5 + 1 := ⟨K - 6, by omega⟩
      have ih := words_loop l hl hb d (i + 1) k (by omega) (by omega)
      rw [msg_take l i (by omega), show msgV l i = word4 l i from if_pos h16] at ih
      rw [← ih, ← words_four l _ i k h16 hl hb (by omega)]
      generalize hK5 : k + 5 = K5
      simp only [padlockref01_Words.l0]
      rw [if_pos (by omega), if_pos (by omega)]
    · obtain ⟨k, rfl⟩ : ∃ k, K = k + 33 + 1 := ⟨K - 34, by omega⟩
      have ih := words_loop l hl hb d (i + 1) (k + 33) (by omega) (by omega)
      rw [msg_take l i (by omega), show msgV l i = wordN (msg l i) i from if_neg h16] at ih
      have hw := msg_w l hb i
      have r15 : rd ((msg l i).take i) ((i - 15 : Nat) : Int) = (msg l i).getD (i - 15) 0 := rd_take _ _ _ (by omega) (by omega)
      have r2 : rd ((msg l i).take i) ((i - 2 : Nat) : Int) = (msg l i).getD (i - 2) 0 := rd_take _ _ _ (by omega) (by omega)
      have r16 : rd ((msg l i).take i) ((i - 16 : Nat) : Int) = (msg l i).getD (i - 16) 0 := rd_take _ _ _ (by omega) (by omega)
      have r7 : rd ((msg l i).take i) ((i - 7 : Nat) : Int) = (msg l i).getD (i - 7) 0 := rd_take _ _ _ (by omega) (by omega)
      have w15 : wrap64 ((i : Int) - 15) = ((i - 15 : Nat) : Int) := by unfold wrap64; omega
      have w2 : wrap64 ((i : Int) - 2) = ((i - 2 : Nat) : Int) := by unfold wrap64; omega
      have w16 : wrap64 ((i : Int) - 16) = ((i - 16 : Nat) : Int) := by unfold wrap64; omega
      have w7 : wrap64 ((i : Int) - 7) = ((i - 7 : Nat) : Int) := by unfold wrap64; omega
      have w1 : wrap64 ((i : Int) + 1) = ((i + 1 : Nat) : Int) := by unfold wrap64; omega
      unfold wordN s0 s1 at ih
      simp only [IntKind.wrap_u32] at ih
      rw [← ih]
      generalize hT : (msg l i).take i = t at *
      generalize hK5 : k + 33 = K5
      simp only [padlockref01_Words.l0]
      rw [w15, w2, w16, w7, w1, r15, r2, r16, r7]
      subst hK5
      have h15 := hw (i - 15)
      have h2 := hw (i - 2)
      clear hw r15 r2 r16 r7 w15 w2 w16 w7 w1 ih hT
      generalize (msg l i).getD (i - 15) 0 = a15 at *
      generalize (msg l i).getD (i - 2) 0 = a2 at *
      generalize (msg l i).getD (i - 16) 0 = a16 at *
      generalize (msg l i).getD (i - 7) 0 = a7 at *
      have t1 := turn_tells a15 7 (by decide) h15 k
      have t2 := turn_tells a15 18 (by decide) h15 k
      have t3 := turn_tells a2 17 (by decide) h2 k
      have t4 := turn_tells a2 19 (by decide) h2 k
      have e1 := s_eq a15 h15 (rotr a15 7) (rotr a15 18) 8 (by decide)
      have e2 := s_eq a2 h2 (rotr a2 17) (rotr a2 19) 1024 (by decide)
      rw [if_pos (by omega), if_neg (by omega), if_pos (by omega), if_pos (by omega), if_pos (by omega), if_pos (by omega), if_pos (by omega), if_pos (by omega), if_pos (by omega), if_pos (by omega)]
      rw [t1, t2, t3, t4]
      simp only [Option.bind_some]
      rw [e1, e2, if_pos (by omega)]
theorem words_tells (l : List Int) (hl : l.length = 64) (hb : Bytes l) (k : Nat) : padlockref01_Words.f (k + 418) l = some (msg l 64) := by
  have := words_loop l hl hb 64 0 (k + 418) rfl (by omega)
  exact this
end Go.Proofs.Ythnmbeooohgccaa.HSa
