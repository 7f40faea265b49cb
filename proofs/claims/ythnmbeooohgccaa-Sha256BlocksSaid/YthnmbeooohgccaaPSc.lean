/- Layer 1, plain: a block comes. -/
import Derived.Test.YthnmbeooohgccaaPSb
set_option linter.unusedVariables false
set_option linter.unusedSimpArgs false
namespace Go.Proofs.Ythnmbeooohgccaa.HSa
open Go.RowKit Go.Proofs.YthnmbeooohgccaaW.PrintWords Go.Proofs.Ythnmbeooohgccaa.Kit Go.Proofs.Ythnmbeooohgccaa.Sa

theorem consts_length : consts.length = 64 := by decide
theorem big1_w (x : Int) (h : W32 x) : W32 (big1 x) := bxor_w _ _ (bxor_w _ _ (rotr_w _ _ (by decide) h) (rotr_w _ _ (by decide) h)) (rotr_w _ _ (by decide) h)
theorem vstep_w (m v : List Int) (i : Nat) (hv : ∀ j, W32 (v.getD j 0)) : ∀ j, W32 ((vstep m v i).getD j 0)
  | 0 => ⟨by simp [vstep]; omega, by simp [vstep]; omega⟩
  | 1 => hv 0
  | 2 => hv 1
  | 3 => hv 2
  | 4 => ⟨by simp [vstep]; omega, by simp [vstep]; omega⟩
  | 5 => hv 4
  | 6 => hv 5
  | 7 => hv 6
  | n + 8 => ⟨by simp [vstep], by simp [vstep]⟩
theorem vloop_w (m s : List Int) (hs : ∀ j, W32 (s.getD j 0)) : ∀ n j, W32 ((vloop m s n).getD j 0)
  | 0, j => hs j
  | n + 1, j => vstep_w m _ n (vloop_w m s hs n) j
theorem adds_w (s v : List Int) (hs : ∀ j, W32 (s.getD j 0)) : ∀ n j, W32 ((adds s v n).getD j 0)
  | 0, j => hs j
  | n + 1, j => set_w _ _ _ (adds_w s v hs n) (mod_w _) j
theorem comeF_w (s l : List Int) (hs : ∀ j, W32 (s.getD j 0)) (j : Nat) : W32 ((comeF s l).getD j 0) := adds_w s _ hs 8 j
theorem adds_later (s v : List Int) : ∀ n j, n ≤ j → (adds s v n).getD j 0 = s.getD j 0
  | 0, j, _ => rfl
  | n + 1, j, h => by
    show ((adds s v n).set n _).getD j 0 = _
    rw [List.getD_eq_getElem?_getD, List.getElem?_set_ne (by omega), ← List.getD_eq_getElem?_getD]
    exact adds_later s v n j (by omega)
theorem adds_take (s v : List Int) (i : Nat) (h : i < s.length) : (adds s v (i + 1)).take (i + 1) = (adds s v i).take i ++ [(s.getD i 0 + v.getD i 0) % 4294967296] := by
  show ((adds s v i).set i _).take (i + 1) = _
  rw [take_set_next _ _ _ (by rw [adds_length]; exact h), adds_later s v i i (Nat.le_refl i), IntKind.wrap_u32]
theorem come_out (s v : List Int) (hs : s.length = 8) (hv : v.length = 8) : ∀ d i k, i + d = 8 → padlockref01_Come.l1 (k + d + 1) s v ((adds s v i).take i) i = some (adds s v 8)
  | 0, i, k, hi => by
    have : i = 8 := by omega
    subst this
    simp only [padlockref01_Come.l1]
    rw [if_neg (by omega), List.take_of_length_le (by rw [adds_length, hs]; exact Nat.le_refl _)]
  | d + 1, i, k, hi => by
    have ih := come_out s v hs hv d (i + 1) k (by omega)
    have hlen : ((adds s v i).take i).length = i := by rw [List.length_take, adds_length]; omega
    rw [adds_take s v i (by omega)] at ih
    rw [← ih]
    generalize hK : k + (d + 1) = K
    simp only [padlockref01_Come.l1]
    subst hK
    rw [rd_nat, rd_nat, if_pos (by omega), if_pos (by omega), if_pos (by omega), if_pos (by omega), if_pos (by omega), show wrap64 ((i : Int) + 1) = ((i + 1 : Nat) : Int) from by unfold wrap64; omega]
theorem come_step (s m v : List Int) (i k : Nat) (hi : i < 64) (hm : m.length = 64) (hv : v.length = 8) (hw : ∀ j, W32 (v.getD j 0)) :
    padlockref01_Come.l0 (k + 33 + 1) s consts m v i = padlockref01_Come.l0 (k + 33) s consts m (vstep m v i) ((i + 1 : Nat) : Int) := by
  have hc := consts_length
  unfold vstep oneS twoS big0 big1
  have r0 : rd v 0 = v.getD 0 0 := rfl
  have r1 : rd v 1 = v.getD 1 0 := rfl
  have r2 : rd v 2 = v.getD 2 0 := rfl
  have r3 : rd v 3 = v.getD 3 0 := rfl
  have r4 : rd v 4 = v.getD 4 0 := rfl
  have r5 : rd v 5 = v.getD 5 0 := rfl
  have r6 : rd v 6 = v.getD 6 0 := rfl
  have r7 : rd v 7 = v.getD 7 0 := rfl
  have rc : rd consts (i : Int) = consts.getD i 0 := rfl
  have rm : rd m (i : Int) = m.getD i 0 := rfl
  have w1 : wrap64 ((i : Int) + 1) = ((i + 1 : Nat) : Int) := by unfold wrap64; omega
  rw [andNot_eq _ _ (hw 6) (hw 4)]
  have h4 := hw 4
  have h0 := hw 0
  generalize hC : consts = C at *
  generalize hK : k + 33 = K
  simp only [padlockref01_Come.l0]
  subst hK
  rw [r0, r1, r2, r3, r4, r5, r6, r7, rc, rm, w1]
  clear r0 r1 r2 r3 r4 r5 r6 r7 rc rm w1 hw
  generalize v.getD 0 0 = v0 at *
  generalize v.getD 1 0 = v1 at *
  generalize v.getD 2 0 = v2 at *
  generalize v.getD 3 0 = v3 at *
  generalize v.getD 4 0 = v4 at *
  generalize v.getD 5 0 = v5 at *
  generalize v.getD 6 0 = v6 at *
  generalize v.getD 7 0 = v7 at *
  generalize C.getD i 0 = c at *
  generalize m.getD i 0 = mi at *
  have t1 := turn_tells v4 6 (by decide) h4 k
  have t2 := turn_tells v4 11 (by decide) h4 k
  have t3 := turn_tells v4 25 (by decide) h4 k
  have t4 := turn_tells v0 2 (by decide) h0 k
  have t5 := turn_tells v0 13 (by decide) h0 k
  have t6 := turn_tells v0 22 (by decide) h0 k
  rw [if_pos (by omega), if_pos (by omega), if_pos (by omega), if_pos (by omega), t1, t2, t3, t4, t5, t6]
  simp only [Option.bind_some]
  rw [if_pos (by omega), if_pos (by omega), if_pos (by omega), if_pos (by omega), if_pos (by omega), if_pos (by omega), if_pos (by omega), if_pos (by omega)]
  generalize Go.bits .xor .u32 (Go.bits .xor .u32 (rotr v4 6) (rotr v4 11)) (rotr v4 25) = x1
  generalize Go.bits .xor .u32 (Go.bits .xor .u32 (rotr v0 2) (rotr v0 13)) (rotr v0 22) = x2
  generalize Go.bits .xor .u32 (Go.bits .and .u32 v4 v5) (Go.bits .and .u32 ((4294967295 - v4) % 4294967296) v6) = x3
  generalize Go.bits .xor .u32 (Go.bits .xor .u32 (Go.bits .and .u32 v0 v1) (Go.bits .and .u32 v0 v2)) (Go.bits .and .u32 v1 v2) = x4
  have e1 : ((((((v7 + x1) % 4294967296 + x3) % 4294967296 + c) % 4294967296 + mi) % 4294967296 + (x2 + x4) % 4294967296) % 4294967296) = (v7 + x1 + x3 + c + mi + (x2 + x4)) % 4294967296 := by omega
  have e2 : ((v3 + ((((v7 + x1) % 4294967296 + x3) % 4294967296 + c) % 4294967296 + mi) % 4294967296) % 4294967296) = (v3 + (v7 + x1 + x3 + c + mi)) % 4294967296 := by omega
  rw [e1, e2]
attribute [local irreducible] vstep consts
theorem come_loop (s m : List Int) (hm : m.length = 64) (hs : s.length = 8) (hw : ∀ j, W32 (s.getD j 0)) : ∀ d i k, i + d = 64 → padlockref01_Come.l0 (k + 33 + d + 1) s consts m (vloop m s i) i = some (adds s (vloop m s 64) 8)
  | 0, i, k, hi => by
    have : i = 64 := by omega
    subst this
    have ho := come_out s (vloop m s 64) hs (vloop_length m s hs 64) 8 0 (k + 24) rfl
    rw [show k + 24 + 8 + 1 = k + 33 from by omega] at ho
    rw [← ho]
    generalize hK : k + 33 + 0 = K
    simp only [padlockref01_Come.l0]
    subst hK
    rw [if_neg (by omega)]
    rfl
  | d + 1, i, k, hi => by
    have ih := come_loop s m hm hs hw d (i + 1) k (by omega)
    rw [← ih]
    have h := come_step s m (vloop m s i) i (k + (d + 1)) (by omega) hm (vloop_length m s hs i) (vloop_w m s hw i)
    rw [show k + (d + 1) + 33 + 1 = k + 33 + (d + 1) + 1 from by omega, show k + (d + 1) + 33 = k + 33 + d + 1 from by omega] at h
    exact h
theorem come_tells (s l : List Int) (hs : s.length = 8) (hw : ∀ j, W32 (s.getD j 0)) (hl : l.length = 64) (hb : Bytes l) (k : Nat) :
    padlockref01_Come.f (k + 418) s l consts = some (comeF s l) := by
  have h := come_loop s (msg l 64) (msg_length l 64) hs hw 64 0 (k + 320) rfl
  rw [show k + 320 + 33 + 64 + 1 = k + 418 from by omega] at h
  unfold padlockref01_Come.f
  rw [words_tells l hl hb k]
  simp only [Option.bind_some]
  rw [if_pos (by simp; omega)]
  exact h
end Go.Proofs.Ythnmbeooohgccaa.HSa
