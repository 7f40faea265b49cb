/- Texts of this claim, laid together by a program of this session (wip/tools/pack.py); the print's own words among them are those that print.sh OWN=1 lays for the claim, as far as they are named. -/
import Derived.Test.YtoiiacbbfhlocaaProg
import Derived.StillTailTactics
import Derived.Deep.DrawnRows
import Derived.BigRegion
import Derived.Laws.Cover3
import Derived.Test.YtoiiacbbfhlocaaQG
import Derived.Test.YtoiiacbbfhlocaaQR
section
set_option linter.unusedVariables false
set_option linter.unusedSimpArgs false
namespace Go.Proofs.Ytoiiacbbfhlocaa.HAa
open Go.RowKit Go.Proofs.YtoiiacbbfhlocaaW.PrintWords Go.Proofs.YtoiiacbbfhlocaaW.PrintLast Go.Proofs.YtoiiacbbfhlocaaW.PrintMore Go.Proofs.Ytoiiacbbfhlocaa.Kit
def Byte (x : Int) : Prop := 0 ≤ x ∧ x < 256
theorem bxor_b (a b : Int) (ha : Byte a) (hb : Byte b) : Byte (Go.bits .xor .u8 a b) := by
  obtain ⟨a, rfl⟩ := Int.eq_ofNat_of_zero_le ha.1
  obtain ⟨b, rfl⟩ := Int.eq_ofNat_of_zero_le hb.1
  have h1 : a < 2 ^ 8 := by have := ha.2; omega
  have h2 : b < 2 ^ 8 := by have := hb.2; omega
  rw [bxor8 a b h1 h2]
  have := Nat.xor_lt_two_pow h1 h2
  exact ⟨by omega, by omega⟩
def twiceF (x : Int) : Int := if Go.bits .and .u8 x 128 = 0 then x * 2 % 256 else Go.bits .xor .u8 (x * 2 % 256) 27
theorem twice_b (x : Int) : Byte (twiceF x) := by
  unfold twiceF
  split
  · exact ⟨by omega, by omega⟩
  · exact bxor_b _ _ ⟨by omega, by omega⟩ ⟨by decide, by decide⟩
set_option maxHeartbeats 400000 in
theorem twice_any (x : Int) (w : World) (h0 : 0 ≤ x) (h1 : x < 256) : Calls Try.prog 146 #[.int .u8 x] w (TellsV .u8 (twiceF x) w) := by
  have HF : Hid (twiceF x = if Go.bits .and .u8 x 128 = 0 then x * 2 % 256 else Go.bits .xor .u8 (x * 2 % 256) 27) := Lib.hid rfl
  by_cases hz : Go.bits .and .u8 x 128 = 0
  · have HZ := Lib.hid hz
    have hz1 : (Go.bits .and .u8 x 128 != 0) = false := by simpa using hz
    clear hz
    go_enter Try.func146, Try.ntmps146
    go_wp2
    go_ret
    exact ⟨by rw [HF.out, if_pos HZ.out]; rfl, rfl⟩
  · have HZ := Lib.hid hz
    have hz1 : (Go.bits .and .u8 x 128 != 0) = true := by simpa using hz
    clear hz
    go_enter Try.func146, Try.ntmps146
    go_wp2
    go_ret
    exact ⟨by rw [HF.out, if_neg HZ.out]; rfl, rfl⟩
def rot8 (x n : Int) : Int := Go.bits .or .u8 (x * 2 ^ n.toNat % 256) (x / 2 ^ (8 - n).toNat)
theorem rot8_count (n : Int) (h : n = 1 ∨ n = 2 ∨ n = 3 ∨ n = 4) : Go.bits .and .u64 (IntKind.u64.wrap n) 7 = n := by
  rcases h with rfl | rfl | rfl | rfl <;> decide +kernel
set_option maxHeartbeats 400000 in
theorem rot8_at (x n k : Int) (w : World) (hk : Go.bits .and .u64 (IntKind.u64.wrap n) 7 = k) (h0 : 0 ≤ k) (h1 : k ≤ 4) :
    Calls Try.prog 147 #[.int .u8 x, .int .i64 n] w (TellsV .u8 (Go.bits .or .u8 (x * 2 ^ k.toNat % 256) (x / 2 ^ (8 - k).toNat)) w) := by
  go_enter Try.func147, Try.ntmps147
  go_wp2
  go_ret
  exact ⟨rfl, rfl⟩
theorem rot8_any (x n : Int) (w : World) (h : n = 1 ∨ n = 2 ∨ n = 3 ∨ n = 4) : Calls Try.prog 147 #[.int .u8 x, .int .i64 n] w (TellsV .u8 (rot8 x n) w) :=
  rot8_at x n n w (rot8_count n h) (by omega) (by omega)
def q1 (q : Int) : Int := Go.bits .xor .u8 q (q * 2 % 256)
def q2 (q : Int) : Int := Go.bits .xor .u8 (q1 q) (q1 q * 4 % 256)
def q3 (q : Int) : Int := Go.bits .xor .u8 (q2 q) (q2 q * 16 % 256)
def q4 (q : Int) : Int := if Go.bits .and .u8 (q3 q) 128 = 0 then q3 q else Go.bits .xor .u8 (q3 q) 9
def p1 (p : Int) : Int := Go.bits .xor .u8 p (twiceF p)
def boxV (q : Int) : Int := Go.bits .xor .u8 (Go.bits .xor .u8 (Go.bits .xor .u8 (Go.bits .xor .u8 (Go.bits .xor .u8 q (rot8 q 1)) (rot8 q 2)) (rot8 q 3)) (rot8 q 4)) 99
def pT : List Int := [1, 3, 5, 15, 17, 51, 85, 255, 26, 46, 114, 150, 161, 248, 19, 53, 95, 225, 56, 72, 216, 115, 149, 164, 247, 2, 6, 10, 30, 34, 102, 170,
  229, 52, 92, 228, 55, 89, 235, 38, 106, 190, 217, 112, 144, 171, 230, 49, 83, 245, 4, 12, 20, 60, 68, 204, 79, 209, 104, 184, 211, 110, 178, 205,
  76, 212, 103, 169, 224, 59, 77, 215, 98, 166, 241, 8, 24, 40, 120, 136, 131, 158, 185, 208, 107, 189, 220, 127, 129, 152, 179, 206, 73, 219, 118, 154,
  181, 196, 87, 249, 16, 48, 80, 240, 11, 29, 39, 105, 187, 214, 97, 163, 254, 25, 43, 125, 135, 146, 173, 236, 47, 113, 147, 174, 233, 32, 96, 160,
  251, 22, 58, 78, 210, 109, 183, 194, 93, 231, 50, 86, 250, 21, 63, 65, 195, 94, 226, 61, 71, 201, 64, 192, 91, 237, 44, 116, 156, 191, 218, 117,
  159, 186, 213, 100, 172, 239, 42, 126, 130, 157, 188, 223, 122, 142, 137, 128, 155, 182, 193, 88, 232, 35, 101, 175, 234, 37, 111, 177, 200, 67, 197, 84,
  252, 31, 33, 99, 165, 244, 7, 9, 27, 45, 119, 153, 176, 203, 70, 202, 69, 207, 74, 222, 121, 139, 134, 145, 168, 227, 62, 66, 198, 81, 243, 14,
  18, 54, 90, 238, 41, 123, 141, 140, 143, 138, 133, 148, 167, 242, 13, 23, 57, 75, 221, 124, 132, 151, 162, 253, 28, 36, 108, 180, 199, 82, 246, 1]
def qT : List Int := [1, 246, 82, 199, 180, 108, 36, 28, 253, 162, 151, 132, 124, 221, 75, 57, 23, 13, 242, 167, 148, 133, 138, 143, 140, 141, 123, 41, 238, 90, 54, 18,
  14, 243, 81, 198, 66, 62, 227, 168, 145, 134, 139, 121, 222, 74, 207, 69, 202, 70, 203, 176, 153, 119, 45, 27, 9, 7, 244, 165, 99, 33, 31, 252,
  84, 197, 67, 200, 177, 111, 37, 234, 175, 101, 35, 232, 88, 193, 182, 155, 128, 137, 142, 122, 223, 188, 157, 130, 126, 42, 239, 172, 100, 213, 186, 159,
  117, 218, 191, 156, 116, 44, 237, 91, 192, 64, 201, 71, 61, 226, 94, 195, 65, 63, 21, 250, 86, 50, 231, 93, 194, 183, 109, 210, 78, 58, 22, 251,
  160, 96, 32, 233, 174, 147, 113, 47, 236, 173, 146, 135, 125, 43, 25, 254, 163, 97, 214, 187, 105, 39, 29, 11, 240, 80, 48, 16, 249, 87, 196, 181,
  154, 118, 219, 73, 206, 179, 152, 129, 127, 220, 189, 107, 208, 185, 158, 131, 136, 120, 40, 24, 8, 241, 166, 98, 215, 77, 59, 224, 169, 103, 212, 76,
  205, 178, 110, 211, 184, 104, 209, 79, 204, 68, 60, 20, 12, 4, 245, 83, 49, 230, 171, 144, 112, 217, 190, 106, 38, 235, 89, 55, 228, 92, 52, 229,
  170, 102, 34, 30, 10, 6, 2, 247, 164, 149, 115, 216, 72, 56, 225, 95, 53, 19, 248, 161, 150, 114, 46, 26, 255, 85, 51, 17, 15, 5, 3, 1]
def boxT : List Int := [99, 124, 119, 123, 242, 107, 111, 197, 48, 1, 103, 43, 254, 215, 171, 118, 202, 130, 201, 125, 250, 89, 71, 240, 173, 212, 162, 175, 156, 164, 114, 192,
  183, 253, 147, 38, 54, 63, 247, 204, 52, 165, 229, 241, 113, 216, 49, 21, 4, 199, 35, 195, 24, 150, 5, 154, 7, 18, 128, 226, 235, 39, 178, 117,
  9, 131, 44, 26, 27, 110, 90, 160, 82, 59, 214, 179, 41, 227, 47, 132, 83, 209, 0, 237, 32, 252, 177, 91, 106, 203, 190, 57, 74, 76, 88, 207,
  208, 239, 170, 251, 67, 77, 51, 133, 69, 249, 2, 127, 80, 60, 159, 168, 81, 163, 64, 143, 146, 157, 56, 245, 188, 182, 218, 33, 16, 255, 243, 210,
  205, 12, 19, 236, 95, 151, 68, 23, 196, 167, 126, 61, 100, 93, 25, 115, 96, 129, 79, 220, 34, 42, 144, 136, 70, 238, 184, 20, 222, 94, 11, 219,
  224, 50, 58, 10, 73, 6, 36, 92, 194, 211, 172, 98, 145, 149, 228, 121, 231, 200, 55, 109, 141, 213, 78, 169, 108, 86, 244, 234, 101, 122, 174, 8,
  186, 120, 37, 46, 28, 166, 180, 198, 232, 221, 116, 31, 75, 189, 139, 138, 112, 62, 181, 102, 72, 3, 246, 14, 97, 53, 87, 185, 134, 193, 29, 158,
  225, 248, 152, 17, 105, 217, 142, 148, 155, 30, 135, 233, 206, 85, 40, 223, 140, 161, 137, 13, 191, 230, 66, 104, 65, 153, 45, 15, 176, 84, 187, 22]
def pN (k : Nat) : Int := pT.getD k 0
def qN (k : Nat) : Int := qT.getD k 0
def oN : Nat → List Int
  | 0 => (List.replicate 256 0).set 0 99
  | k + 1 => (oN k).set (pN (k + 1)).toNat (boxV (qN (k + 1)))
theorem oN_length : ∀ k, (oN k).length = 256
  | 0 => by
    show (List.set _ _ _).length = 256
    rw [List.length_set, List.length_replicate]
  | k + 1 => by
    show (List.set _ _ _).length = 256
    rw [List.length_set, oN_length k]
def logN (p : Int) : Nat := pT.idxOf p
set_option maxRecDepth 100000 in
theorem pq_round : ∀ k : Fin 255, pN (k.1 + 1) = p1 (pN k.1) ∧ qN (k.1 + 1) = q4 (qN k.1) ∧ (pN (k.1 + 1) = 1 → k.1 = 254) ∧ logN (pN k.1) = k.1 ∧ 0 ≤ pN k.1 ∧ pN k.1 < 256 ∧ 0 ≤ qN k.1 ∧ qN k.1 < 256 := by decide +kernel
set_option maxRecDepth 100000 in
theorem box_all : oN 255 = boxT := by decide +kernel
def Box (w : World) (e : Ending) (w' : World) : Prop := e = .returned (.agg (nums .u8 boxT).toArray) ∧ Below w.heap.size w w'
attribute [local irreducible] oN boxT pN qN logN p1 q4 boxV
set_option maxHeartbeats 2000000 in
set_option maxRecDepth 100000 in
theorem boxes_any (w : World) : Calls Try.prog 133 #[] w (Box w) := by
  go_enter Try.func133, Try.ntmps133
  go_wp2_with (first
    | ((with_reducible refine gate_dst (N := 0) rfl ?_); refine alloc_arr rfl 193 rfl .u8 (List.replicate 256 0) (fun w => Try.zeroValue193 w) (by first | (go_simp; done) | (go_simp; rfl)) ?_; intro w1 hA1 hB1)
    | ((with_reducible refine gate_dst (N := 1) rfl ?_); refine alloc_arr rfl 193 rfl .u8 (List.replicate 256 0) (fun w => Try.zeroValue193 w) (by first | (go_simp; done) | (go_simp; rfl)) ?_; intro w2 hA2 hB2; have hc0 := hA2.cellN 0 (by simp); have hf0 := hA2.free 0)
    | fail)
  have hz1 := hA2.lt
  have HA0 : Hid (Arr .u8 193 (w2.setCell ⟨w1.heap.size, 0, none⟩ (.int .u8 99)) w1.heap.size (oN 0)) := Lib.hid (by unfold oN; exact hA2.put 0 99)
  have HB0 : Hid (Below w.heap.size w (w2.setCell ⟨w1.heap.size, 0, none⟩ (.int .u8 99))) := Lib.hid (below_setCell (below_next hB1 hB2) _ _ hB1.size _)
  have hlt : w.heap.size < w1.heap.size := hA1.lt
  have HA1 : Hid (Arr .u8 193 (w2.setCell ⟨w1.heap.size, 0, none⟩ (.int .u8 99)) w.heap.size (List.replicate 256 0)) := Lib.hid ((hA1.next hB2).far _ (by simp; omega) _)
  clear hA1 hB1 hA2 hB2 hc0 hf0
  generalize w2.setCell ⟨w1.heap.size, 0, none⟩ (.int .u8 99) = w3 at *
  generalize w1.heap.size = g at *
  have hpq0 : Hid ((1 : Int) = pN 0 ∧ (1 : Int) = qN 0) := Lib.hid (by unfold pN qN; decide +kernel)
  go_loopw [2, 3] (fun pv qv wr => ∃ (k : Nat) (p q : Int), pv = .int .u8 p ∧ qv = .int .u8 q ∧ k < 255 ∧ Hid (p = pN k ∧ q = qN k) ∧ Hid (Arr .u8 193 wr g (oN k)) ∧ Hid (Below g w3 wr)) (fun pv _ _ => 255 - logN (intOf pv))
  case atStart => exact ⟨0, 1, 1, rfl, rfl, by omega, hpq0, HA0, Lib.hid (Below.refl _ _)⟩
  case round =>
    clear HA0 hpq0
    obtain ⟨k, p, q, rfl, rfl, hk, hpq, hA, hB⟩ := hrel
    obtain ⟨hP, hQ, hend, hlog, hp0, hp1, hq0, hq1⟩ := pq_round ⟨k, hk⟩
    simp only [← hpq.out.1, ← hpq.out.2] at hP hQ hend hlog hp0 hp1 hq0 hq1
    have HP := Lib.hid hP
    have HQ := Lib.hid hQ
    have HE := Lib.hid hend
    have HL := Lib.hid hlog
    clear hP hQ hend hlog
    obtain ⟨hpb0, hpb1⟩ := bxor_b p (twiceF p) ⟨hp0, hp1⟩ (twice_b p)
    have ep : Go.bits .xor .u8 p (twiceF p) = p1 p := by unfold p1; rfl
    rw [ep] at hpb0 hpb1
    have EP := Lib.hid ep
    have e3 : q3 q = q3 q := rfl
    conv at e3 => lhs; unfold q3 q2 q1
    have E3 := Lib.hid e3
    have hstep : ∀ (q' : Int) (wx : World), q' = q4 q → Arr .u8 193 wx g ((oN k).set (p1 p).toNat (boxV q')) → Arr .u8 193 wx g (oN (k + 1)) := fun q' wx e h => by
      rw [oN, HP.out, HQ.out, ← e]
      exact h
    have HS := Lib.hid hstep
    have hcell := hA.out.cellN (p1 p).toNat (by rw [oN_length]; omega)
    have hfree := hA.out.free (p1 p).toNat
    have HZ : Hid ((Go.bits .and .u8 (q3 q) 128 = 0 → q4 q = q3 q) ∧ (¬ Go.bits .and .u8 (q3 q) 128 = 0 → q4 q = Go.bits .xor .u8 (q3 q) 9)) := Lib.hid ⟨fun h => by unfold q4; rw [if_pos h], fun h => by unfold q4; rw [if_neg h]⟩
    clear ep e3 hstep
    have hgen : ∀ z : Bool, (Go.bits .and .u8 (q3 q) 128 != 0) = z → (z = false → q4 q = q3 q) ∧ (z = true → q4 q = Go.bits .xor .u8 (q3 q) 9) := fun z hz => ⟨fun e => HZ.out.1 (by rw [e] at hz; simpa using hz), fun e => HZ.out.2 (by rw [e] at hz; simpa using hz)⟩
    cases hz : (Go.bits .and .u8 (q3 q) 128 != 0)
    all_goals
      obtain ⟨g1, g2⟩ := hgen _ hz
      have G1 := Lib.hid g1
      have G2 := Lib.hid g2
      clear g1 g2 hgen
      rw [← E3.out] at hz
      go_wp2_with fail
      refine (twice_any p _ hp0 hp1).mono ?_
      rintro e w' ⟨rfl, rfl⟩
      go_wp2_with fail
      rw [E3.out, EP.out] at *
    all_goals
      first
        | (have hq' : q4 q = Go.bits .xor .u8 (q3 q) 9 := G2.out (by first | trivial | rfl)
           generalize Go.bits .xor .u8 (q3 q) 9 = q' at *)
        | (have hq' : q4 q = q3 q := G1.out (by first | trivial | rfl)
           generalize q3 q = q' at *)
      generalize p1 p = p' at *
      have HQ' : Hid (q' = q4 q) := Lib.hid hq'.symm
      clear hq' HZ E3 EP G1 G2 hz
      refine (rot8_any q' 1 _ (by omega)).mono ?_
      rintro e w' ⟨rfl, rfl⟩
      go_wp2_with fail
      refine (rot8_any q' 2 _ (by omega)).mono ?_
      rintro e w' ⟨rfl, rfl⟩
      go_wp2_with fail
      refine (rot8_any q' 3 _ (by omega)).mono ?_
      rintro e w' ⟨rfl, rfl⟩
      go_wp2_with fail
      refine (rot8_any q' 4 _ (by omega)).mono ?_
      rintro e w' ⟨rfl, rfl⟩
      have hb : Go.bits .xor .u8 (Go.bits .xor .u8 (Go.bits .xor .u8 (Go.bits .xor .u8 (Go.bits .xor .u8 q' (rot8 q' 1)) (rot8 q' 2)) (rot8 q' 3)) (rot8 q' 4)) 99 = boxV q' := by unfold boxV; rfl
      have HBV := Lib.hid hb
      clear hb
      by_cases he : p' = 1
      · have he1 : (p' == 1) = true := by simpa using he
        have hk' : k = 254 := HE.out (by rw [HP.out]; exact he)
        have HK := Lib.hid hk'
        have HA3 := Lib.hid (HS.out q' (w'.setCell ⟨g, p'.toNat, none⟩ (.int .u8 (boxV q'))) HQ'.out (hA.out.put _ _))
        rw [HK.out, box_all] at HA3
        have HA13 := Lib.hid ((HA1.out.below hB.out hlt).far ⟨g, p'.toNat, none⟩ (by simp; omega) (.int .u8 (boxV q')))
        have HB3 := Lib.hid (below_setCell (HB0.out.trans (hB.out.mono (by omega))) g p'.toNat (by omega) (.int .u8 (boxV q')))
        clear he hk'
        go_wp2_with (first
          | ((with_reducible refine gate_dst (N := 44) rfl ?_); rw [HBV.out]; refine load_arr rfl 193 _ rfl g rfl .u8 _ _ _ _ HA3.out Try.underlying193 (by kernel_rfl) ?_)
          | ((with_reducible refine gate_store (t := 193) (p := 0) rfl ?_); refine store_arr rfl 193 _ _ rfl w.heap.size .u8 boxT rfl rfl 193 _ HA13.out (by kernel_rfl) (by kernel_rfl) ?_; intro w4 hA4 hw4; subst hw4)
          | fail)
        exact bodyPost_ret (results_arr rfl _ _ w.heap.size .u8 _ _ _ boxT rfl hA4 Try.underlying193 (by kernel_rfl)) rfl ⟨rfl, below_setRow HB3.out _ (Nat.le_refl _) _⟩
      · have he1 : (p' == 1) = false := by simpa using he
        have HE1 := Lib.hid he
        clear he
        go_wp2_with fail
        go_roundw
        case rel =>
          have hkk : k + 1 < 255 := by
            have : k ≠ 254 := fun h => HE1.out (by
              have e : pN 255 = 1 := by unfold pN; decide +kernel
              rw [← HP.out, h]; exact e)
            omega
          exact ⟨k + 1, p', q', rfl, rfl, hkk, Lib.hid ⟨HP.out.symm, by rw [HQ.out]; exact HQ'.out⟩, Lib.hid (HS.out q' _ HQ'.out (by rw [HBV.out]; exact hA.out.put _ _)), Lib.hid (below_setCell hB.out _ _ (Nat.le_refl _) _)⟩
        case measure =>
          have hkk : k + 1 < 255 := by
            have : k ≠ 254 := fun h => HE1.out (by
              have e : pN 255 = 1 := by unfold pN; decide +kernel
              rw [← HP.out, h]; exact e)
            omega
          have hl : logN (pN (k + 1)) = k + 1 := (pq_round ⟨k + 1, hkk⟩).2.2.2.1
          rw [show pN (k + 1) = p' from HP.out] at hl
          simp [intOf]
          rw [hl, HL.out]
          omega
end Go.Proofs.Ytoiiacbbfhlocaa.HAa
end
section
set_option linter.unusedVariables false
set_option linter.unusedSimpArgs false
namespace Go.Proofs.Ytoiiacbbfhlocaa.HAa
open Go.RowKit Go.Proofs.YtoiiacbbfhlocaaW.PrintWords Go.Proofs.YtoiiacbbfhlocaaW.PrintLast Go.Proofs.YtoiiacbbfhlocaaW.PrintMore Go.Proofs.Ytoiiacbbfhlocaa.Kit
attribute [local go_sem ↓] Go.wp_at_zero Go.wp_at_succ
theorem byte_at {l : List Int} (hb : Bytes l) (j : Nat) : 0 ≤ l.getD j 0 ∧ l.getD j 0 < 256 := hb.at_ (j : Int)
theorem bytes_set {l : List Int} (hb : Bytes l) (j : Nat) (v : Int) (h : Byte v) : Bytes (l.set j v) := fun x hx => by
  rcases List.mem_or_eq_of_mem_set hx with h' | h'
  · exact hb x h'
  · rw [h']; exact h
def addN (all : List Int) (r : Nat) (xs : List Int) : Nat → List Int
  | 0 => xs
  | i + 1 => (addN all r xs i).set i (Go.bits .xor .u8 ((addN all r xs i).getD i 0) (all.getD (16 * r + i) 0))
theorem addN_length (all : List Int) (r : Nat) (xs : List Int) : ∀ n, (addN all r xs n).length = xs.length
  | 0 => rfl
  | n + 1 => by simp [addN, addN_length all r xs n]
attribute [local irreducible] addN
set_option maxHeartbeats 1000000 in
set_option maxRecDepth 100000 in
theorem add_any (g gk r : Nat) (xs all : List Int) (w : World) (hA : Arr .u8 22 w g xs) (hK : Arr .u8 195 w gk all) (h16 : xs.length = 16) (h176 : all.length = 176) (hr : r ≤ 10) :
    Calls Try.prog 135 #[.int .i64 r, .pointer (some ⟨g, 0, none⟩), .pointer (some ⟨gk, 0, none⟩)] w (Turns .u8 22 w g (addN all r xs 16)) := by
  have hne : g ≠ gk := fun e => by
    have h := hA.out
    rw [e, hK.out] at h
    have := congrArg (fun o => match o with | some (Obj.cells c _ _) => c.size | _ => 0) h
    simp [nums, h16, h176] at this
  have HA0 : Hid (Arr .u8 22 w g (addN all r xs 0)) := Lib.hid (by unfold addN; exact hA)
  have HK0 := Lib.hid hK
  have HL := Lib.hid h16
  have HL2 := Lib.hid h176
  clear hA hK h16 h176
  go_enter Try.func135, Try.ntmps135
  go_wp2_with fail
  go_loopw [5] (fun i wr => ∃ k : Nat, i = .int .i64 k ∧ k ≤ 16 ∧ Hid (Arr .u8 22 wr g (addN all r xs k)) ∧ Hid (w.grownBy wr (some g))) (fun i _ => 16 - (intOf i).toNat)
  case atStart => exact ⟨0, rfl, by omega, HA0, Lib.hid (grown_of_below (Below.refl _ _) _)⟩
  case round =>
    clear HA0
    obtain ⟨k, rfl, hk, hA, hB⟩ := hrel
    by_cases hk16 : k < 16
    · have hlen := addN_length all r xs k
      have HS : Hid (addN all r xs (k + 1) = (addN all r xs k).set k (Go.bits .xor .u8 ((addN all r xs k).getD k 0) (all.getD (16 * r + k) 0))) := Lib.hid (by rw [addN])
      have hc := hA.out.cellN k (by rw [hlen, HL.out]; omega)
      have hf := hA.out.free k
      have hck := (HK0.out.grown_ hB.out (Ne.symm hne)).cellN (16 * r + k) (by rw [HL2.out]; omega)
      have h1 : (0 : Int) ≤ 16 * (r : Int) + (k : Int) := by omega
      have h2 : 16 * (r : Int) + (k : Int) < 176 := by omega
      have h3 : (16 * (r : Int) + (k : Int)).toNat = 16 * r + k := by omega
      clear hlen
      go_wp2
      go_region
      go_wp2
      go_roundw
      case rel => exact ⟨k + 1, by go_num, by omega, Lib.hid (by rw [HS.out]; exact (hA.out.put k _).drew), Lib.hid (grown_draw (grown_set hB.out _ _))⟩
      case measure => simp [intOf]; omega
    · have hk' : k = 16 := by omega
      subst hk'
      go_wp2
      go_end0
      exact ⟨rfl, hA.out, hB.out⟩
def mixA (xs : List Int) (o : Nat) : Int := Go.bits .xor .u8 (Go.bits .xor .u8 (Go.bits .xor .u8 (xs.getD o 0) (xs.getD (o + 1) 0)) (xs.getD (o + 2) 0)) (xs.getD (o + 3) 0)
def mixV (all x next : Int) : Int := Go.bits .xor .u8 x (Go.bits .xor .u8 all (twiceF (Go.bits .xor .u8 x next)))
def mixX (xs m : List Int) (o k : Nat) : Int := if k + 1 < 4 then m.getD (o + (k + 1)) 0 else xs.getD o 0
def mixN (xs : List Int) (o : Nat) : Nat → List Int
  | 0 => xs
  | k + 1 => (mixN xs o k).set (o + k) (mixV (mixA xs o) ((mixN xs o k).getD (o + k) 0) (mixX xs (mixN xs o k) o k))
theorem mixN_length (xs : List Int) (o : Nat) : ∀ n, (mixN xs o n).length = xs.length
  | 0 => rfl
  | n + 1 => by simp [mixN, mixN_length xs o n]
theorem mixV_b (a x n : Int) (ha : Byte a) (hx : Byte x) : Byte (mixV a x n) := bxor_b _ _ hx (bxor_b _ _ ha (twice_b _))
theorem mixA_b (xs : List Int) (o : Nat) (h : Bytes xs) : Byte (mixA xs o) := bxor_b _ _ (bxor_b _ _ (bxor_b _ _ (byte_at h _) (byte_at h _)) (byte_at h _)) (byte_at h _)
theorem mixN_b (xs : List Int) (o : Nat) (h : Bytes xs) : ∀ n, Bytes (mixN xs o n)
  | 0 => h
  | n + 1 => bytes_set (mixN_b xs o h n) _ _ (mixV_b _ _ _ (mixA_b xs o h) (byte_at (mixN_b xs o h n) _))
attribute [local irreducible] mixN
set_option maxHeartbeats 2000000 in
set_option maxRecDepth 100000 in
theorem mix_any (g o c : Nat) (xs : List Int) (w : World) (hA : Arr .u8 22 w g xs) (h16 : xs.length = 16) (ho : o + 4 ≤ 16) (hc4 : 4 ≤ c) (hb : Bytes xs) :
    Calls Try.prog 136 #[.slice (some ⟨g, o, none⟩) 4 c] w (Turns .u8 22 w g (mixN xs o 4)) := by
  have HA0 : Hid (Arr .u8 22 w g (mixN xs o 0)) := Lib.hid (by unfold mixN; exact hA)
  have HL := Lib.hid h16
  have hc0 := hA.cellN o (by omega)
  have hc1 := hA.cellN (o + 1) (by omega)
  have hc2 := hA.cellN (o + 2) (by omega)
  have hc3 := hA.cellN (o + 3) (by omega)
  obtain ⟨x0, hx0⟩ : ∃ x, x = xs.getD o 0 := ⟨_, rfl⟩
  obtain ⟨x1, hx1⟩ : ∃ x, x = xs.getD (o + 1) 0 := ⟨_, rfl⟩
  obtain ⟨x2, hx2⟩ : ∃ x, x = xs.getD (o + 2) 0 := ⟨_, rfl⟩
  obtain ⟨x3, hx3⟩ : ∃ x, x = xs.getD (o + 3) 0 := ⟨_, rfl⟩
  rw [← hx0] at hc0
  rw [← hx1] at hc1
  rw [← hx2] at hc2
  rw [← hx3] at hc3
  have HM : Hid (mixA xs o = Go.bits .xor .u8 (Go.bits .xor .u8 (Go.bits .xor .u8 x0 x1) x2) x3) := Lib.hid (by rw [hx0, hx1, hx2, hx3]; rfl)
  have HX0 := Lib.hid hx0
  have HBY := Lib.hid hb
  have HW : Hid (Below w.heap.size w w) := Lib.hid (Below.refl _ _)
  clear hA h16 hb hx0 hx1 hx2 hx3
  go_enter Try.func136, Try.ntmps136
  go_wp2_with fail
  go_quiet (fail)
  clear hc0 hc1 hc2 hc3
  go_wp2_with fail
  rw [← HM.out]
  have HA1 := Lib.hid (HA0.out.drewN nq)
  have HG0 : Hid (w.grownBy (w.drewN nq) (some g)) := Lib.hid (grown_of_below (pw_below_drewN (Below.refl _ _) nq) _)
  clear HA0 HM
  generalize w.drewN nq = w0 at *
  generalize hall : mixA xs o = a at *
  have HALL := Lib.hid hall
  clear hall
  go_loopw [26] (fun i wr => ∃ k : Nat, i = .int .i64 k ∧ k ≤ 4 ∧ Hid (Arr .u8 22 wr g (mixN xs o k)) ∧ Hid (w.grownBy wr (some g))) (fun i _ => 4 - (intOf i).toNat)
  case atStart => exact ⟨0, rfl, by omega, HA1, HG0⟩
  case round =>
    clear HA1 HG0
    obtain ⟨k, rfl, hk, hA, hB⟩ := hrel
    by_cases hk4 : k < 4
    · have hlen := mixN_length xs o k
      rw [HL.out] at hlen
      have HS : Hid (mixN xs o (k + 1) = (mixN xs o k).set (o + k) (mixV a ((mixN xs o k).getD (o + k) 0) (mixX xs (mixN xs o k) o k))) := Lib.hid (by rw [mixN, HALL.out])
      have hbk := mixN_b xs o HBY.out k
      have hc := hA.out.cellN (o + k) (by omega)
      have hf := hA.out.free (o + k)
      obtain ⟨y, hy⟩ : ∃ y, y = (mixN xs o k).getD (o + k) 0 := ⟨_, rfl⟩
      have hyb := byte_at hbk (o + k)
      rw [← hy] at hc hyb
      obtain ⟨hy0, hy1⟩ := hyb
      have HY := Lib.hid hy
      clear hy
      by_cases hk3 : k + 1 < 4
      · have hcn := hA.out.cellN (o + (k + 1)) (by omega)
        obtain ⟨z, hz⟩ : ∃ z, z = (mixN xs o k).getD (o + (k + 1)) 0 := ⟨_, rfl⟩
        have hzb := byte_at hbk (o + (k + 1))
        rw [← hz] at hcn hzb
        have hxor := bxor_b y z ⟨hy0, hy1⟩ hzb
        obtain ⟨hx0, hx1⟩ := hxor
        have HZ : Hid (mixX xs (mixN xs o k) o k = z) := Lib.hid (by unfold mixX; rw [if_pos hk3, hz])
        clear hz hzb hbk hlen
        go_wp2_with fail
        go_region_with ((go_at_call 146; refine (twice_any _ _ (by omega) (by omega)).mono ?_; rintro e w' ⟨rfl, rfl⟩))
        all_goals
          go_wp2
          go_roundw
          case rel => exact ⟨k + 1, by go_num, by omega, Lib.hid (by rw [HS.out, HZ.out, ← HY.out]; first | exact (hA.out.put (o + k) _).drew | exact hA.out.drew.put (o + k) _), Lib.hid (by first | exact grown_draw (grown_set hB.out _ _) | exact grown_set (grown_draw hB.out) _ _)⟩
          case measure => simp [intOf]; omega
      · have hzb := byte_at HBY.out o
        rw [← HX0.out] at hzb
        have hxor := bxor_b y x0 ⟨hy0, hy1⟩ hzb
        obtain ⟨hx0, hx1⟩ := hxor
        have HZ : Hid (mixX xs (mixN xs o k) o k = x0) := Lib.hid (by unfold mixX; rw [if_neg hk3, HX0.out])
        clear hzb hbk hlen
        go_wp2_with fail
        go_region_with ((go_at_call 146; refine (twice_any _ _ (by omega) (by omega)).mono ?_; rintro e w' ⟨rfl, rfl⟩))
        all_goals
          go_wp2
          go_roundw
          case rel => exact ⟨k + 1, by go_num, by omega, Lib.hid (by rw [HS.out, HZ.out, ← HY.out]; first | exact (hA.out.put (o + k) _).drew | exact hA.out.drew.put (o + k) _), Lib.hid (by first | exact grown_draw (grown_set hB.out _ _) | exact grown_set (grown_draw hB.out) _ _)⟩
          case measure => simp [intOf]; omega
    · have hk' : k = 4 := by omega
      subst hk'
      go_wp2
      go_end0
      exact ⟨rfl, hA.out, hB.out⟩
end Go.Proofs.Ytoiiacbbfhlocaa.HAa
end
section
set_option linter.unusedVariables false
set_option linter.unusedSimpArgs false
namespace Go.Proofs.Ytoiiacbbfhlocaa.HAa
open Go.RowKit Go.Proofs.YtoiiacbbfhlocaaW.PrintWords Go.Proofs.YtoiiacbbfhlocaaW.PrintLast Go.Proofs.YtoiiacbbfhlocaaW.PrintMore Go.Proofs.Ytoiiacbbfhlocaa.Kit
attribute [local go_sem ↓] Go.wp_at_zero Go.wp_at_succ
theorem sliceAt_arr {P : Program} (T e N : Nat) (hu : P.underlying T = some (.array N e)) (hi : (P.info? e).map (·.size) = some 1) (g : Nat) (l h : Int) (p q : Nat) (hl : l = p) (hh : h = q) (hpq : p ≤ q) (hqN : q ≤ N) (hpN : p < N) (w : World) :
    (Instr.sliceAt T (.pointer (some ⟨g, 0, none⟩)) (some (.int .i64 l)) (some (.int .i64 h)) none).run P w = .ok (.slice (some ⟨g, p, none⟩) (q - p) (N - p)) w := by
  have e1 : P.arrayLen T = N := by simp [Program.arrayLen, hu]
  have e2 : P.elem T = e := by simp [Program.elem, hu]
  have hq := run_sliceAt_array_lh w T ⟨g, 0, none⟩ (by rw [e1, e2]; exact hu) .i64 .i64 l h (by omega) (by omega) (by rw [e1]; omega)
  rw [hq, e1, e2]
  cases hz : P.info? e with
  | none => simp [hz] at hi
  | some i =>
    have h1 : i.size = 1 := by simpa [hz] using hi
    subst hl hh
    simp [sizeOf, typeInfo, hz, h1, slicedAt, show ¬ N = p from by omega, Addr.add]
    intro h0; omega
def conN : Nat → Int
  | 0 => 1
  | n + 1 => twiceF (conN n)
theorem conN_b : ∀ n, Byte (conN n)
  | 0 => ⟨by decide, by decide⟩
  | n + 1 => twice_b _
def kT (box o : List Int) (i : Nat) (con : Int) : List Int :=
  if i % 4 = 0 then [Go.bits .xor .u8 (box.getD (o.getD (4 * i - 4 + 1) 0).toNat 0) con, box.getD (o.getD (4 * i - 4 + 2) 0).toNat 0, box.getD (o.getD (4 * i - 4 + 3) 0).toNat 0, box.getD (o.getD (4 * i - 4) 0).toNat 0]
  else four o (4 * i - 4)
def kI (t o : List Int) (i : Nat) : Nat → List Int
  | 0 => o
  | k + 1 => (kI t o i k).set (4 * i + k) (Go.bits .xor .u8 ((kI t o i k).getD (4 * i - 16 + k) 0) (t.getD k 0))
def keyN (key box : List Int) : Nat → List Int
  | 0 => key ++ List.replicate 160 0
  | n + 1 => kI (kT box (keyN key box n) (n + 4) (conN ((n + 3) / 4))) (keyN key box n) (n + 4) 4
theorem kI_length (t o : List Int) (i : Nat) : ∀ n, (kI t o i n).length = o.length
  | 0 => rfl
  | n + 1 => by simp [kI, kI_length t o i n]
theorem keyN_length (key box : List Int) (h : key.length = 16) : ∀ n, (keyN key box n).length = 176
  | 0 => by simp [keyN, h]
  | n + 1 => by simp [keyN, kI_length, keyN_length key box h n]
theorem kT_b (box o : List Int) (i : Nat) (con : Int) (hb : Bytes box) (ho : Bytes o) (hc : Byte con) : Bytes (kT box o i con) := by
  unfold kT
  split
  · intro x hx
    simp only [List.mem_cons, List.not_mem_nil, or_false] at hx
    rcases hx with h | h | h | h
    · rw [h]; exact bxor_b _ _ (byte_at hb _) hc
    · rw [h]; exact byte_at hb _
    · rw [h]; exact byte_at hb _
    · rw [h]; exact byte_at hb _
  · intro x hx
    simp only [four, List.mem_cons, List.not_mem_nil, or_false] at hx
    rcases hx with h | h | h | h <;> (rw [h]; exact byte_at ho _)
theorem kI_b (t o : List Int) (i : Nat) (ht : Bytes t) (ho : Bytes o) : ∀ k, Bytes (kI t o i k)
  | 0 => ho
  | k + 1 => bytes_set (kI_b t o i ht ho k) _ _ (bxor_b _ _ (byte_at (kI_b t o i ht ho k) _) (byte_at ht _))
theorem keyN_b (key box : List Int) (hk : Bytes key) (hb : Bytes box) : ∀ n, Bytes (keyN key box n)
  | 0 => fun x hx => by
    rcases List.mem_append.1 hx with h | h
    · exact hk x h
    · rw [(List.mem_replicate.1 h).2]; exact ⟨by decide, by decide⟩
  | n + 1 => kI_b _ _ _ (kT_b _ _ _ _ hb (keyN_b key box hk hb n) (conN_b _)) (keyN_b key box hk hb n) 4
attribute [local irreducible] keyN kI kT conN
set_option maxHeartbeats 2000000 in
set_option maxRecDepth 100000 in
theorem keys_any (key box : List Int) (w : World) (h16 : key.length = 16) (h256 : box.length = 256) (hkb : Bytes key) (hbb : Bytes box) :
    Calls Try.prog 134 #[.agg (nums .u8 key).toArray, .agg (nums .u8 box).toArray] w (GivesA .u8 (keyN key box 40) w) := by
  have HL := Lib.hid h16
  have HLB := Lib.hid h256
  have HKB := Lib.hid hkb
  have HBB := Lib.hid hbb
  clear h16 h256 hkb hbb
  go_enter Try.func134, Try.ntmps134
  go_wp2_with (first
    | ((with_reducible refine gate_dst (N := 2) rfl ?_); go_loud (refine arr_new rfl 22 .u8 key (by first | (go_simp; done) | (go_simp; rfl)) ?_); intro w1 hA1 hB1)
    | ((with_reducible refine gate_dst (N := 3) rfl ?_); refine arr_new rfl 193 .u8 box (by first | (go_simp; done) | (go_simp; rfl)) ?_; intro w2 hA2 hB2)
    | ((with_reducible refine gate_dst (N := 4) rfl ?_); refine alloc_arr rfl 195 rfl .u8 (List.replicate 176 0) (fun w => Try.zeroValue195 w) (by first | (go_simp; done) | (go_simp; rfl)) ?_; intro w3 hA3 hB3)
    | ((with_reducible refine gate_dst (N := 5) rfl ?_); refine alloc_arr rfl 195 rfl .u8 (List.replicate 176 0) (fun w => Try.zeroValue195 w) (by first | (go_simp; done) | (go_simp; rfl)) ?_; intro w4 hA4 hB4)
    | fail)
  have hg12 : w.heap.size < w1.heap.size := hA1.lt
  have hg23 : w1.heap.size < w2.heap.size := hA2.lt
  have hg34 : w2.heap.size < w3.heap.size := hA3.lt
  have hA14 := ((hA1.next hB2).next hB3).next hB4
  have HA24 := Lib.hid ((hA2.next hB3).next hB4)
  have HA34 := Lib.hid (hA3.next hB4)
  have HB04 := Lib.hid (below_next (below_next (below_next hB1 hB2) hB3) hB4)
  have HA44 := Lib.hid hA4
  have HA1 := Lib.hid hA14
  have hcp := fun ty => copy_arr (P := Try.prog) w4.drew 29 29 ty 5 w3.heap.size 0 176 176 w.heap.size 0 16 16 16 _ _ hA4.drew hA14.drew Try.underlying29 (by kernel_rfl) rfl (by simp) (by rw [HL.out]; omega)
  clear hA1 hA2 hA3 hA4 hB1 hB2 hB3 hB4 hA14
  generalize w3.heap.size = g5 at *
  generalize w2.heap.size = g4 at *
  generalize w1.heap.size = g3 at *
  generalize hg2 : w.heap.size = g2 at *
  have HG2 := Lib.hid hg2
  clear hg2
  go_region
  go_wp2_with fail
  clear hcp
  have HA5 : Hid (Arr .u8 195 (w4.drew.setCells g5 0 (nums .u8 (key.take 16))) g5 (keyN key box 0)) := Lib.hid (by
    have h := HA44.out.drew.cells (key.take 16) 0 (by simp; omega)
    have e : (List.replicate 176 (0 : Int)).take 0 ++ key.take 16 ++ (List.replicate 176 0).drop (0 + (key.take 16).length) = keyN key box 0 := by
      unfold keyN
      rw [show key.take 16 = key from List.take_of_length_le (by rw [HL.out]; omega), HL.out]
      rfl
    rw [e] at h
    exact h)
  have HA3 : Hid (Arr .u8 193 (w4.drew.setCells g5 0 (nums .u8 (key.take 16))) g3 box) := Lib.hid (Arr.sets_far (w := w4) (by omega) _ _ HA24.out.drew)
  have HA4 : Hid (Arr .u8 195 (w4.drew.setCells g5 0 (nums .u8 (key.take 16))) g4 (List.replicate 176 0)) := Lib.hid (Arr.sets_far (w := w4) (by omega) _ _ HA34.out.drew)
  have HB5 : Hid (Below g2 w (w4.drew.setCells g5 0 (nums .u8 (key.take 16)))) := Lib.hid (below_sets (by omega) _ _ (below_drew HB04.out))
  clear HA44 HA24 HA34 HB04 HA1
  generalize w4.drew.setCells g5 0 (nums .u8 (key.take 16)) = w5 at *
  have HC0 : Hid ((1 : Int) = conN 0) := Lib.hid (by unfold conN; rfl)
  go_loopw [6, 7] (fun cv iv wr => ∃ (n m : Nat) (con : Int), cv = .int .u8 con ∧ iv = .int .i64 m ∧ m = 16 + 4 * n ∧ n ≤ 40 ∧ 0 ≤ con ∧ con < 256 ∧ Hid (con = conN ((n + 3) / 4)) ∧ Hid (Arr .u8 195 wr g5 (keyN key box n)) ∧ Hid (w5.grownBy wr (some g5))) (fun _ iv _ => 176 - (intOf iv).toNat)
  case atStart => exact ⟨0, 16, 1, rfl, rfl, rfl, by omega, by omega, by omega, HC0, HA5, Lib.hid (grown_of_below (Below.refl _ _) _)⟩
  case round =>
    clear HA5 HC0
    obtain ⟨n, m, con, rfl, rfl, hm, hn, hc0, hc1, hcon, hA, hB⟩ := hrel
    have HM := Lib.hid hm
    by_cases hn40 : n < 40
    · have hm1 : 16 ≤ m := by omega
      have hm2 : m ≤ 172 := by omega
      clear hm
      have hsl : ∀ W : World, (Instr.sliceAt 195 (.pointer (some ⟨g5, 0, none⟩)) (some (.int .i64 ((m : Int) - 4))) (some (.int .i64 (m : Int))) none).run Try.prog W = .ok (.slice (some ⟨g5, m - 4, none⟩) 4 (180 - m)) W := fun W => by
        have h := sliceAt_arr (P := Try.prog) 195 5 176 Try.underlying195 (by kernel_rfl) g5 ((m : Int) - 4) (m : Int) (m - 4) m (by omega) rfl (by omega) (by omega) (by omega) W
        rwa [show m - (m - 4) = 4 from by omega, show 176 - (m - 4) = 180 - m from by omega] at h
      have har : ∀ W : World, (Instr.arrayAt 210 (.slice (some ⟨g5, m - 4, none⟩) 4 (180 - m))).run Try.prog W = .ok (.pointer (some ⟨g5, m - 4, none⟩)) W := fun W => run_arrayAt W 210 5 4 _ 4 _ Try.underlying210 (by omega)
      have hlen := keyN_length key box HL.out n
      have hmid := hA.out.mid (m - 4) 4 (by omega)
      rw [four_eq _ _ (by omega)] at hmid
      obtain ⟨O, hO⟩ : ∃ O, O = keyN key box n := ⟨_, rfl⟩
      rw [← hO] at hmid hA
      have HO := Lib.hid hO
      have HOL : Hid (O.length = 176) := Lib.hid (by rw [hO]; exact hlen)
      have HOB : Hid (Bytes O) := Lib.hid (by rw [hO]; exact keyN_b key box HKB.out HBB.out n)
      have HMID := Lib.hid hmid
      have hg5 : g5 < wr.heap.size := hA.out.lt
      have HBX := Lib.hid (HA3.out.grown_ hB.out (by omega))
      clear hO hlen hmid
      by_cases h16 : m % 16 = 0
      focus
        have he16 : ((m : Int) % 16 == 0) = true := by simp; omega
        have H16 := Lib.hid h16
        clear h16
        obtain ⟨t0, ht0⟩ : ∃ x, x = O.getD (m - 4) 0 := ⟨_, rfl⟩
        obtain ⟨t1, ht1⟩ : ∃ x, x = O.getD (m - 4 + 1) 0 := ⟨_, rfl⟩
        obtain ⟨t2, ht2⟩ : ∃ x, x = O.getD (m - 4 + 2) 0 := ⟨_, rfl⟩
        obtain ⟨t3, ht3⟩ : ∃ x, x = O.getD (m - 4 + 3) 0 := ⟨_, rfl⟩
        have hF : four O (m - 4) = [t0, t1, t2, t3] := by rw [ht0, ht1, ht2, ht3]; rfl
        obtain ⟨hl0, hu0⟩ : 0 ≤ t0 ∧ t0 < 256 := by rw [ht0]; exact byte_at HOB.out _
        obtain ⟨hl1, hu1⟩ : 0 ≤ t1 ∧ t1 < 256 := by rw [ht1]; exact byte_at HOB.out _
        obtain ⟨hl2, hu2⟩ : 0 ≤ t2 ∧ t2 < 256 := by rw [ht2]; exact byte_at HOB.out _
        obtain ⟨hl3, hu3⟩ : 0 ≤ t3 ∧ t3 < 256 := by rw [ht3]; exact byte_at HOB.out _
        obtain ⟨b0, hb0⟩ : ∃ x, x = box.getD t0.toNat 0 := ⟨_, rfl⟩
        obtain ⟨b1, hb1⟩ : ∃ x, x = box.getD t1.toNat 0 := ⟨_, rfl⟩
        obtain ⟨b2, hb2⟩ : ∃ x, x = box.getD t2.toNat 0 := ⟨_, rfl⟩
        obtain ⟨b3, hb3⟩ : ∃ x, x = box.getD t3.toNat 0 := ⟨_, rfl⟩
        have HTK : Hid (kT box O (n + 4) con = [Go.bits .xor .u8 b1 con, b2, b3, b0]) := Lib.hid (by
          unfold kT
          rw [if_pos (by have := HM.out; have := H16.out; omega), show 4 * (n + 4) - 4 = m - 4 from by have := HM.out; omega, ← ht0, ← ht1, ← ht2, ← ht3, ← hb0, ← hb1, ← hb2, ← hb3])
        rw [hF] at HMID
        have hbx := fun (W : World) (hW : Arr .u8 193 W g3 box) => show W.cell? ⟨g3, t0.toNat, none⟩ = some (.int .u8 b0) ∧ W.cell? ⟨g3, t1.toNat, none⟩ = some (.int .u8 b1) ∧ W.cell? ⟨g3, t2.toNat, none⟩ = some (.int .u8 b2) ∧ W.cell? ⟨g3, t3.toNat, none⟩ = some (.int .u8 b3) from
          ⟨by rw [hb0]; exact hW.cellN _ (by rw [HLB.out]; omega), by rw [hb1]; exact hW.cellN _ (by rw [HLB.out]; omega), by rw [hb2]; exact hW.cellN _ (by rw [HLB.out]; omega), by rw [hb3]; exact hW.cellN _ (by rw [HLB.out]; omega)⟩
        have HBXF := Lib.hid hbx
        clear hbx hb0 hb1 hb2 hb3 ht0 ht1 ht2 ht3 hF
        go_wp2_with (first
          | ((with_reducible refine gate_dst (N := 23) rfl ?_); refine wpList_load_mid rfl 210 _ rfl g5 (m - 4) rfl (nums .u8 [t0, t1, t2, t3]) _ HMID.out Try.underlying210 rfl (by kernel_rfl) ?_)
          | ((with_reducible refine gate_dst (N := 8) rfl ?_); refine alloc_arr rfl 210 rfl .u8 (List.replicate 4 0) (fun w => Try.zeroValue210 w) (by first | (go_simp; done) | (go_simp; rfl)) ?_; intro w6 hA6 hB6)
          | ((with_reducible refine gate_store (t := 210) (p := 8) rfl ?_); refine store_arr rfl 210 _ _ rfl wr.heap.size .u8 [t0, t1, t2, t3] rfl rfl 210 _ hA6 rfl (by kernel_rfl) ?_; intro w7 hA7 hw7; have hB7 := below_setRow hB6 wr.heap.size (Nat.le_refl _) (nums .u8 [t0, t1, t2, t3]).toArray; rw [← hw7] at hB7; obtain ⟨hx0, hx1, hx2, hx3⟩ := HBXF.out w7 (HBX.out.next hB7); have hy0 := hA7.cellN 0 (by simp); have hy1 := hA7.cellN 1 (by simp); have hy2 := hA7.cellN 2 (by simp); have hy3 := hA7.cellN 3 (by simp); have hz0 := hA7.free 0; have hz1 := hA7.free 1; have hz2 := hA7.free 2; have hz3 := hA7.free 3; simp only [List.getD_cons_zero, List.getD_cons_succ] at hy0 hy1 hy2 hy3; have HA7 := Lib.hid hA7; have HB7 := Lib.hid hB7; clear hw7 hA7 hB7 hA6 hB6)
          | fail)
        go_still_tail 19, (by kernel_rfl)
        obtain ⟨T, hT⟩ : ∃ T : List Int, T = [Go.bits .xor .u8 b1 con, b2, b3, b0] := ⟨_, rfl⟩
        have HT := Lib.hid hT
        refine store_arr (W := w7.drew) rfl 210 _ _ rfl wr.heap.size .u8 T rfl (by rw [hT]; rfl) 210 _ HA7.out.drew (by rw [hT]; rfl) (by rw [hT]; kernel_rfl) ?_
        clear hT
        intro wx hAx hwx
        have hBx : Below wr.heap.size wr wx := by rw [hwx]; exact below_setRow (below_drew HB7.out) _ (Nat.le_refl _) _
        clear hwx
        have HTE : Hid (T = kT box O (n + 4) (conN ((n + 3) / 4))) := Lib.hid (by rw [← hcon.out, HTK.out]; exact HT.out)
        have HTL : Hid (T.length = 4) := Lib.hid (by rw [HT.out]; rfl)
        have HAX := Lib.hid hAx
        have HBX2 := Lib.hid hBx
        clear hAx hBx HTK HT HA7 HB7 hx0 hx1 hx2 hx3 hy0 hy1 hy2 hy3 hz0 hz1 hz2 hz3
        go_wp2_with fail
        refine (twice_any con _ hc0 hc1).mono ?_
        rintro e w' ⟨rfl, rfl⟩
        have HCN : Hid (twiceF con = conN ((n + 1 + 3) / 4)) := Lib.hid (by
          rw [hcon.out, show (n + 1 + 3) / 4 = (n + 3) / 4 + 1 from by have := HM.out; have := H16.out; omega]
          show _ = conN _
          rw [conN])
        have hcb := twice_b con
        generalize twiceF con = con' at *
        go_wp2_with (first
          | ((with_reducible refine gate_dst (N := 48) rfl ?_); refine load_arr rfl 210 _ rfl wr.heap.size rfl .u8 _ _ _ _ HAX.out Try.underlying210 (by rw [HTL.out]; kernel_rfl) ?_)
          | fail)
        clear hcon hc0 hc1
      rotate_left
      focus
        have he16 : ((m : Int) % 16 == 0) = false := by simp; omega
        have H16 := Lib.hid h16
        have HCN : Hid (con = conN ((n + 1 + 3) / 4)) := Lib.hid (by rw [hcon.out, show (n + 1 + 3) / 4 = (n + 3) / 4 from by have := HM.out; omega])
        have hcb : Byte con := ⟨hc0, hc1⟩
        clear h16
        obtain ⟨T, hT⟩ : ∃ T : List Int, T = four O (m - 4) := ⟨_, rfl⟩
        rw [← hT] at HMID
        have HTE : Hid (T = kT box O (n + 4) (conN ((n + 3) / 4))) := Lib.hid (by
          rw [← hcon.out]
          unfold kT
          rw [if_neg (by have := HM.out; have := H16.out; omega), hT, show 4 * (n + 4) - 4 = m - 4 from by have := HM.out; omega])
        have HTL : Hid (T.length = 4) := Lib.hid (by rw [hT]; rfl)
        have HNL : Hid ((nums .u8 T).length = 4) := Lib.hid (by rw [hT]; rfl)
        clear hT
        go_wp2_with (first
          | ((with_reducible refine gate_dst (N := 23) rfl ?_); refine wpList_load_mid rfl 210 _ rfl g5 (m - 4) rfl (nums .u8 T) _ HMID.out Try.underlying210 rfl (by rw [HNL.out]; kernel_rfl) ?_)
          | ((with_reducible refine gate_dst (N := 8) rfl ?_); refine alloc_arr rfl 210 rfl .u8 (List.replicate 4 0) (fun w => Try.zeroValue210 w) (by first | (go_simp; done) | (go_simp; rfl)) ?_; intro w6 hA6 hB6)
          | ((with_reducible refine gate_store (t := 210) (p := 8) rfl ?_); refine store_arr rfl 210 _ _ rfl wr.heap.size .u8 T rfl rfl 210 _ hA6 (by rw [HTL.out]; rfl) (by rw [HTL.out]; kernel_rfl) ?_; intro w' hA7 hw7; have hB7 := below_setRow hB6 wr.heap.size (Nat.le_refl _) (nums .u8 T).toArray; rw [← hw7] at hB7; have HAX := Lib.hid hA7; have HBX2 := Lib.hid hB7; clear hw7 hA7 hB7 hA6 hB6)
          | ((with_reducible refine gate_dst (N := 48) rfl ?_); refine load_arr rfl 210 _ rfl wr.heap.size rfl .u8 _ _ _ _ HAX.out Try.underlying210 (by rw [HTL.out]; kernel_rfl) ?_)
          | fail)
        clear hcon hc0 hc1
        generalize con = con' at *
      all_goals
        have HAk : Hid (Arr .u8 195 w' g5 (kI T O (n + 4) 0)) := Lib.hid (by unfold kI; exact hA.out.next HBX2.out)
        have HBk : Hid (w5.grownBy w' (some g5)) := Lib.hid (grown_below hB.out HBX2.out)
        have HTB : Hid (Bytes T) := Lib.hid (by rw [HTE.out]; exact kT_b _ _ _ _ HBB.out HOB.out (conN_b _))
        have HIL := Lib.hid (fun k => kI_length T O (n + 4) k)
        clear hsl har
        obtain ⟨hcb0, hcb1⟩ := hcb
        go_loopw [49] (fun i wq => ∃ k : Nat, i = .int .i64 k ∧ k ≤ 4 ∧ Hid (Arr .u8 195 wq g5 (kI T O (n + 4) k)) ∧ Hid (w5.grownBy wq (some g5))) (fun i _ => 4 - (intOf i).toNat)
        case atStart => exact ⟨0, rfl, by omega, HAk, HBk⟩
        case round =>
          clear HAk HBk
          rename_i wq _
          obtain ⟨k, rfl, hk, hAk, hBk⟩ := hrel
          by_cases hk4 : k < 4
          · have hix := index_nums (P := Try.prog) 210 5 4 .u8 T k Try.underlying210 Try.underlying5 (by kernel_rfl) HTL.out hk4
            have hc1 := hAk.out.cellN (m - 16 + k) (by rw [HIL.out, HOL.out]; omega)
            have hc2 := hAk.out.cellN (m + k) (by rw [HIL.out, HOL.out]; omega)
            have hf2 := hAk.out.free (m + k)
            have HS : Hid (kI T O (n + 4) (k + 1) = (kI T O (n + 4) k).set (m + k) (Go.bits .xor .u8 ((kI T O (n + 4) k).getD (m - 16 + k) 0) (T.getD k 0))) := Lib.hid (by
              rw [kI, show 4 * (n + 4) + k = m + k from by have := HM.out; omega, show 4 * (n + 4) - 16 + k = m - 16 + k from by have := HM.out; omega])
            have hb1 : (0 : Int) ≤ (m : Int) - 16 + (k : Int) := by omega
            have hb2 : (m : Int) - 16 + (k : Int) < 176 := by omega
            have hb3 : ((m : Int) - 16 + (k : Int)).toNat = m - 16 + k := by omega
            go_wp2
            go_roundw
            case rel => exact ⟨k + 1, by go_num, by omega, Lib.hid (by rw [HS.out]; exact hAk.out.put (m + k) _), Lib.hid (grown_set hBk.out _ _)⟩
            case measure => simp [intOf]; omega
          · have hk' : k = 4 := by omega
            subst hk'
            go_wp2
            go_roundw
            case rel => exact ⟨n + 1, m + 4, con', rfl, by go_num, by have := HM.out; omega, by omega, hcb0, hcb1, HCN, Lib.hid (by rw [keyN, ← HO.out, ← HTE.out]; exact hAk.out), hBk⟩
            case measure => simp [intOf]; omega
    · have hn' : n = 40 := by omega
      subst hn'
      have hm176 : m = 176 := by omega
      subst hm176
      have hlen := keyN_length key box HL.out 40
      obtain ⟨O, hO⟩ : ∃ O, O = keyN key box 40 := ⟨_, rfl⟩
      rw [← hO] at hA hlen ⊢
      have HOL := Lib.hid hlen
      have HO40 := Lib.hid hO
      clear hlen hO
      have HA4r := Lib.hid (HA4.out.grown_ hB.out (by omega))
      have HBr := Lib.hid (below_grown HB5.out (by have := HB5.out.size; have := HG2.out; omega) (by omega) hB.out)
      go_wp2_with (first
        | ((with_reducible refine gate_dst (N := 66) rfl ?_); refine load_arr rfl 195 _ rfl g5 rfl .u8 _ _ _ _ hA.out Try.underlying195 (by rw [HOL.out]; kernel_rfl) ?_)
        | ((with_reducible refine gate_store (t := 195) (p := 4) rfl ?_); refine store_arr rfl 195 _ _ rfl g4 .u8 O rfl rfl 195 _ HA4r.out (by rw [HOL.out]; rfl) (by rw [HOL.out]; kernel_rfl) ?_; intro w8 hA8 hw8; subst hw8)
        | fail)
      exact bodyPost_ret (results_arr rfl _ _ g4 .u8 _ _ _ O rfl hA8 Try.underlying195 (by rw [HOL.out]; kernel_rfl)) rfl ⟨by rw [HO40.out], by rw [HG2.out]; exact below_setRow HBr.out _ (by omega) _⟩
end Go.Proofs.Ytoiiacbbfhlocaa.HAa
end
section
set_option linter.unusedVariables false
set_option linter.unusedSimpArgs false
namespace Go.Proofs.Ytoiiacbbfhlocaa.HAa
open Go.RowKit Go.Proofs.YtoiiacbbfhlocaaW.PrintWords Go.Proofs.YtoiiacbbfhlocaaW.PrintLast Go.Proofs.YtoiiacbbfhlocaaW.PrintMore Go.Proofs.Ytoiiacbbfhlocaa.Kit
attribute [local go_sem ↓] Go.wp_at_zero Go.wp_at_succ
def subV (box old : List Int) (i : Nat) : Int := box.getD (old.getD ((i + i % 4 * 4) % 16) 0).toNat 0
def subN (box old : List Int) : Nat → List Int
  | 0 => old
  | i + 1 => (subN box old i).set i (subV box old i)
def mixAll (xs : List Int) : Nat → List Int
  | 0 => xs
  | j + 1 => mixN (mixAll xs j) (4 * j) 4
def roundF (all box xs : List Int) (r : Nat) : List Int := addN all r (if r < 10 then mixAll (subN box xs 16) 4 else subN box xs 16) 16
def encN (all box block : List Int) : Nat → List Int
  | 0 => addN all 0 block 16
  | n + 1 => roundF all box (encN all box block n) (n + 1)
def encF (key block : List Int) : List Int := encN (keyN key boxT 40) boxT block 10
theorem subN_length (box old : List Int) : ∀ n, (subN box old n).length = old.length
  | 0 => rfl
  | n + 1 => by simp [subN, subN_length box old n]
theorem subN_b (box old : List Int) (hb : Bytes box) (ho : Bytes old) : ∀ n, Bytes (subN box old n)
  | 0 => ho
  | n + 1 => bytes_set (subN_b box old hb ho n) _ _ (byte_at hb _)
theorem mixAll_length (xs : List Int) : ∀ n, (mixAll xs n).length = xs.length
  | 0 => rfl
  | n + 1 => by rw [mixAll, mixN_length, mixAll_length xs n]
theorem mixAll_b (xs : List Int) (h : Bytes xs) : ∀ n, Bytes (mixAll xs n)
  | 0 => h
  | n + 1 => mixN_b _ _ (mixAll_b xs h n) 4
theorem addN_b (all : List Int) (r : Nat) (xs : List Int) (ha : Bytes all) (h : Bytes xs) : ∀ n, Bytes (addN all r xs n)
  | 0 => by unfold addN; exact h
  | n + 1 => by
    have := addN_b all r xs ha h n
    unfold addN
    exact bytes_set this _ _ (bxor_b _ _ (byte_at this _) (byte_at ha _))
theorem roundF_length (all box xs : List Int) (r : Nat) : (roundF all box xs r).length = xs.length := by
  unfold roundF
  rw [addN_length]
  split
  · rw [mixAll_length, subN_length]
  · rw [subN_length]
theorem roundF_b (all box xs : List Int) (r : Nat) (ha : Bytes all) (hb : Bytes box) (h : Bytes xs) : Bytes (roundF all box xs r) := by
  unfold roundF
  apply addN_b _ _ _ ha
  split
  · exact mixAll_b _ (subN_b _ _ hb h _) _
  · exact subN_b _ _ hb h _
theorem encN_length (all box block : List Int) : ∀ n, (encN all box block n).length = block.length
  | 0 => by rw [encN, addN_length]
  | n + 1 => by rw [encN, roundF_length, encN_length all box block n]
theorem encN_b (all box block : List Int) (ha : Bytes all) (hb : Bytes box) (h : Bytes block) : ∀ n, Bytes (encN all box block n)
  | 0 => addN_b _ _ _ ha h _
  | n + 1 => roundF_b _ _ _ _ ha hb (encN_b all box block ha hb h n)
theorem boxT_b : Bytes boxT := by
  unfold Bytes
  decide +kernel
attribute [local irreducible] encN keyN boxT subN mixAll addN mixN
set_option maxHeartbeats 2000000 in
set_option maxRecDepth 100000 in
theorem encrypt_any (key block : List Int) (w : World) (h16 : key.length = 16) (hb16 : block.length = 16) (hkb : Bytes key) (hbb : Bytes block) :
    Calls Try.prog 118 #[.agg (nums .u8 key).toArray, .agg (nums .u8 block).toArray] w (GivesA .u8 (encF key block) w) := by
  have HL := Lib.hid h16
  have HLB := Lib.hid hb16
  have HKB := Lib.hid hkb
  have HBB := Lib.hid hbb
  have HXL : Hid (boxT.length = 256) := Lib.hid (by unfold boxT; rfl)
  obtain ⟨box, hbox⟩ : ∃ b, b = boxT := ⟨_, rfl⟩
  have HXE := Lib.hid hbox
  rw [← hbox] at HXL
  have HXB : Hid (Bytes box) := Lib.hid (by rw [hbox]; exact boxT_b)
  clear h16 hb16 hkb hbb hbox
  have hmf : ∀ (fn : Fn) (first cap : Array Value) (w : World), (Instr.makeFunc fn first cap).run Try.prog w = .ok (.func fn first cap) w := fun _ _ _ _ => rfl
  go_enter Try.func118, Try.ntmps118
  go_wp2_with (first
    | ((with_reducible refine gate_dst (N := 2) rfl ?_); refine arr_new rfl 22 .u8 key (by first | (go_simp; done) | (go_simp; rfl)) ?_; intro w1 hA1 hB1)
    | ((with_reducible refine gate_dst (N := 3) rfl ?_); refine arr_new rfl 22 .u8 block (by first | (go_simp; done) | (go_simp; rfl)) ?_; intro w2 hA2 hB2)
    | ((with_reducible refine gate_dst (N := 4) rfl ?_); refine alloc_arr rfl 22 rfl .u8 (List.replicate 16 0) (fun w => Try.zeroValue22 w) (by first | (go_simp; done) | (go_simp; rfl)) ?_; intro w3 hA3 hB3)
    | fail)
  refine (boxes_any _).mono ?_
  rintro e w4 ⟨rfl, hB4⟩
  rw [← HXE.out]
  have hg12 : w.heap.size < w1.heap.size := hA1.lt
  have hg23 : w1.heap.size < w2.heap.size := hA2.lt
  have hg34 : w2.heap.size < w3.heap.size := hA3.lt
  have hg35 : w3.heap.size ≤ w4.heap.size := hB4.size
  have HA1 := Lib.hid (((hA1.next hB2).next hB3).next hB4)
  have HA2 := Lib.hid ((hA2.next hB3).next hB4)
  have HA3 := Lib.hid (hA3.next hB4)
  have HB := Lib.hid (below_next (below_next (below_next hB1 hB2) hB3) hB4)
  clear hA1 hA2 hA3 hB1 hB2 hB3 hB4
  generalize hg4 : w2.heap.size = g4 at *
  generalize hg3 : w1.heap.size = g3 at *
  generalize hg2 : w.heap.size = g2 at *
  have HG2 := Lib.hid hg2
  clear hg2 hg3 hg4
  go_wp2_with (first
    | ((with_reducible refine gate_dst (N := 5) rfl ?_); refine alloc_arr rfl 193 rfl .u8 (List.replicate 256 0) (fun w => Try.zeroValue193 w) (by first | (go_simp; done) | (go_simp; rfl)) ?_; intro w5 hA5 hB5)
    | ((with_reducible refine gate_store (t := 193) (p := 5) rfl ?_); refine store_arr rfl 193 _ _ rfl w4.heap.size .u8 box rfl rfl 193 _ hA5 (by rw [HXL.out]; rfl) (by rw [HXL.out]; kernel_rfl) ?_; intro w6 hA6 hw6; have hB6 := below_setRow hB5 w4.heap.size (Nat.le_refl _) (nums .u8 box).toArray; rw [← hw6] at hB6; have HA16 := Lib.hid (HA1.out.next hB6); have HA26 := Lib.hid (HA2.out.next hB6); have HA36 := Lib.hid (HA3.out.next hB6); have HA5 := Lib.hid hA6; have HB6 := Lib.hid (HB.out.trans (hB6.mono (by omega))); have hs6 : w4.heap.size < w6.heap.size := hA6.lt; clear hw6 hA6 hA5 hB5 hB6)
    | ((with_reducible refine gate_dst (N := 13) rfl ?_); refine load_arr rfl 22 _ rfl g2 rfl .u8 _ _ _ _ HA16.out Try.underlying22 (by rw [HL.out]; kernel_rfl) ?_)
    | ((with_reducible refine gate_dst (N := 14) rfl ?_); refine load_arr rfl 193 _ rfl w4.heap.size rfl .u8 _ _ _ _ HA5.out Try.underlying193 (by rw [HXL.out]; kernel_rfl) ?_)
    | fail)
  refine (keys_any key box _ HL.out HXL.out HKB.out HXB.out).mono ?_
  rintro e w7 ⟨rfl, hB7⟩
  obtain ⟨ks, hks⟩ : ∃ k, k = keyN key box 40 := ⟨_, rfl⟩
  have HKL : Hid (ks.length = 176) := Lib.hid (by rw [hks]; exact keyN_length key box HL.out 40)
  have HKY : Hid (Bytes ks) := Lib.hid (by rw [hks]; exact keyN_b key box HKB.out HXB.out 40)
  rw [← hks]
  have HKE := Lib.hid hks
  have hs67 := hB7.size
  have HA7 := Lib.hid (HA26.out.next hB7)
  have HR7 := Lib.hid (HA36.out.next hB7)
  have HX7 := Lib.hid (HA5.out.next hB7)
  have HB7 := Lib.hid (HB6.out.trans (hB7.mono (by have := HB6.out.size; have := HG2.out; omega)))
  have hg45 : g4 < w4.heap.size := by omega
  clear hks HA1 HA2 HA3 HB HA16 HA26 HA36 HA5 HB6 hB7
  generalize w4.heap.size = g5 at *
  go_wp2_with (first
    | ((with_reducible refine gate_dst (N := 6) rfl ?_); refine alloc_arr rfl 195 rfl .u8 (List.replicate 176 0) (fun w => Try.zeroValue195 w) (by first | (go_simp; done) | (go_simp; rfl)) ?_; intro w8 hA8 hB8)
    | ((with_reducible refine gate_store (t := 195) (p := 6) rfl ?_); refine store_arr rfl 195 _ _ rfl w7.heap.size .u8 ks rfl rfl 195 _ hA8 (by rw [HKL.out]; rfl) (by rw [HKL.out]; kernel_rfl) ?_; intro w9 hA9 hw9; have hB9 := below_setRow hB8 w7.heap.size (Nat.le_refl _) (nums .u8 ks).toArray; rw [← hw9] at hB9; have HA9 := Lib.hid (HA7.out.next hB9); have HR9 := Lib.hid (HR7.out.next hB9); have HX9 := Lib.hid (HX7.out.next hB9); have HK9 := Lib.hid hA9; have HB9 := Lib.hid (HB7.out.trans (hB9.mono (by have := HB7.out.size; have := HG2.out; omega))); clear hw9 hA9 hA8 hB8 hB9)
    | fail)
  have hg56 : g5 < w7.heap.size := by omega
  generalize w7.heap.size = g6 at *
  clear HA7 HR7 HX7 HB7
  have hadd : Calls Try.prog 135 #[.int .i64 0, .pointer (some ⟨g3, 0, none⟩), .pointer (some ⟨g6, 0, none⟩)] w9 (Turns .u8 22 w9 g3 (addN ks 0 block 16)) := add_any g3 g6 0 block ks w9 HA9.out HK9.out HLB.out HKL.out (by omega)
  refine hadd.mono ?_
  rintro e w0 ⟨rfl, hAd, hGd⟩
  have HA0 : Hid (Arr .u8 22 w0 g3 (encN ks box block 0)) := Lib.hid (by unfold encN; exact hAd)
  have HR0 := Lib.hid (HR9.out.grown_ hGd (by omega))
  have HX0 := Lib.hid (HX9.out.grown_ hGd (by omega))
  have HK0 := Lib.hid (HK9.out.grown_ hGd (by omega))
  have HB0 := Lib.hid (below_grown HB9.out (by have := HB9.out.size; have := HG2.out; omega) (by omega) hGd)
  clear hadd hAd hGd HA9 HR9 HX9 HK9 HB9
  go_wp2_with fail
  go_loopw [8] (fun iv wr => ∃ (n r : Nat), iv = .int .i64 r ∧ r = n + 1 ∧ n ≤ 10 ∧ Hid (Arr .u8 22 wr g3 (encN ks box block n)) ∧ Hid (w0.grownBy wr (some g3))) (fun iv _ => 11 - (intOf iv).toNat)
  case atStart => exact ⟨0, 1, rfl, rfl, by omega, HA0, Lib.hid (grown_of_below (Below.refl _ _) _)⟩
  case round =>
    clear HA0
    obtain ⟨n, r, rfl, hr, hn, hA, hB⟩ := hrel
    have hlen := encN_length ks box block n
    rw [HLB.out] at hlen
    have hbN := encN_b ks box block HKY.out HXB.out HBB.out n
    by_cases hn10 : n < 10
    · have HR := Lib.hid hr
      have hr10 : r ≤ 10 := by omega
      have hr1 : 1 ≤ r := by omega
      clear hr
      have HES : Hid (encN ks box block (n + 1) = roundF ks box (encN ks box block n) r) := Lib.hid (by rw [encN, HR.out])
      obtain ⟨xs, hxs⟩ : ∃ x, x = encN ks box block n := ⟨_, rfl⟩
      rw [← hxs] at hA hlen hbN HES
      have HXSL := Lib.hid hlen
      have HXSB := Lib.hid hbN
      have hg3r : g3 < wr.heap.size := hA.out.lt
      have hs0r := hB.out.size
      have hg6 := HK0.out.lt
      clear hlen hbN hxs
      go_wp2_with (first
        | ((with_reducible refine gate_dst (N := 23) rfl ?_); refine load_arr rfl 22 _ rfl g3 rfl .u8 _ _ _ _ hA.out Try.underlying22 (by rw [HXSL.out]; kernel_rfl) ?_)
        | ((with_reducible refine gate_dst (N := 9) rfl ?_); refine alloc_arr rfl 22 rfl .u8 (List.replicate 16 0) (fun w => Try.zeroValue22 w) (by first | (go_simp; done) | (go_simp; rfl)) ?_; intro w10 hA10 hB10)
        | ((with_reducible refine gate_store (t := 22) (p := 9) rfl ?_); refine store_arr rfl 22 _ _ rfl wr.heap.size .u8 xs rfl rfl 22 _ hA10 (by rw [HXSL.out]; rfl) (by rw [HXSL.out]; kernel_rfl) ?_; intro w11 hA11 hw11; have hB11 := below_setRow hB10 wr.heap.size (Nat.le_refl _) (nums .u8 xs).toArray; rw [← hw11] at hB11; have HO := Lib.hid hA11; have HA11 := Lib.hid (hA.out.next hB11); have HG11 := Lib.hid (grown_below hB.out hB11); clear hw11 hA10 hB10 hA11 hB11)
        | fail)
      generalize wr.heap.size = g9 at *
      have HA110 : Hid (Arr .u8 22 w11 g3 (subN box xs 0)) := Lib.hid (by unfold subN; exact HA11.out)
      go_loopw [24] (fun iv wq => ∃ k : Nat, iv = .int .i64 k ∧ k ≤ 16 ∧ Hid (Arr .u8 22 wq g3 (subN box xs k)) ∧ Hid (w11.grownBy wq (some g3))) (fun iv _ => 16 - (intOf iv).toNat)
      case atStart => exact ⟨0, rfl, by omega, HA110, Lib.hid (grown_of_below (Below.refl _ _) _)⟩
      case round =>
        clear HA110
        obtain ⟨k, rfl, hk, hAk, hBk⟩ := hrel
        by_cases hk16 : k < 16
        · have hj : (k + k % 4 * 4) % 16 < 16 := Nat.mod_lt _ (by omega)
          have hco := (HO.out.grown_ hBk.out (by omega)).cellN ((k + k % 4 * 4) % 16) (by rw [HXSL.out]; omega)
          obtain ⟨hy0, hy1⟩ := byte_at HXSB.out ((k + k % 4 * 4) % 16)
          have hcx := (((HX0.out.grown_ HG11.out (by omega))).grown_ hBk.out (by omega)).cellN (xs.getD ((k + k % 4 * 4) % 16) 0).toNat (by rw [HXL.out]; omega)
          have HSV : Hid (subV box xs k = box.getD (xs.getD ((k + k % 4 * 4) % 16) 0).toNat 0) := Lib.hid rfl
          obtain ⟨y, hy⟩ : ∃ y, y = xs.getD ((k + k % 4 * 4) % 16) 0 := ⟨_, rfl⟩
          rw [← hy] at hco hcx hy0 hy1 HSV
          have hc := hAk.out.cellN k (by rw [subN_length, HXSL.out]; omega)
          have hf := hAk.out.free k
          have HS : Hid (subN box xs (k + 1) = (subN box xs k).set k (box.getD y.toNat 0)) := Lib.hid (by rw [subN, HSV.out])
          have hm0 : (0 : Int) ≤ ((k : Int) + (k : Int) % 4 * 4) % 16 := by omega
          have hm1 : ((k : Int) + (k : Int) % 4 * 4) % 16 < 16 := by omega
          have hm2 : (((k : Int) + (k : Int) % 4 * 4) % 16).toNat = (k + k % 4 * 4) % 16 := by omega
          clear hy
          go_wp2
          go_roundw
          case rel => exact ⟨k + 1, by go_num, by omega, Lib.hid (by rw [HS.out]; exact hAk.out.put k _), Lib.hid (grown_set hBk.out _ _)⟩
          case measure => simp [intOf]; omega
        · have hk' : k = 16 := by omega
          subst hk'
          obtain ⟨S, hS⟩ : ∃ S, S = subN box xs 16 := ⟨_, rfl⟩
          rw [← hS] at hAk
          have HSL : Hid (S.length = 16) := Lib.hid (by rw [hS, subN_length, HXSL.out])
          have HSB : Hid (Bytes S) := Lib.hid (by rw [hS]; exact subN_b _ _ HXB.out HXSB.out _)
          have HSE := Lib.hid hS
          have HG12 := Lib.hid (grown_then HG11.out hBk.out)
          clear hS
          go_wp2_with fail
          obtain ⟨wb, hwb⟩ : ∃ wb : World, wb = wr := ⟨_, rfl⟩
          subst hwb
          by_cases hr9 : r < 10
          focus
            rw [show ((16 : Nat) : Int) = 16 from rfl]
            have hRF : Hid (∀ M, M = mixAll S 4 → roundF ks box xs r = addN ks r M 16) := Lib.hid (fun M hM => by unfold roundF; rw [if_pos hr9, hM, HSE.out])
            have HM0 : Hid (Arr .u8 22 wb g3 (mixAll S 0)) := Lib.hid (by unfold mixAll; exact hAk.out)
            go_loopw [11] (fun iv wq => ∃ (j i : Nat), iv = .int .i64 i ∧ i = 4 * j ∧ j ≤ 4 ∧ Hid (Arr .u8 22 wq g3 (mixAll S j)) ∧ Hid (wb.grownBy wq (some g3))) (fun iv _ => 16 - (intOf iv).toNat)
            case atStart => exact ⟨0, 0, rfl, rfl, by omega, HM0, Lib.hid (grown_of_below (Below.refl _ _) _)⟩
            case round =>
              clear HM0
              obtain ⟨j, i, rfl, hi, hj, hAj, hBj⟩ := hrel
              by_cases hj4 : j < 4
              · have HI := Lib.hid hi
                have hi1 : i ≤ 12 := by omega
                clear hi
                have hsl : ∀ W : World, (Instr.sliceAt 22 (.pointer (some ⟨g3, 0, none⟩)) (some (.int .i64 (i : Int))) (some (.int .i64 ((i : Int) + 4))) none).run Try.prog W = .ok (.slice (some ⟨g3, i, none⟩) 4 (16 - i)) W := fun W => by
                  have h := sliceAt_arr (P := Try.prog) 22 5 16 Try.underlying22 (by kernel_rfl) g3 (i : Int) ((i : Int) + 4) i (i + 4) rfl (by omega) (by omega) (by omega) (by omega) W
                  rwa [show i + 4 - i = 4 from by omega] at h
                have HMS : Hid (mixAll S (j + 1) = mixN (mixAll S j) i 4) := Lib.hid (by rw [mixAll, HI.out])
                go_wp2_with fail
                refine (mix_any g3 i (16 - i) (mixAll S j) wr hAj.out (by rw [mixAll_length, HSL.out]) (by omega) (by omega) (mixAll_b S HSB.out j)).mono ?_
                rintro e w13 ⟨rfl, hA13, hG13⟩
                have HA13 := Lib.hid hA13
                have HG13 := Lib.hid (grown_then hBj.out hG13)
                clear hA13 hG13 hsl
                go_wp2
                go_roundw
                case rel => exact ⟨j + 1, i + 4, by go_num, by have := HI.out; omega, by omega, Lib.hid (by rw [HMS.out]; exact HA13.out), HG13⟩
                case measure => simp [intOf]; omega
              · have hj' : j = 4 := by omega
                subst hj'
                have hi16 : i = 16 := by omega
                subst hi16
                obtain ⟨M, hM⟩ : ∃ M, M = mixAll S 4 := ⟨_, rfl⟩
                rw [← hM] at hAj
                have HML : Hid (M.length = 16) := Lib.hid (by rw [hM, mixAll_length, HSL.out])
                have HRF := Lib.hid (hRF.out M hM)
                have HG14 := Lib.hid (grown_then HG12.out hBj.out)
                have HK14 := Lib.hid (HK0.out.grown_ HG14.out (by omega))
                clear hM
                go_wp2_with fail
                refine (add_any g3 g6 r M ks _ hAj.out HK14.out HML.out HKL.out hr10).mono ?_
                rintro e w15 ⟨rfl, hA15, hG15⟩
                have HA15 := Lib.hid hA15
                have HG15 := Lib.hid (grown_then HG14.out hG15)
                clear hA15 hG15
                go_wp2
                go_roundw
                case rel => exact ⟨n + 1, r + 1, by go_num, by have := HR.out; omega, by omega, Lib.hid (by rw [HES.out, HRF.out]; exact HA15.out), HG15⟩
                case measure => simp [intOf]; omega
          rotate_left
          focus
            have hr' : r = 10 := by omega
            have HRF : Hid (roundF ks box xs r = addN ks r S 16) := Lib.hid (by unfold roundF; rw [if_neg hr9, HSE.out])
            have HK14 := Lib.hid (HK0.out.grown_ HG12.out (by omega))
            clear hr9
            go_loopw [11] (fun iv wq => iv = .int .i64 0 ∧ wq = wb) (fun iv _ => 16 - (intOf iv).toNat)
            case atStart => exact ⟨rfl, rfl⟩
            case round =>
              obtain ⟨rfl, rfl⟩ := hrel
              have h10 : (r : Int) = 10 := by omega
              have h10' : ¬ (r : Int) < 10 := by omega
              have h10d : decide ((r : Int) < 10) = false := by simpa using h10'
              clear h10 h10' hr'
              go_wp2_with fail
              refine (add_any g3 g6 r S ks _ hAk.out HK14.out HSL.out HKL.out hr10).mono ?_
              rintro e w15 ⟨rfl, hA15, hG15⟩
              have HA15 := Lib.hid hA15
              have HG15 := Lib.hid (grown_then HG12.out hG15)
              clear hA15 hG15
              go_wp2
              go_roundw
              case rel => exact ⟨n + 1, r + 1, by go_num, by have := HR.out; omega, by omega, Lib.hid (by rw [HES.out, HRF.out]; exact HA15.out), HG15⟩
              case measure => simp [intOf]; omega
    · have hn' : n = 10 := by omega
      subst hn'
      subst hr
      have HXSL := Lib.hid hlen
      obtain ⟨xs, hxs⟩ : ∃ x, x = encN ks box block 10 := ⟨_, rfl⟩
      rw [← hxs] at hA HXSL
      have HE : Hid (encF key block = xs) := Lib.hid (by unfold encF; rw [hxs, HKE.out, HXE.out])
      have HR4 := Lib.hid (HR0.out.grown_ hB.out (by omega))
      have HBr := Lib.hid (below_grown HB0.out (by have := HB0.out.size; have := HG2.out; omega) (by omega) hB.out)
      clear hxs hlen hbN
      go_wp2_with (first
        | ((with_reducible refine gate_dst (N := 56) rfl ?_); refine load_arr rfl 22 _ rfl g3 rfl .u8 _ _ _ _ hA.out Try.underlying22 (by rw [HXSL.out]; kernel_rfl) ?_)
        | ((with_reducible refine gate_store (t := 22) (p := 4) rfl ?_); refine store_arr rfl 22 _ _ rfl g4 .u8 xs rfl rfl 22 _ HR4.out (by rw [HXSL.out]; rfl) (by rw [HXSL.out]; kernel_rfl) ?_; intro w8 hA8 hw8; subst hw8)
        | fail)
      exact bodyPost_ret (results_arr rfl _ _ g4 .u8 _ _ _ xs rfl hA8 Try.underlying22 (by rw [HXSL.out]; kernel_rfl)) rfl ⟨by rw [HE.out], by rw [HG2.out]; exact below_setRow HBr.out _ (by omega) _⟩
end Go.Proofs.Ytoiiacbbfhlocaa.HAa
end
section
set_option linter.unusedVariables false
set_option linter.unusedSimpArgs false
namespace Go.Proofs.Ytoiiacbbfhlocaa.HAa
open Go.RowKit Go.Proofs.YtoiiacbbfhlocaaW.PrintWords Go.Proofs.Ytoiiacbbfhlocaa.Kit Go.Proofs.Ytoiiacbbfhlocaa.Ra
end Go.Proofs.Ytoiiacbbfhlocaa.HAa
end
section
set_option linter.unusedVariables false
set_option linter.unusedSimpArgs false
namespace Go.Proofs.Ytoiiacbbfhlocaa.HAa
open Go.RowKit Go.Proofs.YtoiiacbbfhlocaaW.PrintWords Go.Proofs.Ytoiiacbbfhlocaa.Kit Go.Proofs.Ytoiiacbbfhlocaa.Ra
end Go.Proofs.Ytoiiacbbfhlocaa.HAa
end
section
set_option linter.unusedVariables false
set_option linter.unusedSimpArgs false
namespace Go.Proofs.Ytoiiacbbfhlocaa.HAa
open Go.RowKit Go.Proofs.YtoiiacbbfhlocaaW.PrintWords Go.Proofs.Ytoiiacbbfhlocaa.Kit Go.Proofs.Ytoiiacbbfhlocaa.Ra
end Go.Proofs.Ytoiiacbbfhlocaa.HAa
end
section
set_option linter.unusedVariables false
set_option linter.unusedSimpArgs false
namespace Go.Proofs.Ytoiiacbbfhlocaa.HAa
open Go.RowKit Go.Proofs.YtoiiacbbfhlocaaW.PrintWords Go.Proofs.Ytoiiacbbfhlocaa.Kit Go.Proofs.Ytoiiacbbfhlocaa.Ra
end Go.Proofs.Ytoiiacbbfhlocaa.HAa
end
section
set_option linter.unusedVariables false
set_option linter.unusedSimpArgs false
namespace Go.Proofs.Ytoiiacbbfhlocaa.HAa
open Go.RowKit Go.Proofs.YtoiiacbbfhlocaaW.PrintWords Go.Proofs.Ytoiiacbbfhlocaa.Kit
def Wl (KS : List Int) (i : Nat) : List (List Int) := (List.range i).map fun j => four KS (4 * j)
def Xl (KS : List Int) (i k : Nat) : List Int := (List.range k).map fun j => KS.getD (4 * i + j) 0
end Go.Proofs.Ytoiiacbbfhlocaa.HAa
end
section
set_option linter.unusedVariables false
set_option linter.unusedSimpArgs false
namespace Go.Proofs.Ytoiiacbbfhlocaa.HAa
open Go.RowKit Go.Proofs.YtoiiacbbfhlocaaW.PrintWords Go.Proofs.YtoiiacbbfhlocaaW.PrintLast Go.Proofs.YtoiiacbbfhlocaaW.PrintMore Go.Proofs.Ytoiiacbbfhlocaa.Kit Go.Proofs.Ytoiiacbbfhlocaa.Ra
attribute [local go_sem ↓] Go.wp_at_zero Go.wp_at_succ
attribute [local irreducible] keyN kI kT conN four Wl Xl
end Go.Proofs.Ytoiiacbbfhlocaa.HAa
end
