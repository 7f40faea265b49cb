/- Texts of this claim, laid together by a program of this session (wip/tools/pack.py); the print's own words among them are those that print.sh OWN=1 lays for the claim, as far as they are named. -/
import Derived.Test.YtljmjeaocojnmaaProg
import Derived.StillTailTactics
import Derived.Deep.DrawnRows
import Derived.BigRegion
import Derived.Laws.Cover3
import Derived.Test.YtljmjeaocojnmaaQG
import Derived.Test.YtljmjeaocojnmaaQR
section
set_option linter.unusedVariables false
set_option linter.unusedSimpArgs false
namespace Go.Proofs.Ytljmjeaocojnmaa.HAa
open Go.RowKit Go.Proofs.YtljmjeaocojnmaaW.PrintWords Go.Proofs.YtljmjeaocojnmaaW.PrintLast Go.Proofs.YtljmjeaocojnmaaW.PrintMore Go.Proofs.Ytljmjeaocojnmaa.Kit
theorem info_u8 : (Try.prog.info? 5).map (fun i => (i.zero, i.size, i.bytes)) = some (some (.int .u8 0), 1, 1) := by kernel_rfl
def Byte (x : Int) : Prop := 0 ≤ x ∧ x < 256
theorem bxor_b (a b : Int) (ha : Byte a) (hb : Byte b) : Byte (Go.bits .xor .u8 a b) := by
  obtain ⟨a, rfl⟩ := Int.eq_ofNat_of_zero_le ha.1
  obtain ⟨b, rfl⟩ := Int.eq_ofNat_of_zero_le hb.1
  have h1 : a < 2 ^ 8 := by have := ha.2; omega
  have h2 : b < 2 ^ 8 := by have := hb.2; omega
  rw [bxor8 a b h1 h2]
  have := Nat.xor_lt_two_pow h1 h2
  exact ⟨by omega, by omega⟩
def twiceF (x : Int) : Int := if Go.bits .and .u8 x 128 = 0 then x * 2 % 256 else Go.bits .xor .u8 (x * 2 % 256) 27
theorem twice_b (x : Int) : Byte (twiceF x) := by
  unfold twiceF
  split
  · exact ⟨by omega, by omega⟩
  · exact bxor_b _ _ ⟨by omega, by omega⟩ ⟨by decide, by decide⟩
set_option maxHeartbeats 400000 in
theorem twice_any (x : Int) (w : World) (h0 : 0 ≤ x) (h1 : x < 256) : Calls Try.prog 105 #[.int .u8 x] w (TellsV .u8 (twiceF x) w) := by
  have HF : Hid (twiceF x = if Go.bits .and .u8 x 128 = 0 then x * 2 % 256 else Go.bits .xor .u8 (x * 2 % 256) 27) := Lib.hid rfl
  by_cases hz : Go.bits .and .u8 x 128 = 0
  · have HZ := Lib.hid hz
    have hz1 : (Go.bits .and .u8 x 128 != 0) = false := by simpa using hz
    clear hz
    go_enter Try.func105, Try.ntmps105
    go_wp2
    go_ret
    exact ⟨by rw [HF.out, if_pos HZ.out]; rfl, rfl⟩
  · have HZ := Lib.hid hz
    have hz1 : (Go.bits .and .u8 x 128 != 0) = true := by simpa using hz
    clear hz
    go_enter Try.func105, Try.ntmps105
    go_wp2
    go_ret
    exact ⟨by rw [HF.out, if_neg HZ.out]; rfl, rfl⟩
def rot8 (x n : Int) : Int := Go.bits .or .u8 (x * 2 ^ n.toNat % 256) (x / 2 ^ (8 - n).toNat)
theorem rot8_count (n : Int) (h : n = 1 ∨ n = 2 ∨ n = 3 ∨ n = 4) : Go.bits .and .u64 (IntKind.u64.wrap n) 7 = n := by
  rcases h with rfl | rfl | rfl | rfl <;> decide +kernel
set_option maxHeartbeats 400000 in
theorem rot8_at (x n k : Int) (w : World) (hk : Go.bits .and .u64 (IntKind.u64.wrap n) 7 = k) (h0 : 0 ≤ k) (h1 : k ≤ 4) :
    Calls Try.prog 106 #[.int .u8 x, .int .i64 n] w (TellsV .u8 (Go.bits .or .u8 (x * 2 ^ k.toNat % 256) (x / 2 ^ (8 - k).toNat)) w) := by
  go_enter Try.func106, Try.ntmps106
  go_wp2
  go_ret
  exact ⟨rfl, rfl⟩
theorem rot8_any (x n : Int) (w : World) (h : n = 1 ∨ n = 2 ∨ n = 3 ∨ n = 4) : Calls Try.prog 106 #[.int .u8 x, .int .i64 n] w (TellsV .u8 (rot8 x n) w) :=
  rot8_at x n n w (rot8_count n h) (by omega) (by omega)
def q1 (q : Int) : Int := Go.bits .xor .u8 q (q * 2 % 256)
def q2 (q : Int) : Int := Go.bits .xor .u8 (q1 q) (q1 q * 4 % 256)
def q3 (q : Int) : Int := Go.bits .xor .u8 (q2 q) (q2 q * 16 % 256)
def q4 (q : Int) : Int := if Go.bits .and .u8 (q3 q) 128 = 0 then q3 q else Go.bits .xor .u8 (q3 q) 9
def p1 (p : Int) : Int := Go.bits .xor .u8 p (twiceF p)
def boxV (q : Int) : Int := Go.bits .xor .u8 (Go.bits .xor .u8 (Go.bits .xor .u8 (Go.bits .xor .u8 (Go.bits .xor .u8 q (rot8 q 1)) (rot8 q 2)) (rot8 q 3)) (rot8 q 4)) 99
def pT : List Int := [1, 3, 5, 15, 17, 51, 85, 255, 26, 46, 114, 150, 161, 248, 19, 53, 95, 225, 56, 72, 216, 115, 149, 164, 247, 2, 6, 10, 30, 34, 102, 170,
  229, 52, 92, 228, 55, 89, 235, 38, 106, 190, 217, 112, 144, 171, 230, 49, 83, 245, 4, 12, 20, 60, 68, 204, 79, 209, 104, 184, 211, 110, 178, 205,
  76, 212, 103, 169, 224, 59, 77, 215, 98, 166, 241, 8, 24, 40, 120, 136, 131, 158, 185, 208, 107, 189, 220, 127, 129, 152, 179, 206, 73, 219, 118, 154,
  181, 196, 87, 249, 16, 48, 80, 240, 11, 29, 39, 105, 187, 214, 97, 163, 254, 25, 43, 125, 135, 146, 173, 236, 47, 113, 147, 174, 233, 32, 96, 160,
  251, 22, 58, 78, 210, 109, 183, 194, 93, 231, 50, 86, 250, 21, 63, 65, 195, 94, 226, 61, 71, 201, 64, 192, 91, 237, 44, 116, 156, 191, 218, 117,
  159, 186, 213, 100, 172, 239, 42, 126, 130, 157, 188, 223, 122, 142, 137, 128, 155, 182, 193, 88, 232, 35, 101, 175, 234, 37, 111, 177, 200, 67, 197, 84,
  252, 31, 33, 99, 165, 244, 7, 9, 27, 45, 119, 153, 176, 203, 70, 202, 69, 207, 74, 222, 121, 139, 134, 145, 168, 227, 62, 66, 198, 81, 243, 14,
  18, 54, 90, 238, 41, 123, 141, 140, 143, 138, 133, 148, 167, 242, 13, 23, 57, 75, 221, 124, 132, 151, 162, 253, 28, 36, 108, 180, 199, 82, 246, 1]
def qT : List Int := [1, 246, 82, 199, 180, 108, 36, 28, 253, 162, 151, 132, 124, 221, 75, 57, 23, 13, 242, 167, 148, 133, 138, 143, 140, 141, 123, 41, 238, 90, 54, 18,
  14, 243, 81, 198, 66, 62, 227, 168, 145, 134, 139, 121, 222, 74, 207, 69, 202, 70, 203, 176, 153, 119, 45, 27, 9, 7, 244, 165, 99, 33, 31, 252,
  84, 197, 67, 200, 177, 111, 37, 234, 175, 101, 35, 232, 88, 193, 182, 155, 128, 137, 142, 122, 223, 188, 157, 130, 126, 42, 239, 172, 100, 213, 186, 159,
  117, 218, 191, 156, 116, 44, 237, 91, 192, 64, 201, 71, 61, 226, 94, 195, 65, 63, 21, 250, 86, 50, 231, 93, 194, 183, 109, 210, 78, 58, 22, 251,
  160, 96, 32, 233, 174, 147, 113, 47, 236, 173, 146, 135, 125, 43, 25, 254, 163, 97, 214, 187, 105, 39, 29, 11, 240, 80, 48, 16, 249, 87, 196, 181,
  154, 118, 219, 73, 206, 179, 152, 129, 127, 220, 189, 107, 208, 185, 158, 131, 136, 120, 40, 24, 8, 241, 166, 98, 215, 77, 59, 224, 169, 103, 212, 76,
  205, 178, 110, 211, 184, 104, 209, 79, 204, 68, 60, 20, 12, 4, 245, 83, 49, 230, 171, 144, 112, 217, 190, 106, 38, 235, 89, 55, 228, 92, 52, 229,
  170, 102, 34, 30, 10, 6, 2, 247, 164, 149, 115, 216, 72, 56, 225, 95, 53, 19, 248, 161, 150, 114, 46, 26, 255, 85, 51, 17, 15, 5, 3, 1]
def boxT : List Int := [99, 124, 119, 123, 242, 107, 111, 197, 48, 1, 103, 43, 254, 215, 171, 118, 202, 130, 201, 125, 250, 89, 71, 240, 173, 212, 162, 175, 156, 164, 114, 192,
  183, 253, 147, 38, 54, 63, 247, 204, 52, 165, 229, 241, 113, 216, 49, 21, 4, 199, 35, 195, 24, 150, 5, 154, 7, 18, 128, 226, 235, 39, 178, 117,
  9, 131, 44, 26, 27, 110, 90, 160, 82, 59, 214, 179, 41, 227, 47, 132, 83, 209, 0, 237, 32, 252, 177, 91, 106, 203, 190, 57, 74, 76, 88, 207,
  208, 239, 170, 251, 67, 77, 51, 133, 69, 249, 2, 127, 80, 60, 159, 168, 81, 163, 64, 143, 146, 157, 56, 245, 188, 182, 218, 33, 16, 255, 243, 210,
  205, 12, 19, 236, 95, 151, 68, 23, 196, 167, 126, 61, 100, 93, 25, 115, 96, 129, 79, 220, 34, 42, 144, 136, 70, 238, 184, 20, 222, 94, 11, 219,
  224, 50, 58, 10, 73, 6, 36, 92, 194, 211, 172, 98, 145, 149, 228, 121, 231, 200, 55, 109, 141, 213, 78, 169, 108, 86, 244, 234, 101, 122, 174, 8,
  186, 120, 37, 46, 28, 166, 180, 198, 232, 221, 116, 31, 75, 189, 139, 138, 112, 62, 181, 102, 72, 3, 246, 14, 97, 53, 87, 185, 134, 193, 29, 158,
  225, 248, 152, 17, 105, 217, 142, 148, 155, 30, 135, 233, 206, 85, 40, 223, 140, 161, 137, 13, 191, 230, 66, 104, 65, 153, 45, 15, 176, 84, 187, 22]
def pN (k : Nat) : Int := pT.getD k 0
def qN (k : Nat) : Int := qT.getD k 0
def oN : Nat → List Int
  | 0 => (List.replicate 256 0).set 0 99
  | k + 1 => (oN k).set (pN (k + 1)).toNat (boxV (qN (k + 1)))
theorem oN_length : ∀ k, (oN k).length = 256
  | 0 => by
    show (List.set _ _ _).length = 256
    rw [List.length_set, List.length_replicate]
  | k + 1 => by
    show (List.set _ _ _).length = 256
    rw [List.length_set, oN_length k]
def logN (p : Int) : Nat := pT.idxOf p
set_option maxRecDepth 100000 in
theorem pq_round : ∀ k : Fin 255, pN (k.1 + 1) = p1 (pN k.1) ∧ qN (k.1 + 1) = q4 (qN k.1) ∧ (pN (k.1 + 1) = 1 → k.1 = 254) ∧ logN (pN k.1) = k.1 ∧ 0 ≤ pN k.1 ∧ pN k.1 < 256 ∧ 0 ≤ qN k.1 ∧ qN k.1 < 256 := by decide +kernel
set_option maxRecDepth 100000 in
theorem box_all : oN 255 = boxT := by decide +kernel
def Box (w : World) (e : Ending) (w' : World) : Prop := e = .returned (.agg (nums .u8 boxT).toArray) ∧ Below w.heap.size w w'
attribute [local irreducible] oN boxT pN qN logN p1 q4 boxV
set_option maxHeartbeats 2000000 in
set_option maxRecDepth 100000 in
theorem boxes_any (w : World) : Calls Try.prog 85 #[] w (Box w) := by
  go_enter Try.func85, Try.ntmps85
  go_wp2_with (first
    | ((with_reducible refine gate_dst (N := 0) rfl ?_); refine alloc_arr rfl 138 rfl .u8 (List.replicate 256 0) (fun w => Try.zeroValue138 w) (by first | (go_simp; done) | (go_simp; rfl)) ?_; intro w1 hA1 hB1)
    | ((with_reducible refine gate_dst (N := 1) rfl ?_); refine alloc_arr rfl 138 rfl .u8 (List.replicate 256 0) (fun w => Try.zeroValue138 w) (by first | (go_simp; done) | (go_simp; rfl)) ?_; intro w2 hA2 hB2; have hc0 := hA2.cellN 0 (by simp); have hf0 := hA2.free 0)
    | fail)
  have hz1 := hA2.lt
  have HA0 : Hid (Arr .u8 138 (w2.setCell ⟨w1.heap.size, 0, none⟩ (.int .u8 99)) w1.heap.size (oN 0)) := Lib.hid (by unfold oN; exact hA2.put 0 99)
  have HB0 : Hid (Below w.heap.size w (w2.setCell ⟨w1.heap.size, 0, none⟩ (.int .u8 99))) := Lib.hid (below_setCell (below_next hB1 hB2) _ _ hB1.size _)
  have hlt : w.heap.size < w1.heap.size := hA1.lt
  have HA1 : Hid (Arr .u8 138 (w2.setCell ⟨w1.heap.size, 0, none⟩ (.int .u8 99)) w.heap.size (List.replicate 256 0)) := Lib.hid ((hA1.next hB2).far _ (by simp; omega) _)
  clear hA1 hB1 hA2 hB2 hc0 hf0
  generalize w2.setCell ⟨w1.heap.size, 0, none⟩ (.int .u8 99) = w3 at *
  generalize w1.heap.size = g at *
  have hpq0 : Hid ((1 : Int) = pN 0 ∧ (1 : Int) = qN 0) := Lib.hid (by unfold pN qN; decide +kernel)
  go_loopw [2, 3] (fun pv qv wr => ∃ (k : Nat) (p q : Int), pv = .int .u8 p ∧ qv = .int .u8 q ∧ k < 255 ∧ Hid (p = pN k ∧ q = qN k) ∧ Hid (Arr .u8 138 wr g (oN k)) ∧ Hid (Below g w3 wr)) (fun pv _ _ => 255 - logN (intOf pv))
  case atStart => exact ⟨0, 1, 1, rfl, rfl, by omega, hpq0, HA0, Lib.hid (Below.refl _ _)⟩
  case round =>
    clear HA0 hpq0
    obtain ⟨k, p, q, rfl, rfl, hk, hpq, hA, hB⟩ := hrel
    obtain ⟨hP, hQ, hend, hlog, hp0, hp1, hq0, hq1⟩ := pq_round ⟨k, hk⟩
    simp only [← hpq.out.1, ← hpq.out.2] at hP hQ hend hlog hp0 hp1 hq0 hq1
    have HP := Lib.hid hP
    have HQ := Lib.hid hQ
    have HE := Lib.hid hend
    have HL := Lib.hid hlog
    clear hP hQ hend hlog
    obtain ⟨hpb0, hpb1⟩ := bxor_b p (twiceF p) ⟨hp0, hp1⟩ (twice_b p)
    have ep : Go.bits .xor .u8 p (twiceF p) = p1 p := by unfold p1; rfl
    rw [ep] at hpb0 hpb1
    have EP := Lib.hid ep
    have e3 : q3 q = q3 q := rfl
    conv at e3 => lhs; unfold q3 q2 q1
    have E3 := Lib.hid e3
    have hstep : ∀ (q' : Int) (wx : World), q' = q4 q → Arr .u8 138 wx g ((oN k).set (p1 p).toNat (boxV q')) → Arr .u8 138 wx g (oN (k + 1)) := fun q' wx e h => by
      rw [oN, HP.out, HQ.out, ← e]
      exact h
    have HS := Lib.hid hstep
    have hcell := hA.out.cellN (p1 p).toNat (by rw [oN_length]; omega)
    have hfree := hA.out.free (p1 p).toNat
    have HZ : Hid ((Go.bits .and .u8 (q3 q) 128 = 0 → q4 q = q3 q) ∧ (¬ Go.bits .and .u8 (q3 q) 128 = 0 → q4 q = Go.bits .xor .u8 (q3 q) 9)) := Lib.hid ⟨fun h => by unfold q4; rw [if_pos h], fun h => by unfold q4; rw [if_neg h]⟩
    clear ep e3 hstep
    have hgen : ∀ z : Bool, (Go.bits .and .u8 (q3 q) 128 != 0) = z → (z = false → q4 q = q3 q) ∧ (z = true → q4 q = Go.bits .xor .u8 (q3 q) 9) := fun z hz => ⟨fun e => HZ.out.1 (by rw [e] at hz; simpa using hz), fun e => HZ.out.2 (by rw [e] at hz; simpa using hz)⟩
    cases hz : (Go.bits .and .u8 (q3 q) 128 != 0)
    all_goals
      obtain ⟨g1, g2⟩ := hgen _ hz
      have G1 := Lib.hid g1
      have G2 := Lib.hid g2
      clear g1 g2 hgen
      rw [← E3.out] at hz
      go_wp2_with fail
      refine (twice_any p _ hp0 hp1).mono ?_
      rintro e w' ⟨rfl, rfl⟩
      go_wp2_with fail
      rw [E3.out, EP.out] at *
    all_goals
      first
        | (have hq' : q4 q = Go.bits .xor .u8 (q3 q) 9 := G2.out (by first | trivial | rfl)
           generalize Go.bits .xor .u8 (q3 q) 9 = q' at *)
        | (have hq' : q4 q = q3 q := G1.out (by first | trivial | rfl)
           generalize q3 q = q' at *)
      generalize p1 p = p' at *
      have HQ' : Hid (q' = q4 q) := Lib.hid hq'.symm
      clear hq' HZ E3 EP G1 G2 hz
      refine (rot8_any q' 1 _ (by omega)).mono ?_
      rintro e w' ⟨rfl, rfl⟩
      go_wp2_with fail
      refine (rot8_any q' 2 _ (by omega)).mono ?_
      rintro e w' ⟨rfl, rfl⟩
      go_wp2_with fail
      refine (rot8_any q' 3 _ (by omega)).mono ?_
      rintro e w' ⟨rfl, rfl⟩
      go_wp2_with fail
      refine (rot8_any q' 4 _ (by omega)).mono ?_
      rintro e w' ⟨rfl, rfl⟩
      have hb : Go.bits .xor .u8 (Go.bits .xor .u8 (Go.bits .xor .u8 (Go.bits .xor .u8 (Go.bits .xor .u8 q' (rot8 q' 1)) (rot8 q' 2)) (rot8 q' 3)) (rot8 q' 4)) 99 = boxV q' := by unfold boxV; rfl
      have HBV := Lib.hid hb
      clear hb
      by_cases he : p' = 1
      · have he1 : (p' == 1) = true := by simpa using he
        have hk' : k = 254 := HE.out (by rw [HP.out]; exact he)
        have HK := Lib.hid hk'
        have HA3 := Lib.hid (HS.out q' (w'.setCell ⟨g, p'.toNat, none⟩ (.int .u8 (boxV q'))) HQ'.out (hA.out.put _ _))
        rw [HK.out, box_all] at HA3
        have HA13 := Lib.hid ((HA1.out.below hB.out hlt).far ⟨g, p'.toNat, none⟩ (by simp; omega) (.int .u8 (boxV q')))
        have HB3 := Lib.hid (below_setCell (HB0.out.trans (hB.out.mono (by omega))) g p'.toNat (by omega) (.int .u8 (boxV q')))
        clear he hk'
        go_wp2_with (first
          | ((with_reducible refine gate_dst (N := 44) rfl ?_); rw [HBV.out]; refine load_arr rfl 138 _ rfl g rfl .u8 _ _ _ _ HA3.out Try.underlying138 (by kernel_rfl) ?_)
          | ((with_reducible refine gate_store (t := 138) (p := 0) rfl ?_); refine store_arr rfl 138 _ _ rfl w.heap.size .u8 boxT rfl rfl 138 _ HA13.out (by kernel_rfl) (by kernel_rfl) ?_; intro w4 hA4 hw4; subst hw4)
          | fail)
        exact bodyPost_ret (results_arr rfl _ _ w.heap.size .u8 _ _ _ boxT rfl hA4 Try.underlying138 (by kernel_rfl)) rfl ⟨rfl, below_setRow HB3.out _ (Nat.le_refl _) _⟩
      · have he1 : (p' == 1) = false := by simpa using he
        have HE1 := Lib.hid he
        clear he
        go_wp2_with fail
        go_roundw
        case rel =>
          have hkk : k + 1 < 255 := by
            have : k ≠ 254 := fun h => HE1.out (by
              have e : pN 255 = 1 := by unfold pN; decide +kernel
              rw [← HP.out, h]; exact e)
            omega
          exact ⟨k + 1, p', q', rfl, rfl, hkk, Lib.hid ⟨HP.out.symm, by rw [HQ.out]; exact HQ'.out⟩, Lib.hid (HS.out q' _ HQ'.out (by rw [HBV.out]; exact hA.out.put _ _)), Lib.hid (below_setCell hB.out _ _ (Nat.le_refl _) _)⟩
        case measure =>
          have hkk : k + 1 < 255 := by
            have : k ≠ 254 := fun h => HE1.out (by
              have e : pN 255 = 1 := by unfold pN; decide +kernel
              rw [← HP.out, h]; exact e)
            omega
          have hl : logN (pN (k + 1)) = k + 1 := (pq_round ⟨k + 1, hkk⟩).2.2.2.1
          rw [show pN (k + 1) = p' from HP.out] at hl
          simp [intOf]
          rw [hl, HL.out]
          omega
end Go.Proofs.Ytljmjeaocojnmaa.HAa
end
section
set_option linter.unusedVariables false
set_option linter.unusedSimpArgs false
namespace Go.Proofs.Ytljmjeaocojnmaa.HAa
open Go.RowKit Go.Proofs.YtljmjeaocojnmaaW.PrintWords Go.Proofs.YtljmjeaocojnmaaW.PrintLast Go.Proofs.YtljmjeaocojnmaaW.PrintMore Go.Proofs.Ytljmjeaocojnmaa.Kit
attribute [local go_sem ↓] Go.wp_at_zero Go.wp_at_succ
theorem byte_at {l : List Int} (hb : Bytes l) (j : Nat) : 0 ≤ l.getD j 0 ∧ l.getD j 0 < 256 := hb.at_ (j : Int)
theorem bytes_set {l : List Int} (hb : Bytes l) (j : Nat) (v : Int) (h : Byte v) : Bytes (l.set j v) := fun x hx => by
  rcases List.mem_or_eq_of_mem_set hx with h' | h'
  · exact hb x h'
  · rw [h']; exact h
def addN (all : List Int) (r : Nat) (xs : List Int) : Nat → List Int
  | 0 => xs
  | i + 1 => (addN all r xs i).set i (Go.bits .xor .u8 ((addN all r xs i).getD i 0) (all.getD (16 * r + i) 0))
theorem addN_length (all : List Int) (r : Nat) (xs : List Int) : ∀ n, (addN all r xs n).length = xs.length
  | 0 => rfl
  | n + 1 => by simp [addN, addN_length all r xs n]
attribute [local irreducible] addN
set_option maxHeartbeats 1000000 in
set_option maxRecDepth 100000 in
theorem add_any (g gk r : Nat) (xs all : List Int) (w : World) (hA : Arr .u8 39 w g xs) (hK : Arr .u8 140 w gk all) (h16 : xs.length = 16) (h176 : all.length = 176) (hr : r ≤ 10) :
    Calls Try.prog 87 #[.int .i64 r, .pointer (some ⟨g, 0, none⟩), .pointer (some ⟨gk, 0, none⟩)] w (Turns .u8 39 w g (addN all r xs 16)) := by
  have hne : g ≠ gk := fun e => by
    have h := hA.out
    rw [e, hK.out] at h
    have := congrArg (fun o => match o with | some (Obj.cells c _ _) => c.size | _ => 0) h
    simp [nums, h16, h176] at this
  have HA0 : Hid (Arr .u8 39 w g (addN all r xs 0)) := Lib.hid (by unfold addN; exact hA)
  have HK0 := Lib.hid hK
  have HL := Lib.hid h16
  have HL2 := Lib.hid h176
  clear hA hK h16 h176
  go_enter Try.func87, Try.ntmps87
  go_wp2_with fail
  go_loopw [5] (fun i wr => ∃ k : Nat, i = .int .i64 k ∧ k ≤ 16 ∧ Hid (Arr .u8 39 wr g (addN all r xs k)) ∧ Hid (w.grownBy wr (some g))) (fun i _ => 16 - (intOf i).toNat)
  case atStart => exact ⟨0, rfl, by omega, HA0, Lib.hid (grown_of_below (Below.refl _ _) _)⟩
  case round =>
    clear HA0
    obtain ⟨k, rfl, hk, hA, hB⟩ := hrel
    by_cases hk16 : k < 16
    · have hlen := addN_length all r xs k
      have HS : Hid (addN all r xs (k + 1) = (addN all r xs k).set k (Go.bits .xor .u8 ((addN all r xs k).getD k 0) (all.getD (16 * r + k) 0))) := Lib.hid (by rw [addN])
      have hc := hA.out.cellN k (by rw [hlen, HL.out]; omega)
      have hf := hA.out.free k
      have hck := (HK0.out.grown_ hB.out (Ne.symm hne)).cellN (16 * r + k) (by rw [HL2.out]; omega)
      have h1 : (0 : Int) ≤ 16 * (r : Int) + (k : Int) := by omega
      have h2 : 16 * (r : Int) + (k : Int) < 176 := by omega
      have h3 : (16 * (r : Int) + (k : Int)).toNat = 16 * r + k := by omega
      clear hlen
      go_wp2
      go_region
      go_wp2
      go_roundw
      case rel => exact ⟨k + 1, by go_num, by omega, Lib.hid (by rw [HS.out]; exact (hA.out.put k _).drew), Lib.hid (grown_draw (grown_set hB.out _ _))⟩
      case measure => simp [intOf]; omega
    · have hk' : k = 16 := by omega
      subst hk'
      go_wp2
      go_end0
      exact ⟨rfl, hA.out, hB.out⟩
def mixA (xs : List Int) (o : Nat) : Int := Go.bits .xor .u8 (Go.bits .xor .u8 (Go.bits .xor .u8 (xs.getD o 0) (xs.getD (o + 1) 0)) (xs.getD (o + 2) 0)) (xs.getD (o + 3) 0)
def mixV (all x next : Int) : Int := Go.bits .xor .u8 x (Go.bits .xor .u8 all (twiceF (Go.bits .xor .u8 x next)))
def mixX (xs m : List Int) (o k : Nat) : Int := if k + 1 < 4 then m.getD (o + (k + 1)) 0 else xs.getD o 0
def mixN (xs : List Int) (o : Nat) : Nat → List Int
  | 0 => xs
  | k + 1 => (mixN xs o k).set (o + k) (mixV (mixA xs o) ((mixN xs o k).getD (o + k) 0) (mixX xs (mixN xs o k) o k))
theorem mixN_length (xs : List Int) (o : Nat) : ∀ n, (mixN xs o n).length = xs.length
  | 0 => rfl
  | n + 1 => by simp [mixN, mixN_length xs o n]
theorem mixV_b (a x n : Int) (ha : Byte a) (hx : Byte x) : Byte (mixV a x n) := bxor_b _ _ hx (bxor_b _ _ ha (twice_b _))
theorem mixA_b (xs : List Int) (o : Nat) (h : Bytes xs) : Byte (mixA xs o) := bxor_b _ _ (bxor_b _ _ (bxor_b _ _ (byte_at h _) (byte_at h _)) (byte_at h _)) (byte_at h _)
theorem mixN_b (xs : List Int) (o : Nat) (h : Bytes xs) : ∀ n, Bytes (mixN xs o n)
  | 0 => h
  | n + 1 => bytes_set (mixN_b xs o h n) _ _ (mixV_b _ _ _ (mixA_b xs o h) (byte_at (mixN_b xs o h n) _))
attribute [local irreducible] mixN
set_option maxHeartbeats 2000000 in
set_option maxRecDepth 100000 in
theorem mix_any (g o c : Nat) (xs : List Int) (w : World) (hA : Arr .u8 39 w g xs) (h16 : xs.length = 16) (ho : o + 4 ≤ 16) (hc4 : 4 ≤ c) (hb : Bytes xs) :
    Calls Try.prog 88 #[.slice (some ⟨g, o, none⟩) 4 c] w (Turns .u8 39 w g (mixN xs o 4)) := by
  have HA0 : Hid (Arr .u8 39 w g (mixN xs o 0)) := Lib.hid (by unfold mixN; exact hA)
  have HL := Lib.hid h16
  have hc0 := hA.cellN o (by omega)
  have hc1 := hA.cellN (o + 1) (by omega)
  have hc2 := hA.cellN (o + 2) (by omega)
  have hc3 := hA.cellN (o + 3) (by omega)
  obtain ⟨x0, hx0⟩ : ∃ x, x = xs.getD o 0 := ⟨_, rfl⟩
  obtain ⟨x1, hx1⟩ : ∃ x, x = xs.getD (o + 1) 0 := ⟨_, rfl⟩
  obtain ⟨x2, hx2⟩ : ∃ x, x = xs.getD (o + 2) 0 := ⟨_, rfl⟩
  obtain ⟨x3, hx3⟩ : ∃ x, x = xs.getD (o + 3) 0 := ⟨_, rfl⟩
  rw [← hx0] at hc0
  rw [← hx1] at hc1
  rw [← hx2] at hc2
  rw [← hx3] at hc3
  have HM : Hid (mixA xs o = Go.bits .xor .u8 (Go.bits .xor .u8 (Go.bits .xor .u8 x0 x1) x2) x3) := Lib.hid (by rw [hx0, hx1, hx2, hx3]; rfl)
  have HX0 := Lib.hid hx0
  have HBY := Lib.hid hb
  have HW : Hid (Below w.heap.size w w) := Lib.hid (Below.refl _ _)
  clear hA h16 hb hx0 hx1 hx2 hx3
  go_enter Try.func88, Try.ntmps88
  go_wp2_with fail
  go_quiet (fail)
  clear hc0 hc1 hc2 hc3
  go_wp2_with fail
  rw [← HM.out]
  have HA1 := Lib.hid (HA0.out.drewN nq)
  have HG0 : Hid (w.grownBy (w.drewN nq) (some g)) := Lib.hid (grown_of_below (pw_below_drewN (Below.refl _ _) nq) _)
  clear HA0 HM
  generalize w.drewN nq = w0 at *
  generalize hall : mixA xs o = a at *
  have HALL := Lib.hid hall
  clear hall
  go_loopw [26] (fun i wr => ∃ k : Nat, i = .int .i64 k ∧ k ≤ 4 ∧ Hid (Arr .u8 39 wr g (mixN xs o k)) ∧ Hid (w.grownBy wr (some g))) (fun i _ => 4 - (intOf i).toNat)
  case atStart => exact ⟨0, rfl, by omega, HA1, HG0⟩
  case round =>
    clear HA1 HG0
    obtain ⟨k, rfl, hk, hA, hB⟩ := hrel
    by_cases hk4 : k < 4
    · have hlen := mixN_length xs o k
      rw [HL.out] at hlen
      have HS : Hid (mixN xs o (k + 1) = (mixN xs o k).set (o + k) (mixV a ((mixN xs o k).getD (o + k) 0) (mixX xs (mixN xs o k) o k))) := Lib.hid (by rw [mixN, HALL.out])
      have hbk := mixN_b xs o HBY.out k
      have hc := hA.out.cellN (o + k) (by omega)
      have hf := hA.out.free (o + k)
      obtain ⟨y, hy⟩ : ∃ y, y = (mixN xs o k).getD (o + k) 0 := ⟨_, rfl⟩
      have hyb := byte_at hbk (o + k)
      rw [← hy] at hc hyb
      obtain ⟨hy0, hy1⟩ := hyb
      have HY := Lib.hid hy
      clear hy
      by_cases hk3 : k + 1 < 4
      · have hcn := hA.out.cellN (o + (k + 1)) (by omega)
        obtain ⟨z, hz⟩ : ∃ z, z = (mixN xs o k).getD (o + (k + 1)) 0 := ⟨_, rfl⟩
        have hzb := byte_at hbk (o + (k + 1))
        rw [← hz] at hcn hzb
        have hxor := bxor_b y z ⟨hy0, hy1⟩ hzb
        obtain ⟨hx0, hx1⟩ := hxor
        have HZ : Hid (mixX xs (mixN xs o k) o k = z) := Lib.hid (by unfold mixX; rw [if_pos hk3, hz])
        clear hz hzb hbk hlen
        go_wp2_with fail
        go_region_with ((go_at_call 105; refine (twice_any _ _ (by omega) (by omega)).mono ?_; rintro e w' ⟨rfl, rfl⟩))
        all_goals
          go_wp2
          go_roundw
          case rel => exact ⟨k + 1, by go_num, by omega, Lib.hid (by rw [HS.out, HZ.out, ← HY.out]; first | exact (hA.out.put (o + k) _).drew | exact hA.out.drew.put (o + k) _), Lib.hid (by first | exact grown_draw (grown_set hB.out _ _) | exact grown_set (grown_draw hB.out) _ _)⟩
          case measure => simp [intOf]; omega
      · have hzb := byte_at HBY.out o
        rw [← HX0.out] at hzb
        have hxor := bxor_b y x0 ⟨hy0, hy1⟩ hzb
        obtain ⟨hx0, hx1⟩ := hxor
        have HZ : Hid (mixX xs (mixN xs o k) o k = x0) := Lib.hid (by unfold mixX; rw [if_neg hk3, HX0.out])
        clear hzb hbk hlen
        go_wp2_with fail
        go_region_with ((go_at_call 105; refine (twice_any _ _ (by omega) (by omega)).mono ?_; rintro e w' ⟨rfl, rfl⟩))
        all_goals
          go_wp2
          go_roundw
          case rel => exact ⟨k + 1, by go_num, by omega, Lib.hid (by rw [HS.out, HZ.out, ← HY.out]; first | exact (hA.out.put (o + k) _).drew | exact hA.out.drew.put (o + k) _), Lib.hid (by first | exact grown_draw (grown_set hB.out _ _) | exact grown_set (grown_draw hB.out) _ _)⟩
          case measure => simp [intOf]; omega
    · have hk' : k = 4 := by omega
      subst hk'
      go_wp2
      go_end0
      exact ⟨rfl, hA.out, hB.out⟩
end Go.Proofs.Ytljmjeaocojnmaa.HAa
end
section
set_option linter.unusedVariables false
set_option linter.unusedSimpArgs false
namespace Go.Proofs.Ytljmjeaocojnmaa.HAa
open Go.RowKit Go.Proofs.YtljmjeaocojnmaaW.PrintWords Go.Proofs.YtljmjeaocojnmaaW.PrintLast Go.Proofs.YtljmjeaocojnmaaW.PrintMore Go.Proofs.Ytljmjeaocojnmaa.Kit
attribute [local go_sem ↓] Go.wp_at_zero Go.wp_at_succ
theorem sliceAt_arr {P : Program} (T e N : Nat) (hu : P.underlying T = some (.array N e)) (hi : (P.info? e).map (·.size) = some 1) (g : Nat) (l h : Int) (p q : Nat) (hl : l = p) (hh : h = q) (hpq : p ≤ q) (hqN : q ≤ N) (hpN : p < N) (w : World) :
    (Instr.sliceAt T (.pointer (some ⟨g, 0, none⟩)) (some (.int .i64 l)) (some (.int .i64 h)) none).run P w = .ok (.slice (some ⟨g, p, none⟩) (q - p) (N - p)) w := by
  have e1 : P.arrayLen T = N := by simp [Program.arrayLen, hu]
  have e2 : P.elem T = e := by simp [Program.elem, hu]
  have hq := run_sliceAt_array_lh w T ⟨g, 0, none⟩ (by rw [e1, e2]; exact hu) .i64 .i64 l h (by omega) (by omega) (by rw [e1]; omega)
  rw [hq, e1, e2]
  cases hz : P.info? e with
  | none => simp [hz] at hi
  | some i =>
    have h1 : i.size = 1 := by simpa [hz] using hi
    subst hl hh
    simp [sizeOf, typeInfo, hz, h1, slicedAt, show ¬ N = p from by omega, Addr.add]
    intro h0; omega
def conN : Nat → Int
  | 0 => 1
  | n + 1 => twiceF (conN n)
theorem conN_b : ∀ n, Byte (conN n)
  | 0 => ⟨by decide, by decide⟩
  | n + 1 => twice_b _
def kT (box o : List Int) (i : Nat) (con : Int) : List Int :=
  if i % 4 = 0 then [Go.bits .xor .u8 (box.getD (o.getD (4 * i - 4 + 1) 0).toNat 0) con, box.getD (o.getD (4 * i - 4 + 2) 0).toNat 0, box.getD (o.getD (4 * i - 4 + 3) 0).toNat 0, box.getD (o.getD (4 * i - 4) 0).toNat 0]
  else four o (4 * i - 4)
def kI (t o : List Int) (i : Nat) : Nat → List Int
  | 0 => o
  | k + 1 => (kI t o i k).set (4 * i + k) (Go.bits .xor .u8 ((kI t o i k).getD (4 * i - 16 + k) 0) (t.getD k 0))
def keyN (key box : List Int) : Nat → List Int
  | 0 => key ++ List.replicate 160 0
  | n + 1 => kI (kT box (keyN key box n) (n + 4) (conN ((n + 3) / 4))) (keyN key box n) (n + 4) 4
theorem kI_length (t o : List Int) (i : Nat) : ∀ n, (kI t o i n).length = o.length
  | 0 => rfl
  | n + 1 => by simp [kI, kI_length t o i n]
theorem keyN_length (key box : List Int) (h : key.length = 16) : ∀ n, (keyN key box n).length = 176
  | 0 => by simp [keyN, h]
  | n + 1 => by simp [keyN, kI_length, keyN_length key box h n]
theorem kT_b (box o : List Int) (i : Nat) (con : Int) (hb : Bytes box) (ho : Bytes o) (hc : Byte con) : Bytes (kT box o i con) := by
  unfold kT
  split
  · intro x hx
    simp only [List.mem_cons, List.not_mem_nil, or_false] at hx
    rcases hx with h | h | h | h
    · rw [h]; exact bxor_b _ _ (byte_at hb _) hc
    · rw [h]; exact byte_at hb _
    · rw [h]; exact byte_at hb _
    · rw [h]; exact byte_at hb _
  · intro x hx
    simp only [four, List.mem_cons, List.not_mem_nil, or_false] at hx
    rcases hx with h | h | h | h <;> (rw [h]; exact byte_at ho _)
theorem kT_length (box o : List Int) (i : Nat) (con : Int) : (kT box o i con).length = 4 := by
  unfold kT
  split <;> rfl
theorem kI_b (t o : List Int) (i : Nat) (ht : Bytes t) (ho : Bytes o) : ∀ k, Bytes (kI t o i k)
  | 0 => ho
  | k + 1 => bytes_set (kI_b t o i ht ho k) _ _ (bxor_b _ _ (byte_at (kI_b t o i ht ho k) _) (byte_at ht _))
theorem keyN_b (key box : List Int) (hk : Bytes key) (hb : Bytes box) : ∀ n, Bytes (keyN key box n)
  | 0 => fun x hx => by
    rcases List.mem_append.1 hx with h | h
    · exact hk x h
    · rw [(List.mem_replicate.1 h).2]; exact ⟨by decide, by decide⟩
  | n + 1 => kI_b _ _ _ (kT_b _ _ _ _ hb (keyN_b key box hk hb n) (conN_b _)) (keyN_b key box hk hb n) 4
attribute [local irreducible] keyN kI kT conN
set_option maxHeartbeats 2000000 in
set_option maxRecDepth 100000 in
theorem keys_any (key box : List Int) (w : World) (h16 : key.length = 16) (h256 : box.length = 256) (hkb : Bytes key) (hbb : Bytes box) :
    Calls Try.prog 86 #[.agg (nums .u8 key).toArray, .agg (nums .u8 box).toArray] w (GivesA .u8 (keyN key box 40) w) := by
  have HL := Lib.hid h16
  have HLB := Lib.hid h256
  have HKB := Lib.hid hkb
  have HBB := Lib.hid hbb
  clear h16 h256 hkb hbb
  go_enter Try.func86, Try.ntmps86
  go_wp2_with (first
    | ((with_reducible refine gate_dst (N := 2) rfl ?_); go_loud (refine arr_new rfl 39 .u8 key (by first | (go_simp; done) | (go_simp; rfl)) ?_); intro w1 hA1 hB1)
    | ((with_reducible refine gate_dst (N := 3) rfl ?_); refine arr_new rfl 138 .u8 box (by first | (go_simp; done) | (go_simp; rfl)) ?_; intro w2 hA2 hB2)
    | ((with_reducible refine gate_dst (N := 4) rfl ?_); refine alloc_arr rfl 140 rfl .u8 (List.replicate 176 0) (fun w => Try.zeroValue140 w) (by first | (go_simp; done) | (go_simp; rfl)) ?_; intro w3 hA3 hB3)
    | ((with_reducible refine gate_dst (N := 5) rfl ?_); refine alloc_arr rfl 140 rfl .u8 (List.replicate 176 0) (fun w => Try.zeroValue140 w) (by first | (go_simp; done) | (go_simp; rfl)) ?_; intro w4 hA4 hB4)
    | fail)
  have hg12 : w.heap.size < w1.heap.size := hA1.lt
  have hg23 : w1.heap.size < w2.heap.size := hA2.lt
  have hg34 : w2.heap.size < w3.heap.size := hA3.lt
  have hA14 := ((hA1.next hB2).next hB3).next hB4
  have HA24 := Lib.hid ((hA2.next hB3).next hB4)
  have HA34 := Lib.hid (hA3.next hB4)
  have HB04 := Lib.hid (below_next (below_next (below_next hB1 hB2) hB3) hB4)
  have HA44 := Lib.hid hA4
  have HA1 := Lib.hid hA14
  have hcp := fun ty => copy_arr (P := Try.prog) w4.drew 22 22 ty 5 w3.heap.size 0 176 176 w.heap.size 0 16 16 16 _ _ hA4.drew hA14.drew Try.underlying22 (by kernel_rfl) rfl (by simp) (by rw [HL.out]; omega)
  clear hA1 hA2 hA3 hA4 hB1 hB2 hB3 hB4 hA14
  generalize w3.heap.size = g5 at *
  generalize w2.heap.size = g4 at *
  generalize w1.heap.size = g3 at *
  generalize hg2 : w.heap.size = g2 at *
  have HG2 := Lib.hid hg2
  clear hg2
  go_region
  go_wp2_with fail
  clear hcp
  have HA5 : Hid (Arr .u8 140 (w4.drew.setCells g5 0 (nums .u8 (key.take 16))) g5 (keyN key box 0)) := Lib.hid (by
    have h := HA44.out.drew.cells (key.take 16) 0 (by simp; omega)
    have e : (List.replicate 176 (0 : Int)).take 0 ++ key.take 16 ++ (List.replicate 176 0).drop (0 + (key.take 16).length) = keyN key box 0 := by
      unfold keyN
      rw [show key.take 16 = key from List.take_of_length_le (by rw [HL.out]; omega), HL.out]
      rfl
    rw [e] at h
    exact h)
  have HA3 : Hid (Arr .u8 138 (w4.drew.setCells g5 0 (nums .u8 (key.take 16))) g3 box) := Lib.hid (Arr.sets_far (w := w4) (by omega) _ _ HA24.out.drew)
  have HA4 : Hid (Arr .u8 140 (w4.drew.setCells g5 0 (nums .u8 (key.take 16))) g4 (List.replicate 176 0)) := Lib.hid (Arr.sets_far (w := w4) (by omega) _ _ HA34.out.drew)
  have HB5 : Hid (Below g2 w (w4.drew.setCells g5 0 (nums .u8 (key.take 16)))) := Lib.hid (below_sets (by omega) _ _ (below_drew HB04.out))
  clear HA44 HA24 HA34 HB04 HA1
  generalize w4.drew.setCells g5 0 (nums .u8 (key.take 16)) = w5 at *
  have HC0 : Hid ((1 : Int) = conN 0) := Lib.hid (by unfold conN; rfl)
  go_loopw [6, 7] (fun cv iv wr => ∃ (n m : Nat) (con : Int), cv = .int .u8 con ∧ iv = .int .i64 m ∧ m = 16 + 4 * n ∧ n ≤ 40 ∧ 0 ≤ con ∧ con < 256 ∧ Hid (con = conN ((n + 3) / 4)) ∧ Hid (Arr .u8 140 wr g5 (keyN key box n)) ∧ Hid (w5.grownBy wr (some g5))) (fun _ iv _ => 176 - (intOf iv).toNat)
  case atStart => exact ⟨0, 16, 1, rfl, rfl, rfl, by omega, by omega, by omega, HC0, HA5, Lib.hid (grown_of_below (Below.refl _ _) _)⟩
  case round =>
    clear HA5 HC0
    obtain ⟨n, m, con, rfl, rfl, hm, hn, hc0, hc1, hcon, hA, hB⟩ := hrel
    have HM := Lib.hid hm
    by_cases hn40 : n < 40
    · have hm1 : 16 ≤ m := by omega
      have hm2 : m ≤ 172 := by omega
      clear hm
      have hsl : ∀ W : World, (Instr.sliceAt 140 (.pointer (some ⟨g5, 0, none⟩)) (some (.int .i64 ((m : Int) - 4))) (some (.int .i64 (m : Int))) none).run Try.prog W = .ok (.slice (some ⟨g5, m - 4, none⟩) 4 (180 - m)) W := fun W => by
        have h := sliceAt_arr (P := Try.prog) 140 5 176 Try.underlying140 (by kernel_rfl) g5 ((m : Int) - 4) (m : Int) (m - 4) m (by omega) rfl (by omega) (by omega) (by omega) W
        rwa [show m - (m - 4) = 4 from by omega, show 176 - (m - 4) = 180 - m from by omega] at h
      have har : ∀ W : World, (Instr.arrayAt 164 (.slice (some ⟨g5, m - 4, none⟩) 4 (180 - m))).run Try.prog W = .ok (.pointer (some ⟨g5, m - 4, none⟩)) W := fun W => run_arrayAt W 164 5 4 _ 4 _ Try.underlying164 (by omega)
      have hlen := keyN_length key box HL.out n
      have hmid := hA.out.mid (m - 4) 4 (by omega)
      rw [four_eq _ _ (by omega)] at hmid
      obtain ⟨O, hO⟩ : ∃ O, O = keyN key box n := ⟨_, rfl⟩
      rw [← hO] at hmid hA
      have HO := Lib.hid hO
      have HOL : Hid (O.length = 176) := Lib.hid (by rw [hO]; exact hlen)
      have HOB : Hid (Bytes O) := Lib.hid (by rw [hO]; exact keyN_b key box HKB.out HBB.out n)
      have HMID := Lib.hid hmid
      have hg5 : g5 < wr.heap.size := hA.out.lt
      have HBX := Lib.hid (HA3.out.grown_ hB.out (by omega))
      clear hO hlen hmid
      by_cases h16 : m % 16 = 0
      focus
        have he16 : ((m : Int) % 16 == 0) = true := by simp; omega
        have H16 := Lib.hid h16
        clear h16
        obtain ⟨t0, ht0⟩ : ∃ x, x = O.getD (m - 4) 0 := ⟨_, rfl⟩
        obtain ⟨t1, ht1⟩ : ∃ x, x = O.getD (m - 4 + 1) 0 := ⟨_, rfl⟩
        obtain ⟨t2, ht2⟩ : ∃ x, x = O.getD (m - 4 + 2) 0 := ⟨_, rfl⟩
        obtain ⟨t3, ht3⟩ : ∃ x, x = O.getD (m - 4 + 3) 0 := ⟨_, rfl⟩
        have hF : four O (m - 4) = [t0, t1, t2, t3] := by rw [ht0, ht1, ht2, ht3]; rfl
        obtain ⟨hl0, hu0⟩ : 0 ≤ t0 ∧ t0 < 256 := by rw [ht0]; exact byte_at HOB.out _
        obtain ⟨hl1, hu1⟩ : 0 ≤ t1 ∧ t1 < 256 := by rw [ht1]; exact byte_at HOB.out _
        obtain ⟨hl2, hu2⟩ : 0 ≤ t2 ∧ t2 < 256 := by rw [ht2]; exact byte_at HOB.out _
        obtain ⟨hl3, hu3⟩ : 0 ≤ t3 ∧ t3 < 256 := by rw [ht3]; exact byte_at HOB.out _
        obtain ⟨b0, hb0⟩ : ∃ x, x = box.getD t0.toNat 0 := ⟨_, rfl⟩
        obtain ⟨b1, hb1⟩ : ∃ x, x = box.getD t1.toNat 0 := ⟨_, rfl⟩
        obtain ⟨b2, hb2⟩ : ∃ x, x = box.getD t2.toNat 0 := ⟨_, rfl⟩
        obtain ⟨b3, hb3⟩ : ∃ x, x = box.getD t3.toNat 0 := ⟨_, rfl⟩
        have HTK : Hid (kT box O (n + 4) con = [Go.bits .xor .u8 b1 con, b2, b3, b0]) := Lib.hid (by
          unfold kT
          rw [if_pos (by have := HM.out; have := H16.out; omega), show 4 * (n + 4) - 4 = m - 4 from by have := HM.out; omega, ← ht0, ← ht1, ← ht2, ← ht3, ← hb0, ← hb1, ← hb2, ← hb3])
        rw [hF] at HMID
        have hbx := fun (W : World) (hW : Arr .u8 138 W g3 box) => show W.cell? ⟨g3, t0.toNat, none⟩ = some (.int .u8 b0) ∧ W.cell? ⟨g3, t1.toNat, none⟩ = some (.int .u8 b1) ∧ W.cell? ⟨g3, t2.toNat, none⟩ = some (.int .u8 b2) ∧ W.cell? ⟨g3, t3.toNat, none⟩ = some (.int .u8 b3) from
          ⟨by rw [hb0]; exact hW.cellN _ (by rw [HLB.out]; omega), by rw [hb1]; exact hW.cellN _ (by rw [HLB.out]; omega), by rw [hb2]; exact hW.cellN _ (by rw [HLB.out]; omega), by rw [hb3]; exact hW.cellN _ (by rw [HLB.out]; omega)⟩
        have HBXF := Lib.hid hbx
        clear hbx hb0 hb1 hb2 hb3 ht0 ht1 ht2 ht3 hF
        go_wp2_with (first
          | ((with_reducible refine gate_dst (N := 23) rfl ?_); refine wpList_load_mid rfl 164 _ rfl g5 (m - 4) rfl (nums .u8 [t0, t1, t2, t3]) _ HMID.out Try.underlying164 rfl (by kernel_rfl) ?_)
          | ((with_reducible refine gate_dst (N := 8) rfl ?_); refine alloc_arr rfl 164 rfl .u8 (List.replicate 4 0) (fun w => Try.zeroValue164 w) (by first | (go_simp; done) | (go_simp; rfl)) ?_; intro w6 hA6 hB6)
          | ((with_reducible refine gate_store (t := 164) (p := 8) rfl ?_); refine store_arr rfl 164 _ _ rfl wr.heap.size .u8 [t0, t1, t2, t3] rfl rfl 164 _ hA6 rfl (by kernel_rfl) ?_; intro w7 hA7 hw7; have hB7 := below_setRow hB6 wr.heap.size (Nat.le_refl _) (nums .u8 [t0, t1, t2, t3]).toArray; rw [← hw7] at hB7; obtain ⟨hx0, hx1, hx2, hx3⟩ := HBXF.out w7 (HBX.out.next hB7); have hy0 := hA7.cellN 0 (by simp); have hy1 := hA7.cellN 1 (by simp); have hy2 := hA7.cellN 2 (by simp); have hy3 := hA7.cellN 3 (by simp); have hz0 := hA7.free 0; have hz1 := hA7.free 1; have hz2 := hA7.free 2; have hz3 := hA7.free 3; simp only [List.getD_cons_zero, List.getD_cons_succ] at hy0 hy1 hy2 hy3; have HA7 := Lib.hid hA7; have HB7 := Lib.hid hB7; clear hw7 hA7 hB7 hA6 hB6)
          | fail)
        go_still_tail 19, (by kernel_rfl)
        obtain ⟨T, hT⟩ : ∃ T : List Int, T = [Go.bits .xor .u8 b1 con, b2, b3, b0] := ⟨_, rfl⟩
        have HT := Lib.hid hT
        refine store_arr (W := w7.drew) rfl 164 _ _ rfl wr.heap.size .u8 T rfl (by rw [hT]; rfl) 164 _ HA7.out.drew (by rw [hT]; rfl) (by rw [hT]; kernel_rfl) ?_
        clear hT
        intro wx hAx hwx
        have hBx : Below wr.heap.size wr wx := by rw [hwx]; exact below_setRow (below_drew HB7.out) _ (Nat.le_refl _) _
        clear hwx
        have HTE : Hid (T = kT box O (n + 4) (conN ((n + 3) / 4))) := Lib.hid (by rw [← hcon.out, HTK.out]; exact HT.out)
        have HTL : Hid (T.length = 4) := Lib.hid (by rw [HT.out]; rfl)
        have HAX := Lib.hid hAx
        have HBX2 := Lib.hid hBx
        clear hAx hBx HTK HT HA7 HB7 hx0 hx1 hx2 hx3 hy0 hy1 hy2 hy3 hz0 hz1 hz2 hz3
        go_wp2_with fail
        refine (twice_any con _ hc0 hc1).mono ?_
        rintro e w' ⟨rfl, rfl⟩
        have HCN : Hid (twiceF con = conN ((n + 1 + 3) / 4)) := Lib.hid (by
          rw [hcon.out, show (n + 1 + 3) / 4 = (n + 3) / 4 + 1 from by have := HM.out; have := H16.out; omega]
          show _ = conN _
          rw [conN])
        have hcb := twice_b con
        generalize twiceF con = con' at *
        go_wp2_with (first
          | ((with_reducible refine gate_dst (N := 48) rfl ?_); refine load_arr rfl 164 _ rfl wr.heap.size rfl .u8 _ _ _ _ HAX.out Try.underlying164 (by rw [HTL.out]; kernel_rfl) ?_)
          | fail)
        clear hcon hc0 hc1
      rotate_left
      focus
        have he16 : ((m : Int) % 16 == 0) = false := by simp; omega
        have H16 := Lib.hid h16
        have HCN : Hid (con = conN ((n + 1 + 3) / 4)) := Lib.hid (by rw [hcon.out, show (n + 1 + 3) / 4 = (n + 3) / 4 from by have := HM.out; omega])
        have hcb : Byte con := ⟨hc0, hc1⟩
        clear h16
        obtain ⟨T, hT⟩ : ∃ T : List Int, T = four O (m - 4) := ⟨_, rfl⟩
        rw [← hT] at HMID
        have HTE : Hid (T = kT box O (n + 4) (conN ((n + 3) / 4))) := Lib.hid (by
          rw [← hcon.out]
          unfold kT
          rw [if_neg (by have := HM.out; have := H16.out; omega), hT, show 4 * (n + 4) - 4 = m - 4 from by have := HM.out; omega])
        have HTL : Hid (T.length = 4) := Lib.hid (by rw [hT]; rfl)
        have HNL : Hid ((nums .u8 T).length = 4) := Lib.hid (by rw [hT]; rfl)
        clear hT
        go_wp2_with (first
          | ((with_reducible refine gate_dst (N := 23) rfl ?_); refine wpList_load_mid rfl 164 _ rfl g5 (m - 4) rfl (nums .u8 T) _ HMID.out Try.underlying164 rfl (by rw [HNL.out]; kernel_rfl) ?_)
          | ((with_reducible refine gate_dst (N := 8) rfl ?_); refine alloc_arr rfl 164 rfl .u8 (List.replicate 4 0) (fun w => Try.zeroValue164 w) (by first | (go_simp; done) | (go_simp; rfl)) ?_; intro w6 hA6 hB6)
          | ((with_reducible refine gate_store (t := 164) (p := 8) rfl ?_); refine store_arr rfl 164 _ _ rfl wr.heap.size .u8 T rfl rfl 164 _ hA6 (by rw [HTL.out]; rfl) (by rw [HTL.out]; kernel_rfl) ?_; intro w' hA7 hw7; have hB7 := below_setRow hB6 wr.heap.size (Nat.le_refl _) (nums .u8 T).toArray; rw [← hw7] at hB7; have HAX := Lib.hid hA7; have HBX2 := Lib.hid hB7; clear hw7 hA7 hB7 hA6 hB6)
          | ((with_reducible refine gate_dst (N := 48) rfl ?_); refine load_arr rfl 164 _ rfl wr.heap.size rfl .u8 _ _ _ _ HAX.out Try.underlying164 (by rw [HTL.out]; kernel_rfl) ?_)
          | fail)
        clear hcon hc0 hc1
        generalize con = con' at *
      all_goals
        have HAk : Hid (Arr .u8 140 w' g5 (kI T O (n + 4) 0)) := Lib.hid (by unfold kI; exact hA.out.next HBX2.out)
        have HBk : Hid (w5.grownBy w' (some g5)) := Lib.hid (grown_below hB.out HBX2.out)
        have HTB : Hid (Bytes T) := Lib.hid (by rw [HTE.out]; exact kT_b _ _ _ _ HBB.out HOB.out (conN_b _))
        have HIL := Lib.hid (fun k => kI_length T O (n + 4) k)
        clear hsl har
        obtain ⟨hcb0, hcb1⟩ := hcb
        go_loopw [49] (fun i wq => ∃ k : Nat, i = .int .i64 k ∧ k ≤ 4 ∧ Hid (Arr .u8 140 wq g5 (kI T O (n + 4) k)) ∧ Hid (w5.grownBy wq (some g5))) (fun i _ => 4 - (intOf i).toNat)
        case atStart => exact ⟨0, rfl, by omega, HAk, HBk⟩
        case round =>
          clear HAk HBk
          rename_i wq _
          obtain ⟨k, rfl, hk, hAk, hBk⟩ := hrel
          by_cases hk4 : k < 4
          · have hix := index_nums (P := Try.prog) 164 5 4 .u8 T k Try.underlying164 Try.underlying5 (by kernel_rfl) HTL.out hk4
            have hc1 := hAk.out.cellN (m - 16 + k) (by rw [HIL.out, HOL.out]; omega)
            have hc2 := hAk.out.cellN (m + k) (by rw [HIL.out, HOL.out]; omega)
            have hf2 := hAk.out.free (m + k)
            have HS : Hid (kI T O (n + 4) (k + 1) = (kI T O (n + 4) k).set (m + k) (Go.bits .xor .u8 ((kI T O (n + 4) k).getD (m - 16 + k) 0) (T.getD k 0))) := Lib.hid (by
              rw [kI, show 4 * (n + 4) + k = m + k from by have := HM.out; omega, show 4 * (n + 4) - 16 + k = m - 16 + k from by have := HM.out; omega])
            have hb1 : (0 : Int) ≤ (m : Int) - 16 + (k : Int) := by omega
            have hb2 : (m : Int) - 16 + (k : Int) < 176 := by omega
            have hb3 : ((m : Int) - 16 + (k : Int)).toNat = m - 16 + k := by omega
            go_wp2
            go_roundw
            case rel => exact ⟨k + 1, by go_num, by omega, Lib.hid (by rw [HS.out]; exact hAk.out.put (m + k) _), Lib.hid (grown_set hBk.out _ _)⟩
            case measure => simp [intOf]; omega
          · have hk' : k = 4 := by omega
            subst hk'
            go_wp2
            go_roundw
            case rel => exact ⟨n + 1, m + 4, con', rfl, by go_num, by have := HM.out; omega, by omega, hcb0, hcb1, HCN, Lib.hid (by rw [keyN, ← HO.out, ← HTE.out]; exact hAk.out), hBk⟩
            case measure => simp [intOf]; omega
    · have hn' : n = 40 := by omega
      subst hn'
      have hm176 : m = 176 := by omega
      subst hm176
      have hlen := keyN_length key box HL.out 40
      obtain ⟨O, hO⟩ : ∃ O, O = keyN key box 40 := ⟨_, rfl⟩
      rw [← hO] at hA hlen ⊢
      have HOL := Lib.hid hlen
      have HO40 := Lib.hid hO
      clear hlen hO
      have HA4r := Lib.hid (HA4.out.grown_ hB.out (by omega))
      have HBr := Lib.hid (below_grown HB5.out (by have := HB5.out.size; have := HG2.out; omega) (by omega) hB.out)
      go_wp2_with (first
        | ((with_reducible refine gate_dst (N := 66) rfl ?_); refine load_arr rfl 140 _ rfl g5 rfl .u8 _ _ _ _ hA.out Try.underlying140 (by rw [HOL.out]; kernel_rfl) ?_)
        | ((with_reducible refine gate_store (t := 140) (p := 4) rfl ?_); refine store_arr rfl 140 _ _ rfl g4 .u8 O rfl rfl 140 _ HA4r.out (by rw [HOL.out]; rfl) (by rw [HOL.out]; kernel_rfl) ?_; intro w8 hA8 hw8; subst hw8)
        | fail)
      exact bodyPost_ret (results_arr rfl _ _ g4 .u8 _ _ _ O rfl hA8 Try.underlying140 (by rw [HOL.out]; kernel_rfl)) rfl ⟨by rw [HO40.out], by rw [HG2.out]; exact below_setRow HBr.out _ (by omega) _⟩
end Go.Proofs.Ytljmjeaocojnmaa.HAa
end
section
set_option linter.unusedVariables false
set_option linter.unusedSimpArgs false
namespace Go.Proofs.Ytljmjeaocojnmaa.HAa
open Go.RowKit Go.Proofs.YtljmjeaocojnmaaW.PrintWords Go.Proofs.YtljmjeaocojnmaaW.PrintLast Go.Proofs.YtljmjeaocojnmaaW.PrintMore Go.Proofs.Ytljmjeaocojnmaa.Kit
attribute [local go_sem ↓] Go.wp_at_zero Go.wp_at_succ
def subV (box old : List Int) (i : Nat) : Int := box.getD (old.getD ((i + i % 4 * 4) % 16) 0).toNat 0
def subN (box old : List Int) : Nat → List Int
  | 0 => old
  | i + 1 => (subN box old i).set i (subV box old i)
def mixAll (xs : List Int) : Nat → List Int
  | 0 => xs
  | j + 1 => mixN (mixAll xs j) (4 * j) 4
def roundF (all box xs : List Int) (r : Nat) : List Int := addN all r (if r < 10 then mixAll (subN box xs 16) 4 else subN box xs 16) 16
def encN (all box block : List Int) : Nat → List Int
  | 0 => addN all 0 block 16
  | n + 1 => roundF all box (encN all box block n) (n + 1)
def encF (key block : List Int) : List Int := encN (keyN key boxT 40) boxT block 10
theorem subN_length (box old : List Int) : ∀ n, (subN box old n).length = old.length
  | 0 => rfl
  | n + 1 => by simp [subN, subN_length box old n]
theorem subN_b (box old : List Int) (hb : Bytes box) (ho : Bytes old) : ∀ n, Bytes (subN box old n)
  | 0 => ho
  | n + 1 => bytes_set (subN_b box old hb ho n) _ _ (byte_at hb _)
theorem mixAll_length (xs : List Int) : ∀ n, (mixAll xs n).length = xs.length
  | 0 => rfl
  | n + 1 => by rw [mixAll, mixN_length, mixAll_length xs n]
theorem mixAll_b (xs : List Int) (h : Bytes xs) : ∀ n, Bytes (mixAll xs n)
  | 0 => h
  | n + 1 => mixN_b _ _ (mixAll_b xs h n) 4
theorem addN_b (all : List Int) (r : Nat) (xs : List Int) (ha : Bytes all) (h : Bytes xs) : ∀ n, Bytes (addN all r xs n)
  | 0 => by unfold addN; exact h
  | n + 1 => by
    have := addN_b all r xs ha h n
    unfold addN
    exact bytes_set this _ _ (bxor_b _ _ (byte_at this _) (byte_at ha _))
theorem roundF_length (all box xs : List Int) (r : Nat) : (roundF all box xs r).length = xs.length := by
  unfold roundF
  rw [addN_length]
  split
  · rw [mixAll_length, subN_length]
  · rw [subN_length]
theorem roundF_b (all box xs : List Int) (r : Nat) (ha : Bytes all) (hb : Bytes box) (h : Bytes xs) : Bytes (roundF all box xs r) := by
  unfold roundF
  apply addN_b _ _ _ ha
  split
  · exact mixAll_b _ (subN_b _ _ hb h _) _
  · exact subN_b _ _ hb h _
theorem encN_length (all box block : List Int) : ∀ n, (encN all box block n).length = block.length
  | 0 => by rw [encN, addN_length]
  | n + 1 => by rw [encN, roundF_length, encN_length all box block n]
theorem encN_b (all box block : List Int) (ha : Bytes all) (hb : Bytes box) (h : Bytes block) : ∀ n, Bytes (encN all box block n)
  | 0 => addN_b _ _ _ ha h _
  | n + 1 => roundF_b _ _ _ _ ha hb (encN_b all box block ha hb h n)
theorem boxT_b : Bytes boxT := by
  unfold Bytes
  decide +kernel
attribute [local irreducible] encN keyN boxT subN mixAll addN mixN
set_option maxHeartbeats 2000000 in
set_option maxRecDepth 100000 in
theorem encrypt_any (key block : List Int) (w : World) (h16 : key.length = 16) (hb16 : block.length = 16) (hkb : Bytes key) (hbb : Bytes block) :
    Calls Try.prog 64 #[.agg (nums .u8 key).toArray, .agg (nums .u8 block).toArray] w (GivesA .u8 (encF key block) w) := by
  have HL := Lib.hid h16
  have HLB := Lib.hid hb16
  have HKB := Lib.hid hkb
  have HBB := Lib.hid hbb
  have HXL : Hid (boxT.length = 256) := Lib.hid (by unfold boxT; rfl)
  obtain ⟨box, hbox⟩ : ∃ b, b = boxT := ⟨_, rfl⟩
  have HXE := Lib.hid hbox
  rw [← hbox] at HXL
  have HXB : Hid (Bytes box) := Lib.hid (by rw [hbox]; exact boxT_b)
  clear h16 hb16 hkb hbb hbox
  have hmf : ∀ (fn : Fn) (first cap : Array Value) (w : World), (Instr.makeFunc fn first cap).run Try.prog w = .ok (.func fn first cap) w := fun _ _ _ _ => rfl
  go_enter Try.func64, Try.ntmps64
  go_wp2_with (first
    | ((with_reducible refine gate_dst (N := 2) rfl ?_); refine arr_new rfl 39 .u8 key (by first | (go_simp; done) | (go_simp; rfl)) ?_; intro w1 hA1 hB1)
    | ((with_reducible refine gate_dst (N := 3) rfl ?_); refine arr_new rfl 39 .u8 block (by first | (go_simp; done) | (go_simp; rfl)) ?_; intro w2 hA2 hB2)
    | ((with_reducible refine gate_dst (N := 4) rfl ?_); refine alloc_arr rfl 39 rfl .u8 (List.replicate 16 0) (fun w => Try.zeroValue39 w) (by first | (go_simp; done) | (go_simp; rfl)) ?_; intro w3 hA3 hB3)
    | fail)
  refine (boxes_any _).mono ?_
  rintro e w4 ⟨rfl, hB4⟩
  rw [← HXE.out]
  have hg12 : w.heap.size < w1.heap.size := hA1.lt
  have hg23 : w1.heap.size < w2.heap.size := hA2.lt
  have hg34 : w2.heap.size < w3.heap.size := hA3.lt
  have hg35 : w3.heap.size ≤ w4.heap.size := hB4.size
  have HA1 := Lib.hid (((hA1.next hB2).next hB3).next hB4)
  have HA2 := Lib.hid ((hA2.next hB3).next hB4)
  have HA3 := Lib.hid (hA3.next hB4)
  have HB := Lib.hid (below_next (below_next (below_next hB1 hB2) hB3) hB4)
  clear hA1 hA2 hA3 hB1 hB2 hB3 hB4
  generalize hg4 : w2.heap.size = g4 at *
  generalize hg3 : w1.heap.size = g3 at *
  generalize hg2 : w.heap.size = g2 at *
  have HG2 := Lib.hid hg2
  clear hg2 hg3 hg4
  go_wp2_with (first
    | ((with_reducible refine gate_dst (N := 5) rfl ?_); refine alloc_arr rfl 138 rfl .u8 (List.replicate 256 0) (fun w => Try.zeroValue138 w) (by first | (go_simp; done) | (go_simp; rfl)) ?_; intro w5 hA5 hB5)
    | ((with_reducible refine gate_store (t := 138) (p := 5) rfl ?_); refine store_arr rfl 138 _ _ rfl w4.heap.size .u8 box rfl rfl 138 _ hA5 (by rw [HXL.out]; rfl) (by rw [HXL.out]; kernel_rfl) ?_; intro w6 hA6 hw6; have hB6 := below_setRow hB5 w4.heap.size (Nat.le_refl _) (nums .u8 box).toArray; rw [← hw6] at hB6; have HA16 := Lib.hid (HA1.out.next hB6); have HA26 := Lib.hid (HA2.out.next hB6); have HA36 := Lib.hid (HA3.out.next hB6); have HA5 := Lib.hid hA6; have HB6 := Lib.hid (HB.out.trans (hB6.mono (by omega))); have hs6 : w4.heap.size < w6.heap.size := hA6.lt; clear hw6 hA6 hA5 hB5 hB6)
    | ((with_reducible refine gate_dst (N := 13) rfl ?_); refine load_arr rfl 39 _ rfl g2 rfl .u8 _ _ _ _ HA16.out Try.underlying39 (by rw [HL.out]; kernel_rfl) ?_)
    | ((with_reducible refine gate_dst (N := 14) rfl ?_); refine load_arr rfl 138 _ rfl w4.heap.size rfl .u8 _ _ _ _ HA5.out Try.underlying138 (by rw [HXL.out]; kernel_rfl) ?_)
    | fail)
  refine (keys_any key box _ HL.out HXL.out HKB.out HXB.out).mono ?_
  rintro e w7 ⟨rfl, hB7⟩
  obtain ⟨ks, hks⟩ : ∃ k, k = keyN key box 40 := ⟨_, rfl⟩
  have HKL : Hid (ks.length = 176) := Lib.hid (by rw [hks]; exact keyN_length key box HL.out 40)
  have HKY : Hid (Bytes ks) := Lib.hid (by rw [hks]; exact keyN_b key box HKB.out HXB.out 40)
  rw [← hks]
  have HKE := Lib.hid hks
  have hs67 := hB7.size
  have HA7 := Lib.hid (HA26.out.next hB7)
  have HR7 := Lib.hid (HA36.out.next hB7)
  have HX7 := Lib.hid (HA5.out.next hB7)
  have HB7 := Lib.hid (HB6.out.trans (hB7.mono (by have := HB6.out.size; have := HG2.out; omega)))
  have hg45 : g4 < w4.heap.size := by omega
  clear hks HA1 HA2 HA3 HB HA16 HA26 HA36 HA5 HB6 hB7
  generalize w4.heap.size = g5 at *
  go_wp2_with (first
    | ((with_reducible refine gate_dst (N := 6) rfl ?_); refine alloc_arr rfl 140 rfl .u8 (List.replicate 176 0) (fun w => Try.zeroValue140 w) (by first | (go_simp; done) | (go_simp; rfl)) ?_; intro w8 hA8 hB8)
    | ((with_reducible refine gate_store (t := 140) (p := 6) rfl ?_); refine store_arr rfl 140 _ _ rfl w7.heap.size .u8 ks rfl rfl 140 _ hA8 (by rw [HKL.out]; rfl) (by rw [HKL.out]; kernel_rfl) ?_; intro w9 hA9 hw9; have hB9 := below_setRow hB8 w7.heap.size (Nat.le_refl _) (nums .u8 ks).toArray; rw [← hw9] at hB9; have HA9 := Lib.hid (HA7.out.next hB9); have HR9 := Lib.hid (HR7.out.next hB9); have HX9 := Lib.hid (HX7.out.next hB9); have HK9 := Lib.hid hA9; have HB9 := Lib.hid (HB7.out.trans (hB9.mono (by have := HB7.out.size; have := HG2.out; omega))); clear hw9 hA9 hA8 hB8 hB9)
    | fail)
  have hg56 : g5 < w7.heap.size := by omega
  generalize w7.heap.size = g6 at *
  clear HA7 HR7 HX7 HB7
  have hadd : Calls Try.prog 87 #[.int .i64 0, .pointer (some ⟨g3, 0, none⟩), .pointer (some ⟨g6, 0, none⟩)] w9 (Turns .u8 39 w9 g3 (addN ks 0 block 16)) := add_any g3 g6 0 block ks w9 HA9.out HK9.out HLB.out HKL.out (by omega)
  refine hadd.mono ?_
  rintro e w0 ⟨rfl, hAd, hGd⟩
  have HA0 : Hid (Arr .u8 39 w0 g3 (encN ks box block 0)) := Lib.hid (by unfold encN; exact hAd)
  have HR0 := Lib.hid (HR9.out.grown_ hGd (by omega))
  have HX0 := Lib.hid (HX9.out.grown_ hGd (by omega))
  have HK0 := Lib.hid (HK9.out.grown_ hGd (by omega))
  have HB0 := Lib.hid (below_grown HB9.out (by have := HB9.out.size; have := HG2.out; omega) (by omega) hGd)
  clear hadd hAd hGd HA9 HR9 HX9 HK9 HB9
  go_wp2_with fail
  go_loopw [8] (fun iv wr => ∃ (n r : Nat), iv = .int .i64 r ∧ r = n + 1 ∧ n ≤ 10 ∧ Hid (Arr .u8 39 wr g3 (encN ks box block n)) ∧ Hid (w0.grownBy wr (some g3))) (fun iv _ => 11 - (intOf iv).toNat)
  case atStart => exact ⟨0, 1, rfl, rfl, by omega, HA0, Lib.hid (grown_of_below (Below.refl _ _) _)⟩
  case round =>
    clear HA0
    obtain ⟨n, r, rfl, hr, hn, hA, hB⟩ := hrel
    have hlen := encN_length ks box block n
    rw [HLB.out] at hlen
    have hbN := encN_b ks box block HKY.out HXB.out HBB.out n
    by_cases hn10 : n < 10
    · have HR := Lib.hid hr
      have hr10 : r ≤ 10 := by omega
      have hr1 : 1 ≤ r := by omega
      clear hr
      have HES : Hid (encN ks box block (n + 1) = roundF ks box (encN ks box block n) r) := Lib.hid (by rw [encN, HR.out])
      obtain ⟨xs, hxs⟩ : ∃ x, x = encN ks box block n := ⟨_, rfl⟩
      rw [← hxs] at hA hlen hbN HES
      have HXSL := Lib.hid hlen
      have HXSB := Lib.hid hbN
      have hg3r : g3 < wr.heap.size := hA.out.lt
      have hs0r := hB.out.size
      have hg6 := HK0.out.lt
      clear hlen hbN hxs
      go_wp2_with (first
        | ((with_reducible refine gate_dst (N := 23) rfl ?_); refine load_arr rfl 39 _ rfl g3 rfl .u8 _ _ _ _ hA.out Try.underlying39 (by rw [HXSL.out]; kernel_rfl) ?_)
        | ((with_reducible refine gate_dst (N := 9) rfl ?_); refine alloc_arr rfl 39 rfl .u8 (List.replicate 16 0) (fun w => Try.zeroValue39 w) (by first | (go_simp; done) | (go_simp; rfl)) ?_; intro w10 hA10 hB10)
        | ((with_reducible refine gate_store (t := 39) (p := 9) rfl ?_); refine store_arr rfl 39 _ _ rfl wr.heap.size .u8 xs rfl rfl 39 _ hA10 (by rw [HXSL.out]; rfl) (by rw [HXSL.out]; kernel_rfl) ?_; intro w11 hA11 hw11; have hB11 := below_setRow hB10 wr.heap.size (Nat.le_refl _) (nums .u8 xs).toArray; rw [← hw11] at hB11; have HO := Lib.hid hA11; have HA11 := Lib.hid (hA.out.next hB11); have HG11 := Lib.hid (grown_below hB.out hB11); clear hw11 hA10 hB10 hA11 hB11)
        | fail)
      generalize wr.heap.size = g9 at *
      have HA110 : Hid (Arr .u8 39 w11 g3 (subN box xs 0)) := Lib.hid (by unfold subN; exact HA11.out)
      go_loopw [24] (fun iv wq => ∃ k : Nat, iv = .int .i64 k ∧ k ≤ 16 ∧ Hid (Arr .u8 39 wq g3 (subN box xs k)) ∧ Hid (w11.grownBy wq (some g3))) (fun iv _ => 16 - (intOf iv).toNat)
      case atStart => exact ⟨0, rfl, by omega, HA110, Lib.hid (grown_of_below (Below.refl _ _) _)⟩
      case round =>
        clear HA110
        obtain ⟨k, rfl, hk, hAk, hBk⟩ := hrel
        by_cases hk16 : k < 16
        · have hj : (k + k % 4 * 4) % 16 < 16 := Nat.mod_lt _ (by omega)
          have hco := (HO.out.grown_ hBk.out (by omega)).cellN ((k + k % 4 * 4) % 16) (by rw [HXSL.out]; omega)
          obtain ⟨hy0, hy1⟩ := byte_at HXSB.out ((k + k % 4 * 4) % 16)
          have hcx := (((HX0.out.grown_ HG11.out (by omega))).grown_ hBk.out (by omega)).cellN (xs.getD ((k + k % 4 * 4) % 16) 0).toNat (by rw [HXL.out]; omega)
          have HSV : Hid (subV box xs k = box.getD (xs.getD ((k + k % 4 * 4) % 16) 0).toNat 0) := Lib.hid rfl
          obtain ⟨y, hy⟩ : ∃ y, y = xs.getD ((k + k % 4 * 4) % 16) 0 := ⟨_, rfl⟩
          rw [← hy] at hco hcx hy0 hy1 HSV
          have hc := hAk.out.cellN k (by rw [subN_length, HXSL.out]; omega)
          have hf := hAk.out.free k
          have HS : Hid (subN box xs (k + 1) = (subN box xs k).set k (box.getD y.toNat 0)) := Lib.hid (by rw [subN, HSV.out])
          have hm0 : (0 : Int) ≤ ((k : Int) + (k : Int) % 4 * 4) % 16 := by omega
          have hm1 : ((k : Int) + (k : Int) % 4 * 4) % 16 < 16 := by omega
          have hm2 : (((k : Int) + (k : Int) % 4 * 4) % 16).toNat = (k + k % 4 * 4) % 16 := by omega
          clear hy
          go_wp2
          go_roundw
          case rel => exact ⟨k + 1, by go_num, by omega, Lib.hid (by rw [HS.out]; exact hAk.out.put k _), Lib.hid (grown_set hBk.out _ _)⟩
          case measure => simp [intOf]; omega
        · have hk' : k = 16 := by omega
          subst hk'
          obtain ⟨S, hS⟩ : ∃ S, S = subN box xs 16 := ⟨_, rfl⟩
          rw [← hS] at hAk
          have HSL : Hid (S.length = 16) := Lib.hid (by rw [hS, subN_length, HXSL.out])
          have HSB : Hid (Bytes S) := Lib.hid (by rw [hS]; exact subN_b _ _ HXB.out HXSB.out _)
          have HSE := Lib.hid hS
          have HG12 := Lib.hid (grown_then HG11.out hBk.out)
          clear hS
          go_wp2_with fail
          obtain ⟨wb, hwb⟩ : ∃ wb : World, wb = wr := ⟨_, rfl⟩
          subst hwb
          by_cases hr9 : r < 10
          focus
            rw [show ((16 : Nat) : Int) = 16 from rfl]
            have hRF : Hid (∀ M, M = mixAll S 4 → roundF ks box xs r = addN ks r M 16) := Lib.hid (fun M hM => by unfold roundF; rw [if_pos hr9, hM, HSE.out])
            have HM0 : Hid (Arr .u8 39 wb g3 (mixAll S 0)) := Lib.hid (by unfold mixAll; exact hAk.out)
            go_loopw [11] (fun iv wq => ∃ (j i : Nat), iv = .int .i64 i ∧ i = 4 * j ∧ j ≤ 4 ∧ Hid (Arr .u8 39 wq g3 (mixAll S j)) ∧ Hid (wb.grownBy wq (some g3))) (fun iv _ => 16 - (intOf iv).toNat)
            case atStart => exact ⟨0, 0, rfl, rfl, by omega, HM0, Lib.hid (grown_of_below (Below.refl _ _) _)⟩
            case round =>
              clear HM0
              obtain ⟨j, i, rfl, hi, hj, hAj, hBj⟩ := hrel
              by_cases hj4 : j < 4
              · have HI := Lib.hid hi
                have hi1 : i ≤ 12 := by omega
                clear hi
                have hsl : ∀ W : World, (Instr.sliceAt 39 (.pointer (some ⟨g3, 0, none⟩)) (some (.int .i64 (i : Int))) (some (.int .i64 ((i : Int) + 4))) none).run Try.prog W = .ok (.slice (some ⟨g3, i, none⟩) 4 (16 - i)) W := fun W => by
                  have h := sliceAt_arr (P := Try.prog) 39 5 16 Try.underlying39 (by kernel_rfl) g3 (i : Int) ((i : Int) + 4) i (i + 4) rfl (by omega) (by omega) (by omega) (by omega) W
                  rwa [show i + 4 - i = 4 from by omega] at h
                have HMS : Hid (mixAll S (j + 1) = mixN (mixAll S j) i 4) := Lib.hid (by rw [mixAll, HI.out])
                go_wp2_with fail
                refine (mix_any g3 i (16 - i) (mixAll S j) wr hAj.out (by rw [mixAll_length, HSL.out]) (by omega) (by omega) (mixAll_b S HSB.out j)).mono ?_
                rintro e w13 ⟨rfl, hA13, hG13⟩
                have HA13 := Lib.hid hA13
                have HG13 := Lib.hid (grown_then hBj.out hG13)
                clear hA13 hG13 hsl
                go_wp2
                go_roundw
                case rel => exact ⟨j + 1, i + 4, by go_num, by have := HI.out; omega, by omega, Lib.hid (by rw [HMS.out]; exact HA13.out), HG13⟩
                case measure => simp [intOf]; omega
              · have hj' : j = 4 := by omega
                subst hj'
                have hi16 : i = 16 := by omega
                subst hi16
                obtain ⟨M, hM⟩ : ∃ M, M = mixAll S 4 := ⟨_, rfl⟩
                rw [← hM] at hAj
                have HML : Hid (M.length = 16) := Lib.hid (by rw [hM, mixAll_length, HSL.out])
                have HRF := Lib.hid (hRF.out M hM)
                have HG14 := Lib.hid (grown_then HG12.out hBj.out)
                have HK14 := Lib.hid (HK0.out.grown_ HG14.out (by omega))
                clear hM
                go_wp2_with fail
                refine (add_any g3 g6 r M ks _ hAj.out HK14.out HML.out HKL.out hr10).mono ?_
                rintro e w15 ⟨rfl, hA15, hG15⟩
                have HA15 := Lib.hid hA15
                have HG15 := Lib.hid (grown_then HG14.out hG15)
                clear hA15 hG15
                go_wp2
                go_roundw
                case rel => exact ⟨n + 1, r + 1, by go_num, by have := HR.out; omega, by omega, Lib.hid (by rw [HES.out, HRF.out]; exact HA15.out), HG15⟩
                case measure => simp [intOf]; omega
          rotate_left
          focus
            have hr' : r = 10 := by omega
            have HRF : Hid (roundF ks box xs r = addN ks r S 16) := Lib.hid (by unfold roundF; rw [if_neg hr9, HSE.out])
            have HK14 := Lib.hid (HK0.out.grown_ HG12.out (by omega))
            clear hr9
            go_loopw [11] (fun iv wq => iv = .int .i64 0 ∧ wq = wb) (fun iv _ => 16 - (intOf iv).toNat)
            case atStart => exact ⟨rfl, rfl⟩
            case round =>
              obtain ⟨rfl, rfl⟩ := hrel
              have h10 : (r : Int) = 10 := by omega
              have h10' : ¬ (r : Int) < 10 := by omega
              have h10d : decide ((r : Int) < 10) = false := by simpa using h10'
              clear h10 h10' hr'
              go_wp2_with fail
              refine (add_any g3 g6 r S ks _ hAk.out HK14.out HSL.out HKL.out hr10).mono ?_
              rintro e w15 ⟨rfl, hA15, hG15⟩
              have HA15 := Lib.hid hA15
              have HG15 := Lib.hid (grown_then HG12.out hG15)
              clear hA15 hG15
              go_wp2
              go_roundw
              case rel => exact ⟨n + 1, r + 1, by go_num, by have := HR.out; omega, by omega, Lib.hid (by rw [HES.out, HRF.out]; exact HA15.out), HG15⟩
              case measure => simp [intOf]; omega
    · have hn' : n = 10 := by omega
      subst hn'
      subst hr
      have HXSL := Lib.hid hlen
      obtain ⟨xs, hxs⟩ : ∃ x, x = encN ks box block 10 := ⟨_, rfl⟩
      rw [← hxs] at hA HXSL
      have HE : Hid (encF key block = xs) := Lib.hid (by unfold encF; rw [hxs, HKE.out, HXE.out])
      have HR4 := Lib.hid (HR0.out.grown_ hB.out (by omega))
      have HBr := Lib.hid (below_grown HB0.out (by have := HB0.out.size; have := HG2.out; omega) (by omega) hB.out)
      clear hxs hlen hbN
      go_wp2_with (first
        | ((with_reducible refine gate_dst (N := 56) rfl ?_); refine load_arr rfl 39 _ rfl g3 rfl .u8 _ _ _ _ hA.out Try.underlying39 (by rw [HXSL.out]; kernel_rfl) ?_)
        | ((with_reducible refine gate_store (t := 39) (p := 4) rfl ?_); refine store_arr rfl 39 _ _ rfl g4 .u8 xs rfl rfl 39 _ HR4.out (by rw [HXSL.out]; rfl) (by rw [HXSL.out]; kernel_rfl) ?_; intro w8 hA8 hw8; subst hw8)
        | fail)
      exact bodyPost_ret (results_arr rfl _ _ g4 .u8 _ _ _ xs rfl hA8 Try.underlying39 (by rw [HXSL.out]; kernel_rfl)) rfl ⟨by rw [HE.out], by rw [HG2.out]; exact below_setRow HBr.out _ (by omega) _⟩
end Go.Proofs.Ytljmjeaocojnmaa.HAa
end
section
set_option linter.unusedVariables false
set_option linter.unusedSimpArgs false
namespace Go.Proofs.Ytljmjeaocojnmaa.HAa
open Go.RowKit Go.Proofs.YtljmjeaocojnmaaW.PrintWords Go.Proofs.Ytljmjeaocojnmaa.Kit Go.Proofs.Ytljmjeaocojnmaa.Ra
set_option maxRecDepth 100000 in
theorem swap_0 : ∀ i : Fin 64, padlockref03_Swap.f 300 i.1 = some (boxT.getD i.1 0) := by decide +kernel
set_option maxRecDepth 100000 in
theorem swap_1 : ∀ i : Fin 64, padlockref03_Swap.f 300 ((64 + i.1 : Nat) : Int) = some (boxT.getD (64 + i.1) 0) := by decide +kernel
set_option maxRecDepth 100000 in
theorem swap_2 : ∀ i : Fin 64, padlockref03_Swap.f 300 ((128 + i.1 : Nat) : Int) = some (boxT.getD (128 + i.1) 0) := by decide +kernel
set_option maxRecDepth 100000 in
theorem swap_3 : ∀ i : Fin 64, padlockref03_Swap.f 300 ((192 + i.1 : Nat) : Int) = some (boxT.getD (192 + i.1) 0) := by decide +kernel
theorem swap_all (i : Nat) (hi : i < 256) : padlockref03_Swap.f 300 i = some (boxT.getD i 0) := by
  by_cases h0 : i < 64
  · exact swap_0 ⟨i, h0⟩
  by_cases h1 : i < 128
  · have h := swap_1 ⟨i - 64, by omega⟩
    simp only [show 64 + (i - 64) = i from by omega] at h
    exact h
  by_cases h2 : i < 192
  · have h := swap_2 ⟨i - 128, by omega⟩
    simp only [show 128 + (i - 128) = i from by omega] at h
    exact h
  · have h := swap_3 ⟨i - 192, by omega⟩
    simp only [show 192 + (i - 192) = i from by omega] at h
    exact h
set_option maxRecDepth 100000 in
theorem mul_fin : ∀ i : Fin 256, padlockref03_Mul.f 10 i.1 2 = some (twiceF i.1) ∧ padlockref03_Mul.f 10 i.1 3 = some (Go.bits .xor .u8 (twiceF i.1) i.1) := by decide +kernel
set_option maxRecDepth 100000 in
theorem twice_fin : ∀ i : Fin 256, twiceF i.1 = ((i.1 <<< 1 ^^^ (i.1 >>> 7) * 283 : Nat) : Int) := by decide +kernel
end Go.Proofs.Ytljmjeaocojnmaa.HAa
end
section
set_option linter.unusedVariables false
set_option linter.unusedSimpArgs false
namespace Go.Proofs.Ytljmjeaocojnmaa.HAa
open Go.RowKit Go.Proofs.YtljmjeaocojnmaaW.PrintWords Go.Proofs.Ytljmjeaocojnmaa.Kit Go.Proofs.Ytljmjeaocojnmaa.Ra
theorem twice_nat (x : Nat) (h : x < 256) : twiceF x = ((x <<< 1 ^^^ (x >>> 7) * 283 : Nat) : Int) := twice_fin ⟨x, h⟩
theorem xlc (a b c : Nat) : a ^^^ (b ^^^ c) = b ^^^ (a ^^^ c) := by rw [← Nat.xor_assoc, Nat.xor_comm a b, Nat.xor_assoc]
theorem bit_mul (p q : Nat) (hp : p < 2) (hq : q < 2) : (p ^^^ q) * 283 = p * 283 ^^^ q * 283 := by
  match p, q, hp, hq with
  | 0, 0, _, _ => rfl
  | 0, 1, _, _ => rfl
  | 1, 0, _, _ => rfl
  | 1, 1, _, _ => rfl
theorem twice_xor (x y : Nat) (hx : x < 256) (hy : y < 256) : (x ^^^ y) <<< 1 ^^^ ((x ^^^ y) >>> 7) * 283 = (x <<< 1 ^^^ (x >>> 7) * 283) ^^^ (y <<< 1 ^^^ (y >>> 7) * 283) := by
  have h1 : x >>> 7 < 2 := by rw [Nat.shiftRight_eq_div_pow]; omega
  have h2 : y >>> 7 < 2 := by rw [Nat.shiftRight_eq_div_pow]; omega
  rw [Nat.shiftLeft_xor_distrib, Nat.shiftRight_xor_distrib, bit_mul _ _ h1 h2]
  simp only [Nat.xor_assoc, Nat.xor_comm, xlc]
theorem twice_lin (a b : Int) (ha : Byte a) (hb : Byte b) : twiceF (Go.bits .xor .u8 a b) = Go.bits .xor .u8 (twiceF a) (twiceF b) := by
  have ta := twice_b a
  have tb := twice_b b
  obtain ⟨a, rfl⟩ := Int.eq_ofNat_of_zero_le ha.1
  obtain ⟨b, rfl⟩ := Int.eq_ofNat_of_zero_le hb.1
  have h1 : a < 2 ^ 8 := by have := ha.2; omega
  have h2 : b < 2 ^ 8 := by have := hb.2; omega
  have h3 := Nat.xor_lt_two_pow h1 h2
  rw [bxor8 a b h1 h2]
  have e1 := twice_nat a h1
  have e2 := twice_nat b h2
  have e3 := twice_nat (a ^^^ b) h3
  rw [e1] at ta ⊢
  rw [e2] at tb ⊢
  rw [e3, bxor8 _ _ (by have := ta.2; omega) (by have := tb.2; omega), twice_xor a b h1 h2]
theorem mix_eq (a b c d : Int) (ha : Byte a) (hb : Byte b) (hc : Byte c) (hd : Byte d) (all : Int) (hall : all = Go.bits .xor .u8 (Go.bits .xor .u8 (Go.bits .xor .u8 a b) c) d) :
    mixV all a b = Go.bits .xor .u8 (Go.bits .xor .u8 (Go.bits .xor .u8 (twiceF a) (Go.bits .xor .u8 (twiceF b) b)) c) d := by
  unfold mixV
  rw [twice_lin a b ha hb, hall]
  have ta := twice_b a
  have tb := twice_b b
  obtain ⟨p, hp⟩ := Int.eq_ofNat_of_zero_le ta.1
  obtain ⟨q, hq⟩ := Int.eq_ofNat_of_zero_le tb.1
  rw [hp] at ta ⊢
  rw [hq] at tb ⊢
  clear hp hq hall
  obtain ⟨a, rfl⟩ := Int.eq_ofNat_of_zero_le ha.1
  obtain ⟨b, rfl⟩ := Int.eq_ofNat_of_zero_le hb.1
  obtain ⟨c, rfl⟩ := Int.eq_ofNat_of_zero_le hc.1
  obtain ⟨d, rfl⟩ := Int.eq_ofNat_of_zero_le hd.1
  have ha' : a < 2 ^ 8 := by have := ha.2; omega
  have hb' : b < 2 ^ 8 := by have := hb.2; omega
  have hc' : c < 2 ^ 8 := by have := hc.2; omega
  have hd' : d < 2 ^ 8 := by have := hd.2; omega
  have hp' : p < 2 ^ 8 := by have := ta.2; omega
  have hq' : q < 2 ^ 8 := by have := tb.2; omega
  have x1 := Nat.xor_lt_two_pow ha' hb'
  have x2 := Nat.xor_lt_two_pow x1 hc'
  have x3 := Nat.xor_lt_two_pow x2 hd'
  have x4 := Nat.xor_lt_two_pow hp' hq'
  have x5 := Nat.xor_lt_two_pow x3 x4
  have x6 := Nat.xor_lt_two_pow hq' hb'
  have x7 := Nat.xor_lt_two_pow hp' x6
  have x8 := Nat.xor_lt_two_pow x7 hc'
  rw [bxor8 a b ha' hb', bxor8 _ c x1 hc', bxor8 _ d x2 hd', bxor8 p q hp' hq', bxor8 _ _ x3 x4, bxor8 a _ ha' x5, bxor8 q b hq' hb', bxor8 p _ hp' x6, bxor8 _ c x7 hc', bxor8 _ d x8 hd']
  congr 1
  have e : a ^^^ (a ^^^ b ^^^ c ^^^ d ^^^ (p ^^^ q)) = b ^^^ c ^^^ d ^^^ (p ^^^ q) := by
    simp only [Nat.xor_assoc]
    rw [← Nat.xor_assoc a a, Nat.xor_self, Nat.zero_xor]
  rw [e]
  simp only [Nat.xor_assoc, Nat.xor_comm, xlc]
theorem mixA_turn (a b c d : Int) (ha : Byte a) (hb : Byte b) (hc : Byte c) (hd : Byte d) : Go.bits .xor .u8 (Go.bits .xor .u8 (Go.bits .xor .u8 a b) c) d = Go.bits .xor .u8 (Go.bits .xor .u8 (Go.bits .xor .u8 b c) d) a := by
  obtain ⟨a, rfl⟩ := Int.eq_ofNat_of_zero_le ha.1
  obtain ⟨b, rfl⟩ := Int.eq_ofNat_of_zero_le hb.1
  obtain ⟨c, rfl⟩ := Int.eq_ofNat_of_zero_le hc.1
  obtain ⟨d, rfl⟩ := Int.eq_ofNat_of_zero_le hd.1
  have ha' : a < 2 ^ 8 := by have := ha.2; omega
  have hb' : b < 2 ^ 8 := by have := hb.2; omega
  have hc' : c < 2 ^ 8 := by have := hc.2; omega
  have hd' : d < 2 ^ 8 := by have := hd.2; omega
  have x1 := Nat.xor_lt_two_pow ha' hb'
  have x2 := Nat.xor_lt_two_pow x1 hc'
  have x3 := Nat.xor_lt_two_pow hb' hc'
  have x4 := Nat.xor_lt_two_pow x3 hd'
  rw [bxor8 a b ha' hb', bxor8 _ c x1 hc', bxor8 _ d x2 hd', bxor8 b c hb' hc', bxor8 _ d x3 hd', bxor8 _ a x4 ha']
  congr 1
  simp only [Nat.xor_assoc, Nat.xor_comm, xlc]
end Go.Proofs.Ytljmjeaocojnmaa.HAa
end
section
set_option linter.unusedVariables false
set_option linter.unusedSimpArgs false
namespace Go.Proofs.Ytljmjeaocojnmaa.HAa
open Go.RowKit Go.Proofs.YtljmjeaocojnmaaW.PrintWords Go.Proofs.Ytljmjeaocojnmaa.Kit Go.Proofs.Ytljmjeaocojnmaa.Ra
theorem gset (l : List Int) (i j : Nat) (v : Int) (hi : i < l.length) : (l.set i v).getD j 0 = if j = i then v else l.getD j 0 := by
  simp only [List.getD_eq_getElem?_getD, List.getElem?_set]
  by_cases h : i = j
  · subst h; simp [hi]
  · rw [if_neg h, if_neg (fun e => h e.symm)]
theorem ext_getD (a b : List Int) (n : Nat) (ha : a.length = n) (hb : b.length = n) (h : ∀ j, j < n → a.getD j 0 = b.getD j 0) : a = b := by
  apply List.ext_getElem (by omega)
  intro i h1 h2
  have := h i (by omega)
  simpa [List.getD_eq_getElem?_getD, List.getElem?_eq_getElem h1, List.getElem?_eq_getElem h2] using this
theorem range_getD (f : Nat → Int) (n j : Nat) (h : j < n) : ((List.range n).map f).getD j 0 = f j := by simp [List.getD_eq_getElem?_getD, h]
theorem addN_at (all : List Int) (r : Nat) (xs : List Int) (j : Nat) : ∀ k, k ≤ xs.length → (addN all r xs k).getD j 0 = if j < k then Go.bits .xor .u8 (xs.getD j 0) (all.getD (16 * r + j) 0) else xs.getD j 0
  | 0, _ => by simp [addN]
  | k + 1, h => by
    rw [addN, gset _ _ _ _ (by rw [addN_length]; omega)]
    have ih := addN_at all r xs j k (by omega)
    by_cases hj : j = k
    · subst hj
      rw [if_pos rfl, if_pos (by omega), ih, if_neg (by omega)]
    · rw [if_neg hj, ih]
      by_cases h2 : j < k
      · rw [if_pos h2, if_pos (by omega)]
      · rw [if_neg h2, if_neg (by omega)]
theorem subN_at (box xs : List Int) (j : Nat) : ∀ k, k ≤ xs.length → (subN box xs k).getD j 0 = if j < k then subV box xs j else xs.getD j 0
  | 0, _ => by simp [subN]
  | k + 1, h => by
    rw [subN, gset _ _ _ _ (by rw [subN_length]; omega)]
    by_cases hj : j = k
    · subst hj
      rw [if_pos rfl, if_pos (by omega)]
    · rw [if_neg hj, subN_at box xs j k (by omega)]
      by_cases h2 : j < k
      · rw [if_pos h2, if_pos (by omega)]
      · rw [if_neg h2, if_neg (by omega)]
def nextV (xs : List Int) (o j : Nat) : Int := if j + 1 < o + 4 then xs.getD (j + 1) 0 else xs.getD o 0
theorem mixN_at (xs : List Int) (o j : Nat) (ho : o + 4 ≤ xs.length) : ∀ k, k ≤ 4 → (mixN xs o k).getD j 0 = if o ≤ j ∧ j < o + k then mixV (mixA xs o) (xs.getD j 0) (nextV xs o j) else xs.getD j 0
  | 0, _ => by rw [if_neg (by omega)]; rfl
  | k + 1, h => by
    rw [mixN, gset _ _ _ _ (by rw [mixN_length]; omega)]
    have ih := fun j => mixN_at xs o j ho k (by omega)
    by_cases hj : j = o + k
    · subst hj
      rw [if_pos rfl, if_pos (by omega), ih, if_neg (by omega)]
      congr 1
      unfold mixX nextV
      by_cases h4 : k + 1 < 4
      · rw [if_pos h4, if_pos (by omega), ih, if_neg (by omega)]
        rfl
      · rw [if_neg h4, if_neg (by omega)]
    · rw [if_neg hj, ih]
      by_cases h2 : o ≤ j ∧ j < o + k
      · rw [if_pos h2, if_pos (by omega)]
      · rw [if_neg h2, if_neg (by omega)]
theorem mixA_same (a b : List Int) (o : Nat) (h : ∀ j, o ≤ j → a.getD j 0 = b.getD j 0) : mixA a o = mixA b o := by
  unfold mixA
  rw [h o (by omega), h (o + 1) (by omega), h (o + 2) (by omega), h (o + 3) (by omega)]
theorem mixAll_at (xs : List Int) (h16 : xs.length = 16) (j : Nat) : ∀ n, n ≤ 4 → (mixAll xs n).getD j 0 = if j < 4 * n then mixV (mixA xs (4 * (j / 4))) (xs.getD j 0) (nextV xs (4 * (j / 4)) j) else xs.getD j 0
  | 0, _ => by rw [if_neg (by omega)]; rfl
  | n + 1, h => by
    have ih := fun j => mixAll_at xs h16 j n (by omega)
    rw [mixAll, mixN_at _ _ _ (by rw [mixAll_length, h16]; omega) 4 (by omega)]
    have hA : mixA (mixAll xs n) (4 * n) = mixA xs (4 * n) := mixA_same _ _ _ (fun j hj => by rw [ih, if_neg (by omega)])
    by_cases h2 : 4 * n ≤ j ∧ j < 4 * n + 4
    · rw [if_pos h2, if_pos (by omega), hA, ih, if_neg (by omega), show 4 * (j / 4) = 4 * n from by omega]
      congr 1
      unfold nextV
      by_cases h4 : j + 1 < 4 * n + 4
      · rw [if_pos h4, if_pos h4, ih, if_neg (by omega)]
      · rw [if_neg h4, if_neg h4, ih, if_neg (by omega)]
    · rw [if_neg h2, ih]
      by_cases h3 : j < 4 * n
      · rw [if_pos h3, if_pos (by omega)]
      · rw [if_neg h3, if_neg (by omega)]
def fS (box b : List Int) (i : Nat) : Int := box.getD (b.getD (4 * ((i / 4 + i % 4) % 4) + i % 4) 0).toNat 0
def at4 (s : List Int) (i d : Nat) : Int := s.getD (4 * (i / 4) + (i % 4 + d) % 4) 0
def fM (s : List Int) (i : Nat) : Int := Go.bits .xor .u8 (Go.bits .xor .u8 (Go.bits .xor .u8 (twiceF (at4 s i 0)) (Go.bits .xor .u8 (twiceF (at4 s i 1)) (at4 s i 1))) (at4 s i 2)) (at4 s i 3)
def fA (all b : List Int) (r i : Nat) : Int := Go.bits .xor .u8 (b.getD i 0) (all.getD (16 * r + i) 0)
def mapR (f : Nat → Int) : List Int := (List.range 16).map f
theorem mapR_length (f : Nat → Int) : (mapR f).length = 16 := by simp [mapR]
theorem mapR_at (f : Nat → Int) (j : Nat) (h : j < 16) : (mapR f).getD j 0 = f j := range_getD f 16 j h
theorem add_map (all : List Int) (r : Nat) (xs : List Int) (h : xs.length = 16) : addN all r xs 16 = mapR (fA all xs r) :=
  ext_getD _ _ 16 (by rw [addN_length, h]) (mapR_length _) (fun j hj => by rw [addN_at _ _ _ _ 16 (by omega), if_pos hj, mapR_at _ _ hj]; rfl)
theorem sub_map (box xs : List Int) (h : xs.length = 16) : subN box xs 16 = mapR (fS box xs) :=
  ext_getD _ _ 16 (by rw [subN_length, h]) (mapR_length _) (fun j hj => by
    rw [subN_at _ _ _ 16 (by omega), if_pos hj, mapR_at _ _ hj]
    unfold subV fS
    rw [show (j + j % 4 * 4) % 16 = 4 * ((j / 4 + j % 4) % 4) + j % 4 from by omega])
theorem mix_map (xs : List Int) (h : xs.length = 16) (hb : Bytes xs) : mixAll xs 4 = mapR (fM xs) :=
  ext_getD _ _ 16 (by rw [mixAll_length, h]) (mapR_length _) (fun j hj => by
    rw [mixAll_at _ h _ 4 (by omega), if_pos (by omega), mapR_at _ _ hj]
    have B := fun i => (byte_at hb i : Byte (xs.getD i 0))
    unfold fM at4 nextV mixA
    obtain ⟨c, n, hn, rfl⟩ : ∃ c n, n < 4 ∧ j = 4 * c + n := ⟨j / 4, j % 4, by omega, by omega⟩
    rw [show 4 * ((4 * c + n) / 4) = 4 * c from by omega, show (4 * c + n) % 4 = n from by omega]
    match n, hn with
    | 0, _ =>
      rw [if_pos (by omega)]
      exact mix_eq _ _ _ _ (B _) (B _) (B _) (B _) _ rfl
    | 1, _ =>
      rw [if_pos (by omega)]
      exact mix_eq _ _ _ _ (B _) (B _) (B _) (B _) _ (mixA_turn _ _ _ _ (B _) (B _) (B _) (B _))
    | 2, _ =>
      rw [if_pos (by omega)]
      exact mix_eq _ _ _ _ (B _) (B _) (B _) (B _) _ ((mixA_turn _ _ _ _ (B _) (B _) (B _) (B _)).trans (mixA_turn _ _ _ _ (B _) (B _) (B _) (B _)))
    | 3, _ =>
      rw [if_neg (by omega)]
      exact mix_eq _ _ _ _ (B _) (B _) (B _) (B _) _ (((mixA_turn _ _ _ _ (B _) (B _) (B _) (B _)).trans (mixA_turn _ _ _ _ (B _) (B _) (B _) (B _))).trans (mixA_turn _ _ _ _ (B _) (B _) (B _) (B _))))
end Go.Proofs.Ytljmjeaocojnmaa.HAa
end
section
set_option linter.unusedVariables false
set_option linter.unusedSimpArgs false
namespace Go.Proofs.Ytljmjeaocojnmaa.HAa
open Go.RowKit Go.Proofs.YtljmjeaocojnmaaW.PrintWords Go.Proofs.Ytljmjeaocojnmaa.Kit Go.Proofs.Ytljmjeaocojnmaa.Ra
theorem mul_two (x : Int) (h : Byte x) (d : Nat) : padlockref03_Mul.f (10 + d) x 2 = some (twiceF x) := by
  obtain ⟨x, rfl⟩ := Int.eq_ofNat_of_zero_le h.1
  have h0 := (mul_fin ⟨x, by have := h.2; omega⟩).1
  induction d with
  | zero => exact h0
  | succ d ih => exact padlockref03_Mul.mono _ _ _ _ ih
theorem mul_three (x : Int) (h : Byte x) (d : Nat) : padlockref03_Mul.f (10 + d) x 3 = some (Go.bits .xor .u8 (twiceF x) x) := by
  obtain ⟨x, rfl⟩ := Int.eq_ofNat_of_zero_le h.1
  have h0 := (mul_fin ⟨x, by have := h.2; omega⟩).2
  induction d with
  | zero => exact h0
  | succ d ih => exact padlockref03_Mul.mono _ _ _ _ ih
theorem rd_at (l : List Int) (j : Nat) : rd l (j : Int) = l.getD j 0 := rfl
structure WordsOf (KS : List Int) (W : List (List Int)) : Prop where
  len : W.length = 44
  get : ∀ j, j < 44 → W.getD j [] = four KS (4 * j)
theorem four_at (xs : List Int) (o n : Nat) (h : n < 4) : (four xs o).getD n 0 = xs.getD (o + n) 0 := by
  match n, h with
  | 0, _ => rfl
  | 1, _ => rfl
  | 2, _ => rfl
  | 3, _ => rfl
theorem add_step (KS : List Int) (W : List (List Int)) (hW : WordsOf KS W) (b acc : List Int) (hb : b.length = 16) (r i k : Nat) (hr : r ≤ 10) (hi : i < 16) (ha : acc.length ≤ 16) :
    padlockref03_add.l0 (k + 1) b W r acc i = padlockref03_add.l0 k b W r (acc ++ [fA KS b r i]) ((i + 1 : Nat) : Int) := by
  have e1 : wrap64 (wrap64 (4 * (r : Int)) + wrap64 (Int.tdiv (i : Int) 4)) = ((4 * r + i / 4 : Nat) : Int) := by
    rw [Int.tdiv_eq_ediv_of_nonneg (by omega)]
    unfold wrap64
    omega
  have e2 : Int.tmod (i : Int) 4 = ((i % 4 : Nat) : Int) := by rw [Int.tmod_eq_emod_of_nonneg (by omega)]; omega
  have e3 : wrap64 ((i : Int) + 1) = ((i + 1 : Nat) : Int) := by unfold wrap64; omega
  have e4 : rd_L1 W ((4 * r + i / 4 : Nat) : Int) = four KS (4 * (4 * r + i / 4)) := hW.get _ (by omega)
  simp only [padlockref03_add.l0, e1, e2, e3]
  rw [e4, if_pos (by omega), if_pos (by omega), if_pos (by omega), if_pos (by omega), if_pos (by rw [hW.len]; omega), if_pos (by omega), if_pos (by simp [four]; omega), if_pos (by omega)]
  unfold fA
  rw [rd_at, rd_at, four_at _ _ _ (by omega), show 4 * (4 * r + i / 4) + i % 4 = 16 * r + i from by omega]
theorem add_loop (KS : List Int) (W : List (List Int)) (hW : WordsOf KS W) (b : List Int) (hb : b.length = 16) (r : Nat) (hr : r ≤ 10) : ∀ d i k, i + d = 16 →
    padlockref03_add.l0 (k + d + 1) b W r ((List.range i).map (fA KS b r)) i = some (mapR (fA KS b r))
  | 0, i, k, h => by
    have : i = 16 := by omega
    subst this
    show padlockref03_add.l0 (k + 1) b W r _ _ = _
    simp only [padlockref03_add.l0]
    rw [if_neg (by omega)]
    rfl
  | d + 1, i, k, h => by
    rw [show k + (d + 1) + 1 = (k + d + 1) + 1 from by omega, add_step KS W hW b _ hb r i _ hr (by omega) (by simp; omega)]
    have := add_loop KS W hW b hb r hr d (i + 1) k (by omega)
    rw [List.range_succ, List.map_append] at this
    exact this
theorem add_tells (KS : List Int) (W : List (List Int)) (hW : WordsOf KS W) (b : List Int) (hb : b.length = 16) (r : Nat) (hr : r ≤ 10) (k : Nat) : padlockref03_add.f (k + 17) b W r = some (addN KS r b 16) := by
  rw [add_map _ _ _ hb]
  exact add_loop KS W hW b hb r hr 16 0 k (by omega)
def bld (f : Nat → Int) (j : Nat) : List Int := (List.range j).map f ++ List.replicate (16 - j) 0
theorem bld_length (f : Nat → Int) (j : Nat) (h : j ≤ 16) : (bld f j).length = 16 := by simp [bld]; omega
theorem bld_set (f : Nat → Int) (j : Nat) (h : j < 16) : (bld f j).set j (f j) = bld f (j + 1) := by
  unfold bld
  rw [show List.replicate (16 - j) (0 : Int) = 0 :: List.replicate (16 - (j + 1)) 0 from by rw [show 16 - j = (16 - (j + 1)) + 1 from by omega, List.replicate_succ], List.set_append_right _ _ (by simp)]
  simp [List.range_succ]
theorem bld_end (f : Nat → Int) : bld f 16 = mapR f := by simp [bld, mapR]
theorem ix0 (c n : Nat) (hc : c < 4) (hn : n < 4) : wrap64 (wrap64 (4 * (c : Int)) + (n : Int)) = ((4 * c + n : Nat) : Int) := by unfold wrap64; omega
theorem ix1 (c n : Nat) (hc : c < 4) (hn : n < 4) : wrap64 (wrap64 (4 * (Int.tmod (wrap64 ((c : Int) + (n : Int))) 4)) + (n : Int)) = ((4 * ((c + n) % 4) + n : Nat) : Int) := by
  rw [show wrap64 ((c : Int) + (n : Int)) = ((c + n : Nat) : Int) from by unfold wrap64; omega, Int.tmod_eq_emod_of_nonneg (by omega)]
  unfold wrap64
  omega
theorem ixd (c n d : Nat) (hc : c < 4) (hn : n < 4) (hd : d < 4) : wrap64 (wrap64 (4 * (c : Int)) + Int.tmod (wrap64 ((n : Int) + (d : Int))) 4) = ((4 * c + (n + d) % 4 : Nat) : Int) := by
  rw [show wrap64 ((n : Int) + (d : Int)) = ((n + d : Nat) : Int) from by unfold wrap64; omega, Int.tmod_eq_emod_of_nonneg (by omega)]
  unfold wrap64
  omega
theorem nx (c : Nat) (hc : c < 100) : wrap64 ((c : Int) + 1) = ((c + 1 : Nat) : Int) := by unfold wrap64; omega
theorem sub_step (W : List (List Int)) (box b x9 : List Int) (r : Int) (c n k : Nat) (hc : c < 4) (hn : n < 4) (h256 : box.length = 256) (hb : b.length = 16) (hby : Bytes b) :
    padlockref03_Turned.l2 (k + 1) W box b r (bld (fS box b) (4 * c + n)) c n = padlockref03_Turned.l2 k W box b r (bld (fS box b) (4 * c + (n + 1))) c ((n + 1 : Nat) : Int) := by
  have B := byte_at hby (4 * ((c + n) % 4) + n)
  simp only [padlockref03_Turned.l2, ix0 c n hc hn, ix1 c n hc hn, nx n (by omega), rd_at]
  rw [if_pos (by omega), if_pos (by omega), if_pos (by rw [hb]; omega), if_pos (by omega), if_pos (by rw [h256]; omega), if_pos (by omega), if_pos (by rw [bld_length _ _ (by omega)]; omega)]
  rw [Int.toNat_natCast, show 4 * c + (n + 1) = 4 * c + n + 1 from by omega, ← bld_set _ _ (by omega)]
  congr 1
  congr 1
  unfold fS
  rw [show (4 * c + n) / 4 = c from by omega, show (4 * c + n) % 4 = n from by omega]
  rfl
theorem sub_col (W : List (List Int)) (box b : List Int) (r : Int) (c k : Nat) (hc : c < 4) (h256 : box.length = 256) (hb : b.length = 16) (hby : Bytes b) :
    padlockref03_Turned.l1 (k + 6) W box b r (bld (fS box b) (4 * c)) c = padlockref03_Turned.l1 k W box b r (bld (fS box b) (4 * (c + 1))) ((c + 1 : Nat) : Int) := by
  have s0 := sub_step W box b [] r c 0 (k + 4) hc (by omega) h256 hb hby
  have s1 := sub_step W box b [] r c 1 (k + 3) hc (by omega) h256 hb hby
  have s2 := sub_step W box b [] r c 2 (k + 2) hc (by omega) h256 hb hby
  have s3 := sub_step W box b [] r c 3 (k + 1) hc (by omega) h256 hb hby
  have e : padlockref03_Turned.l1 (k + 6) W box b r (bld (fS box b) (4 * c)) c = padlockref03_Turned.l2 (k + 5) W box b r (bld (fS box b) (4 * c)) c 0 := by
    generalize hK : k + 5 = K
    rw [show k + 6 = K + 1 from by omega]
    simp only [padlockref03_Turned.l1]
    rw [if_pos (by omega)]
  have e2 : padlockref03_Turned.l2 (k + 1) W box b r (bld (fS box b) (4 * c + 4)) c ((4 : Nat) : Int) = padlockref03_Turned.l1 k W box b r (bld (fS box b) (4 * (c + 1))) ((c + 1 : Nat) : Int) := by
    simp only [padlockref03_Turned.l2]
    rw [if_neg (by omega), nx c (by omega), show 4 * (c + 1) = 4 * c + 4 from by omega]
  rw [e]
  exact s0.trans (s1.trans (s2.trans (s3.trans e2)))
theorem mix_step (W : List (List Int)) (box s : List Int) (r : Int) (c n k : Nat) (hc : c < 4) (hn : n < 4) (hs : s.length = 16) (hby : Bytes s) :
    padlockref03_Turned.l4 (k + 10 + 1) W box (bld (fM s) (4 * c + n)) r s c n = padlockref03_Turned.l4 (k + 10) W box (bld (fM s) (4 * c + (n + 1))) r s c ((n + 1 : Nat) : Int) := by
  generalize hK : k + 10 = K
  have i1 := ixd c n 1 hc hn (by omega)
  have i2 := ixd c n 2 hc hn (by omega)
  have i3 := ixd c n 3 hc hn (by omega)
  rw [show (((1 : Nat) : Int)) = 1 from rfl] at i1
  rw [show (((2 : Nat) : Int)) = 2 from rfl] at i2
  rw [show (((3 : Nat) : Int)) = 3 from rfl] at i3
  have m2 := mul_two (s.getD (4 * c + n) 0) (byte_at hby _) k
  have m3 := mul_three (s.getD (4 * c + (n + 1) % 4) 0) (byte_at hby _) k
  rw [show 10 + k = K from by omega] at m2 m3
  simp only [padlockref03_Turned.l4, ix0 c n hc hn, i1, i2, i3, rd_at, m2, m3, Option.bind_some]
  rw [if_pos (by omega), if_pos (by omega), if_pos (by rw [hs]; omega), if_pos (by omega), if_pos (by rw [hs]; omega), if_pos (by omega), if_pos (by rw [hs]; omega), if_pos (by omega), if_pos (by rw [hs]; omega), if_pos (by rw [bld_length _ _ (by omega)]; omega)]
  rw [nx n (by omega), Int.toNat_natCast, show 4 * c + (n + 1) = 4 * c + n + 1 from by omega, ← bld_set _ _ (by omega)]
  congr 1
  congr 1
  unfold fM at4
  rw [show (4 * c + n) / 4 = c from by omega, show (4 * c + n) % 4 = n from by omega, show (n + 0) % 4 = n from by omega]
theorem mix_col (W : List (List Int)) (box s : List Int) (r : Int) (c k : Nat) (hc : c < 4) (hs : s.length = 16) (hby : Bytes s) :
    padlockref03_Turned.l3 (k + 10 + 6) W box (bld (fM s) (4 * c)) r s c = padlockref03_Turned.l3 (k + 10) W box (bld (fM s) (4 * (c + 1))) r s ((c + 1 : Nat) : Int) := by
  have s0 := mix_step W box s r c 0 (k + 4) hc (by omega) hs hby
  have s1 := mix_step W box s r c 1 (k + 3) hc (by omega) hs hby
  have s2 := mix_step W box s r c 2 (k + 2) hc (by omega) hs hby
  have s3 := mix_step W box s r c 3 (k + 1) hc (by omega) hs hby
  rw [show k + 4 + 10 + 1 = k + 10 + 5 from by omega, show k + 4 + 10 = k + 10 + 4 from by omega] at s0
  rw [show k + 3 + 10 + 1 = k + 10 + 4 from by omega, show k + 3 + 10 = k + 10 + 3 from by omega] at s1
  rw [show k + 2 + 10 + 1 = k + 10 + 3 from by omega, show k + 2 + 10 = k + 10 + 2 from by omega] at s2
  rw [show k + 1 + 10 + 1 = k + 10 + 2 from by omega, show k + 1 + 10 = k + 10 + 1 from by omega] at s3
  have e : padlockref03_Turned.l3 (k + 10 + 6) W box (bld (fM s) (4 * c)) r s c = padlockref03_Turned.l4 (k + 10 + 5) W box (bld (fM s) (4 * c)) r s c 0 := by
    generalize hK : k + 10 + 5 = K
    rw [show k + 10 + 6 = K + 1 from by omega]
    simp only [padlockref03_Turned.l3]
    rw [if_pos (by omega)]
  have e2 : padlockref03_Turned.l4 (k + 10 + 1) W box (bld (fM s) (4 * c + 4)) r s c ((4 : Nat) : Int) = padlockref03_Turned.l3 (k + 10) W box (bld (fM s) (4 * (c + 1))) r s ((c + 1 : Nat) : Int) := by
    generalize hK : k + 10 = K
    simp only [padlockref03_Turned.l4]
    rw [if_neg (by omega), nx c (by omega), show 4 * (c + 1) = 4 * c + 4 from by omega]
  rw [e]
  exact s0.trans (s1.trans (s2.trans (s3.trans e2)))
theorem sub_all (W : List (List Int)) (box b : List Int) (r : Int) (k : Nat) (h256 : box.length = 256) (hb : b.length = 16) (hby : Bytes b) :
    padlockref03_Turned.l1 (k + 24) W box b r (List.replicate 16 0) 0 = padlockref03_Turned.l1 k W box b r (subN box b 16) 4 := by
  have s0 := sub_col W box b r 0 (k + 18) (by omega) h256 hb hby
  have s1 := sub_col W box b r 1 (k + 12) (by omega) h256 hb hby
  have s2 := sub_col W box b r 2 (k + 6) (by omega) h256 hb hby
  have s3 := sub_col W box b r 3 k (by omega) h256 hb hby
  rw [sub_map _ _ hb, ← bld_end]
  exact s0.trans (s1.trans (s2.trans s3))
theorem mix_all (W : List (List Int)) (box s : List Int) (r : Int) (k : Nat) (hs : s.length = 16) (hby : Bytes s) :
    padlockref03_Turned.l3 (k + 10 + 24) W box (List.replicate 16 0) r s 0 = padlockref03_Turned.l3 (k + 10) W box (mixAll s 4) r s 4 := by
  have s0 := mix_col W box s r 0 (k + 18) (by omega) hs hby
  have s1 := mix_col W box s r 1 (k + 12) (by omega) hs hby
  have s2 := mix_col W box s r 2 (k + 6) (by omega) hs hby
  have s3 := mix_col W box s r 3 k (by omega) hs hby
  rw [mix_map _ hs hby, ← bld_end]
  rw [show k + 18 + 10 + 6 = k + 10 + 24 from by omega, show k + 18 + 10 = k + 10 + 18 from by omega] at s0
  rw [show k + 12 + 10 + 6 = k + 10 + 18 from by omega, show k + 12 + 10 = k + 10 + 12 from by omega] at s1
  rw [show k + 6 + 10 + 6 = k + 10 + 12 from by omega, show k + 6 + 10 = k + 10 + 6 from by omega] at s2
  exact s0.trans (s1.trans (s2.trans s3))
theorem round_step (KS : List Int) (W : List (List Int)) (hW : WordsOf KS W) (box b : List Int) (r k : Nat) (hr : 1 ≤ r ∧ r ≤ 10) (h256 : box.length = 256) (hB : Bytes box) (hb : b.length = 16) (hby : Bytes b) :
    ∃ d, d ≤ 51 ∧ padlockref03_Turned.l0 (k + 30 + d) W box b r = padlockref03_Turned.l0 (k + 30) W box (roundF KS box b r) ((r + 1 : Nat) : Int) := by
  have hsl : (subN box b 16).length = 16 := by rw [subN_length, hb]
  have hsb : Bytes (subN box b 16) := subN_b _ _ hB hby _
  by_cases h10 : r < 10
  · refine ⟨51, by omega, ?_⟩
    have e0 : padlockref03_Turned.l0 (k + 30 + 51) W box b r = padlockref03_Turned.l1 (k + 56 + 24) W box b r (List.replicate 16 0) 0 := by
      generalize hK : k + 56 + 24 = K
      rw [show k + 30 + 51 = K + 1 from by omega]
      simp only [padlockref03_Turned.l0]
      rw [if_pos (by omega), if_pos (by decide)]
    have e1 : padlockref03_Turned.l1 (k + 56) W box b r (subN box b 16) 4 = padlockref03_Turned.l3 (k + 21 + 10 + 24) W box (List.replicate 16 0) r (subN box b 16) 0 := by
      generalize hK : k + 21 + 10 + 24 = K
      rw [show k + 56 = K + 1 from by omega]
      simp only [padlockref03_Turned.l1]
      rw [if_neg (by omega), if_pos (by omega), if_pos (by decide)]
    have e2 : padlockref03_Turned.l3 (k + 21 + 10) W box (mixAll (subN box b 16) 4) r (subN box b 16) 4 = padlockref03_Turned.l0 (k + 30) W box (roundF KS box b r) ((r + 1 : Nat) : Int) := by
      have ha := add_tells KS W hW (mixAll (subN box b 16) 4) (by rw [mixAll_length, hsl]) r (by omega) (k + 13)
      rw [show k + 13 + 17 = k + 30 from by omega] at ha
      generalize hK : k + 30 = K at *
      rw [show k + 21 + 10 = K + 1 from by omega]
      simp only [padlockref03_Turned.l3]
      rw [if_neg (by omega), ha, nx r (by omega)]
      simp only [Option.bind_some]
      unfold roundF
      rw [if_pos h10]
    rw [e0, sub_all W box b r (k + 56) h256 hb hby, e1, mix_all W box _ r (k + 21) hsl hsb, e2]
  · refine ⟨26, by omega, ?_⟩
    have e0 : padlockref03_Turned.l0 (k + 30 + 26) W box b r = padlockref03_Turned.l1 (k + 31 + 24) W box b r (List.replicate 16 0) 0 := by
      generalize hK : k + 31 + 24 = K
      rw [show k + 30 + 26 = K + 1 from by omega]
      simp only [padlockref03_Turned.l0]
      rw [if_pos (by omega), if_pos (by decide)]
    have e2 : padlockref03_Turned.l1 (k + 31) W box b r (subN box b 16) 4 = padlockref03_Turned.l0 (k + 30) W box (roundF KS box b r) ((r + 1 : Nat) : Int) := by
      have ha := add_tells KS W hW (subN box b 16) hsl r (by omega) (k + 13)
      rw [show k + 13 + 17 = k + 30 from by omega] at ha
      generalize hK : k + 30 = K at *
      rw [show k + 31 = K + 1 from by omega]
      simp only [padlockref03_Turned.l1]
      rw [if_neg (by omega), if_neg (by omega), ha, nx r (by omega)]
      simp only [Option.bind_some]
      unfold roundF
      rw [if_neg h10]
    rw [e0, sub_all W box b r (k + 31) h256 hb hby, e2]
theorem l0_more (W : List (List Int)) (box b r : List Int) (i : Int) (K : Nat) (h : padlockref03_Turned.l0 K W box b i = some r) : ∀ d, padlockref03_Turned.l0 (K + d) W box b i = some r
  | 0 => h
  | d + 1 => (padlockref03_Turned.mono_l (K + d)).1 _ _ _ _ _ (l0_more W box b r i K h d)
theorem rounds_tell (KS : List Int) (W : List (List Int)) (hW : WordsOf KS W) (hKS : Bytes KS) (box block : List Int) (h256 : box.length = 256) (hB : Bytes box) (hb : block.length = 16) (hby : Bytes block) : ∀ d n, n + d = 10 →
    ∃ K, padlockref03_Turned.l0 K W box (encN KS box block n) ((n + 1 : Nat) : Int) = some (encN KS box block 10)
  | 0, n, h => ⟨1, by
    have : n = 10 := by omega
    subst this
    simp only [padlockref03_Turned.l0]
    rw [if_neg (by omega)]⟩
  | d + 1, n, h => by
    obtain ⟨K, ih⟩ := rounds_tell KS W hW hKS box block h256 hB hb hby d (n + 1) (by omega)
    obtain ⟨e, _, hs⟩ := round_step KS W hW box (encN KS box block n) (n + 1) K (by omega) h256 hB (by rw [encN_length, hb]) (encN_b KS box block hKS hB hby n)
    refine ⟨K + 30 + e, hs.trans ?_⟩
    have h2 := l0_more W box _ _ _ K ih 30
    rw [encN] at h2
    exact h2
theorem turned_tells (KS : List Int) (W : List (List Int)) (hW : WordsOf KS W) (hKS : Bytes KS) (box block : List Int) (h256 : box.length = 256) (hB : Bytes box) (hb : block.length = 16) (hby : Bytes block) :
    ∃ K, padlockref03_Turned.f K W block box = some (encN KS box block 10) := by
  obtain ⟨K, h⟩ := rounds_tell KS W hW hKS box block h256 hB hb hby 10 0 (by omega)
  have ha := add_tells KS W hW block hb 0 (by omega) K
  refine ⟨K + 17, ?_⟩
  unfold padlockref03_Turned.f
  rw [show ((0 : Int)) = ((0 : Nat) : Int) from rfl, ha]
  simp only [Option.bind_some]
  exact l0_more W box _ _ _ K h 17
theorem swap_more (x r : Int) (K : Nat) (h : padlockref03_Swap.f K x = some r) : ∀ d, padlockref03_Swap.f (K + d) x = some r
  | 0 => h
  | d + 1 => padlockref03_Swap.mono _ _ _ (swap_more x r K h d)
theorem box_loop : ∀ d i k, i + d = 256 → padlockref03_Box.l0 (300 + k + d + 1) ((List.range i).map fun j => boxT.getD j 0) i = some ((List.range 256).map fun j => boxT.getD j 0)
  | 0, i, k, h => by
    have : i = 256 := by omega
    subst this
    show padlockref03_Box.l0 (300 + k + 1) _ _ = _
    generalize 300 + k = K
    simp only [padlockref03_Box.l0]
    rw [if_neg (by omega)]
  | d + 1, i, k, h => by
    have hs := swap_more _ _ _ (swap_all i (by omega)) (k + d + 1)
    have ih := box_loop d (i + 1) k (by omega)
    rw [show 300 + (k + d + 1) = 300 + k + d + 1 from by omega] at hs
    rw [show 300 + k + (d + 1) + 1 = 300 + k + d + 1 + 1 from by omega]
    generalize 300 + k + d + 1 = K at *
    simp only [padlockref03_Box.l0]
    rw [if_pos (by omega), show (i : Int) % 256 = (i : Int) from by omega, hs]
    simp only [Option.bind_some]
    rw [if_pos (by simp; omega), show wrap64 ((i : Int) + 1) = ((i + 1 : Nat) : Int) from by unfold wrap64; omega, ← ih, List.range_succ, List.map_append]
    rfl
theorem boxT_length : boxT.length = 256 := by decide +kernel
theorem box_tells : padlockref03_Box.f 557 = some boxT := by
  have h := box_loop 256 0 0 (by omega)
  have e : ((List.range 256).map fun j => boxT.getD j 0) = boxT := ext_getD _ _ 256 (by simp) boxT_length (fun j hj => range_getD _ _ _ hj)
  rw [e] at h
  exact h
end Go.Proofs.Ytljmjeaocojnmaa.HAa
end
section
set_option linter.unusedVariables false
set_option linter.unusedSimpArgs false
namespace Go.Proofs.Ytljmjeaocojnmaa.HAa
open Go.RowKit Go.Proofs.YtljmjeaocojnmaaW.PrintWords Go.Proofs.Ytljmjeaocojnmaa.Kit
theorem kI_at (t o : List Int) (i j : Nat) (hi : 16 ≤ 4 * i) (ho : 4 * i + 4 ≤ o.length) : ∀ k, k ≤ 4 → (kI t o i k).getD j 0 = if 4 * i ≤ j ∧ j < 4 * i + k then Go.bits .xor .u8 (o.getD (j - 16) 0) (t.getD (j - 4 * i) 0) else o.getD j 0
  | 0, _ => by rw [if_neg (by omega), kI]
  | k + 1, h => by
    rw [kI, gset _ _ _ _ (by rw [kI_length]; omega)]
    by_cases hj : j = 4 * i + k
    · rw [if_pos hj, if_pos (by omega)]
      have := kI_at t o i (4 * i - 16 + k) hi ho k (by omega)
      rw [this, if_neg (by omega), show 4 * i - 16 + k = j - 16 from by omega, show j - 4 * i = k from by omega]
    · rw [if_neg hj, kI_at t o i j hi ho k (by omega)]
      by_cases h2 : 4 * i ≤ j ∧ j < 4 * i + k
      · rw [if_pos h2, if_pos (by omega)]
      · rw [if_neg h2, if_neg (by omega)]
theorem keyN_keep (key box : List Int) (h16 : key.length = 16) (n j : Nat) (hn : n < 40) (hj : j < 16 + 4 * n) : (keyN key box (n + 1)).getD j 0 = (keyN key box n).getD j 0 := by
  rw [keyN, kI_at _ _ _ _ (by omega) (by rw [keyN_length _ _ h16]; omega) 4 (by omega), if_neg (by omega)]
theorem keyN_same (key box : List Int) (h16 : key.length = 16) (n j : Nat) (hj : j < 16 + 4 * n) : ∀ d, n + d ≤ 40 → (keyN key box (n + d)).getD j 0 = (keyN key box n).getD j 0
  | 0, _ => rfl
  | d + 1, h => (keyN_keep key box h16 (n + d) j (by omega) (by omega)).trans (keyN_same key box h16 n j hj d (by omega))
theorem KS_at (key box : List Int) (h16 : key.length = 16) (n j : Nat) (hn : n ≤ 40) (hj : j < 16 + 4 * n) : (keyN key box 40).getD j 0 = (keyN key box n).getD j 0 := by
  have := keyN_same key box h16 n j hj (40 - n) (by omega)
  rwa [show n + (40 - n) = 40 from by omega] at this
theorem kT_same (box a b : List Int) (i : Nat) (con : Int) (h : ∀ j, j < 4 * i → a.getD j 0 = b.getD j 0) (hi : 4 ≤ i) : kT box a i con = kT box b i con := by
  unfold kT four
  rw [h (4 * i - 4) (by omega), h (4 * i - 4 + 1) (by omega), h (4 * i - 4 + 2) (by omega), h (4 * i - 4 + 3) (by omega)]
theorem KS_word (key box : List Int) (h16 : key.length = 16) (i k : Nat) (hi : 4 ≤ i) (h44 : i < 44) (hk : k < 4) :
    (keyN key box 40).getD (4 * i + k) 0 = Go.bits .xor .u8 ((keyN key box 40).getD (4 * (i - 4) + k) 0) ((kT box (keyN key box 40) i (conN ((i - 1) / 4))).getD k 0) := by
  obtain ⟨n, rfl⟩ : ∃ n, i = n + 4 := ⟨i - 4, by omega⟩
  rw [KS_at key box h16 (n + 1) _ (by omega) (by omega), keyN, kI_at _ _ _ _ (by omega) (by rw [keyN_length _ _ h16]; omega) 4 (by omega), if_pos (by omega)]
  rw [show 4 * (n + 4) + k - 16 = 4 * (n + 4 - 4) + k from by omega, show 4 * (n + 4) + k - 4 * (n + 4) = k from by omega, KS_at key box h16 n (4 * (n + 4 - 4) + k) (by omega) (by omega), show (n + 4 - 1) / 4 = (n + 3) / 4 from by omega]
  rw [kT_same box (keyN key box 40) (keyN key box n) (n + 4) _ (fun j hj => KS_at key box h16 n j (by omega) (by omega)) (by omega)]
theorem KS_key (key box : List Int) (h16 : key.length = 16) (i : Nat) (hi : i < 4) : four (keyN key box 40) (4 * i) = (key.drop (4 * i)).take 4 := by
  rw [four_eq _ _ (by omega)]
  have e : ∀ j, j < 16 → (keyN key box 40).getD j 0 = key.getD j 0 := fun j hj => by
    rw [KS_at key box h16 0 j (by omega) (by omega), keyN]
    simp only [List.getD_eq_getElem?_getD]
    rw [List.getElem?_append_left (by omega)]
  unfold four
  rw [e _ (by omega), e _ (by omega), e _ (by omega), e _ (by omega)]
def Wl (KS : List Int) (i : Nat) : List (List Int) := (List.range i).map fun j => four KS (4 * j)
theorem Wl_length (KS : List Int) (i : Nat) : (Wl KS i).length = i := by simp [Wl]
theorem Wl_succ (KS : List Int) (i : Nat) : Wl KS (i + 1) = Wl KS i ++ [four KS (4 * i)] := by
  unfold Wl
  rw [List.range_succ, List.map_append]
  rfl
theorem Wl_at (KS : List Int) (i j : Nat) (h : j < i) : (Wl KS i).getD j [] = four KS (4 * j) := by simp [Wl, List.getD_eq_getElem?_getD, h]
theorem Wl_words (KS : List Int) : WordsOf KS (Wl KS 44) := ⟨Wl_length _ _, fun j hj => Wl_at _ _ _ hj⟩
def Xl (KS : List Int) (i k : Nat) : List Int := (List.range k).map fun j => KS.getD (4 * i + j) 0
theorem Xl_length (KS : List Int) (i k : Nat) : (Xl KS i k).length = k := by simp [Xl]
theorem Xl_succ (KS : List Int) (i k : Nat) : Xl KS i (k + 1) = Xl KS i k ++ [KS.getD (4 * i + k) 0] := by
  unfold Xl
  rw [List.range_succ, List.map_append]
  rfl
theorem Xl_four (KS : List Int) (i : Nat) : Xl KS i 4 = four KS (4 * i) := rfl
end Go.Proofs.Ytljmjeaocojnmaa.HAa
end
section
set_option linter.unusedVariables false
set_option linter.unusedSimpArgs false
namespace Go.Proofs.Ytljmjeaocojnmaa.HAa
open Go.RowKit Go.Proofs.YtljmjeaocojnmaaW.PrintWords Go.Proofs.YtljmjeaocojnmaaW.PrintLast Go.Proofs.YtljmjeaocojnmaaW.PrintMore Go.Proofs.Ytljmjeaocojnmaa.Kit Go.Proofs.Ytljmjeaocojnmaa.Ra
attribute [local go_sem ↓] Go.wp_at_zero Go.wp_at_succ
theorem info_sl : (Try.prog.info? 22).map (fun i => (i.zero, i.size, i.bytes)) = some (some (.slice none 0 0), 1, 24) := by kernel_rfl
def RowsOut (w : World) (e : Ending) (w' : World) (W : List (List Int)) : Prop :=
  ∃ A c, e = .returned (.slice A W.length c) ∧ W.length ≤ c ∧ Kd.C (Kd.slice 5 (Kd.int .u8)) w' A W.length W ∧ Below w.heap.size w w'
attribute [local irreducible] keyN kI kT conN four Wl Xl
set_option maxHeartbeats 2000000 in
set_option maxRecDepth 100000 in
theorem words_any (gk ok0 ck : Nat) (Tk : TypeId) (A1 : Option Addr) (c1 : Nat) (key box : List Int) (w : World) (h16 : key.length = 16) (h256 : box.length = 256) (hkb : Bytes key) (hbb : Bytes box)
    (hk : Kd.C (Kd.int .u8) w (some ⟨gk, ok0, none⟩) 16 key) (hck : 16 ≤ ck) (hkt : ∃ cells, w.heap[gk]? = some (.cells cells Tk (0, 0))) (hb : Kd.C (Kd.int .u8) w A1 256 box) (hc1 : 256 ≤ c1) :
    Calls Try.prog 66 #[.slice (some ⟨gk, ok0, none⟩) 16 ck, .slice A1 256 c1] w (fun e w' => RowsOut w e w' (Wl (keyN key box 40) 44)) := by
  obtain ⟨KS, hKS⟩ : ∃ K, K = keyN key box 40 := ⟨_, rfl⟩
  have HW : Hid (∀ i k, 4 ≤ i → i < 44 → k < 4 → KS.getD (4 * i + k) 0 = Go.bits .xor .u8 (KS.getD (4 * (i - 4) + k) 0) ((kT box KS i (conN ((i - 1) / 4))).getD k 0)) := Lib.hid (fun i k a b c => by rw [hKS]; exact KS_word key box h16 i k a b c)
  have HKY : Hid (∀ i, i < 4 → four KS (4 * i) = (key.drop (4 * i)).take 4) := Lib.hid (fun i hi => by rw [hKS]; exact KS_key key box h16 i hi)
  have HKB : Hid (Bytes KS) := Lib.hid (by rw [hKS]; exact keyN_b key box hkb hbb 40)
  rw [← hKS]
  clear hKS
  have hgk : gk < w.heap.size := by obtain ⟨_, h⟩ := hkt; exact (Array.getElem?_eq_some_iff.1 h).1
  have HK := Lib.hid hk
  have HT := Lib.hid hkt
  have HBX := Lib.hid hb
  have HL := Lib.hid h256
  have HL16 := Lib.hid h16
  have HXB := Lib.hid hbb
  clear hk hkt hb h256 hbb h16
  go_enter Try.func66, Try.ntmps66
  go_wp2_with fail
  have HR0 : Hid ((viewKd [5, Tk] .u8).R 22 w 0 (fun _ => True) (.slice none 0 0) (Wl KS 0)) := Lib.hid (by unfold Wl; exact Kd.R_nil _ _ _ _ _)
  have HC0 : Hid ((1 : Int) = conN ((0 - 1) / 4)) := Lib.hid (by unfold conN; rfl)
  go_loopw [5, 6, 7] (fun v cv iv wr => ∃ (i : Nat) (A : Option Addr) (c : Nat) (con : Int), v = .slice A i c ∧ cv = .int .u8 con ∧ iv = .int .i64 i ∧ i ≤ 44 ∧ 0 ≤ con ∧ con < 256 ∧ Hid (con = conN ((i - 1) / 4)) ∧ Hid ((viewKd [5, Tk] .u8).R 22 wr 0 (fun _ => True) (.slice A i c) (Wl KS i)) ∧ Hid (Below w.heap.size w wr) ∧ Hid (∀ k, (Value.slice A i c).ownBlock = some k → w.heap.size ≤ k)) (fun _ _ iv _ => 44 - (intOf iv).toNat)
  case atStart => exact ⟨0, none, 0, 1, rfl, rfl, rfl, by omega, by omega, by omega, HC0, HR0, Lib.hid (Below.refl _ _), Lib.hid (fun k hk => by simp [Value.ownBlock] at hk)⟩
  case round =>
    clear HR0 HC0
    obtain ⟨i, A, c, con, rfl, rfl, rfl, hi, hc0, hc1', hcon, hR, hB, hO⟩ := hrel
    have hB0 : Below 0 w wr := hB.out.mono (Nat.zero_le _)
    have HB0 := Lib.hid hB0
    clear hB0
    by_cases h4 : i < 4
    · have hsl : ∀ W : World, (Instr.slice 22 (.slice (some ⟨gk, ok0, none⟩) 16 ck) (some (.int .i64 (4 * (i : Int)))) (some (.int .i64 (4 * (i : Int) + 4))) none).run Try.prog W = .ok (.slice (some ⟨gk, ok0 + 4 * i, none⟩) 4 (ck - 4 * i)) W := fun W => by
        have h := slice_mid (P := Try.prog) 22 5 Try.underlying22 (by kernel_rfl) gk ok0 16 ck (4 * (i : Int)) (4 * (i : Int) + 4) (4 * i) (4 * i + 4) (by omega) (by omega) (by omega) (by omega) (by omega) W
        rwa [show 4 * i + 4 - 4 * i = 4 from by omega] at h
      have HSL := Lib.hid hsl
      have hP : Seen [5, Tk] .u8 wr 0 (fun k => some k ≠ (Value.slice A i c).ownBlock) (four KS (4 * i)) [.slice (some ⟨gk, ok0 + 4 * i, none⟩) 4 (ck - 4 * i)] := by
        have hl : (four KS (4 * i)).length = 4 := by unfold four; rfl
        have hC : Kd.C (Kd.int .u8) wr (some ⟨gk, ok0 + 4 * i, none⟩) 4 (four KS (4 * i)) := by
          rw [HKY.out i h4]
          have hr := Kd.reads_of_C (enc := Value.int .u8) (d := (0 : Int)) (h1 := fun _ => rfl) (Kd.C_below HK.out hB.out)
          obtain ⟨ad, e, hcell⟩ := hr.2.2 (by omega)
          injection e with e
          subst e
          refine Kd.C_of_reads (d := (0 : Int)) (h1 := fun _ => rfl) ⟨by simp [HL16.out]; omega, by omega, fun _ => ⟨_, rfl, fun j hj => ?_⟩⟩
          have h := hcell (4 * i + j) (by omega)
          rw [show (⟨gk, ok0, none⟩ : Addr).add (4 * i + j) = ⟨gk, ok0 + 4 * i + j, none⟩ from by unfold Addr.add; split <;> simp_all <;> omega] at h
          rw [show (⟨gk, ok0 + 4 * i, none⟩ : Addr).add j = ⟨gk, ok0 + 4 * i + j, none⟩ from by unfold Addr.add; split <;> simp_all, h]
          have e2 : ((key.drop (4 * i)).take 4).getD j 0 = key.getD (4 * i + j) 0 := by simp [List.getD, List.getElem?_take, hj]
          rw [e2]
        refine ⟨⟨gk, ok0 + 4 * i, none⟩, ck - 4 * i, by rw [hl], by rw [hl]; omega, by rw [hl]; exact hC, fun e => ?_, Nat.zero_le _, Nat.lt_of_lt_of_le hgk hB.out.size, Tk, by simp, ?_⟩
        · have := hO.out gk e.symm
          omega
        · obtain ⟨cells, h⟩ := HT.out
          exact ⟨cells, (hB.out.block gk hgk).trans h⟩
      have HP := Lib.hid hP
      clear hP hsl
      have hslI := HSL.out
      go_wp2_with (first
        | ((with_reducible refine gate_builtin (b := .append) (xs := #[.tmp 17, .tmp 25]) rfl ?_); at_builtin; go_loud (refine Kd.R_append (viewKd [5, Tk] .u8) (w0 := w) 0 rfl (.tmp 17) (.tmp 25) 33 22 (.slice none 0 0) 24 rfl Try.underlying33 info_sl rfl Nat.one_pos (by omega) (.slice A i c) (Wl KS i) (four KS (4 * i)) [.slice (some ⟨gk, ok0 + 4 * i, none⟩) 4 (ck - 4 * i)] (fun _ => True) (fun k => some k ≠ (Value.slice A i c).ownBlock) rfl rfl HP.out (fun _ h => ⟨trivial, h⟩) (fun _ _ => trivial) hR.out HB0.out (Nat.zero_le _) (by rw [Wl_length]; omega) ?_); intro v7 w7 ho7 hb7 hg7 hat7; have HO7 := Lib.hid ho7; have HG7 := Lib.hid hg7; have HAT := Lib.hid hat7; clear ho7 hb7 hg7 hat7)
        | fail)
      obtain ⟨A7, c7, e7⟩ := Kd.R_slice HO7.out
      rw [List.length_append, Wl_length] at e7
      subst e7
      have HB7 : Hid (Below w.heap.size w w7) := Lib.hid (pw_below_grown hB.out _ hB.out.size HG7.out (fun k hk => hO.out k hk))
      have HO2 : Hid (∀ k, (Value.slice A7 (i + 1) c7).ownBlock = some k → w.heap.size ≤ k) := Lib.hid (fun k hk => by
        rcases HAT.out with h | ⟨b, h, hb⟩
        · exact hO.out k (h.symm.trans hk)
        · have e := h.symm.trans hk
          injection e with e
          have := hB.out.size
          omega)
      clear hslI
      go_wp2_with fail
      go_roundw
      case rel => exact ⟨i + 1, A7, c7, con, rfl, rfl, by go_num, by omega, hc0, hc1', Lib.hid (by rw [hcon.out, show (i + 1 - 1) / 4 = (i - 1) / 4 from by omega]), Lib.hid (by rw [Wl_succ]; exact HO7.out), HB7, HO2⟩
      case measure => simp [intOf]; omega
    · by_cases h44 : i < 44
      · have hfl : ∀ x, (four KS x).length = 4 := fun x => by unfold four; rfl
        have hx1 := view_at hR.out (i - 1) (by omega)
        have hx4 := view_at hR.out (i - 4) (by omega)
        rw [Wl_at _ _ _ (by omega), hfl] at hx1 hx4
        obtain ⟨g, At, ct, eA, hx1, hle1, hC1⟩ := hx1
        obtain ⟨g', A4, c4, e4, hx4, hle4, hC4⟩ := hx4
        rw [eA] at e4
        injection e4 with e4
        injection e4 with e4
        subst e4
        subst eA
        obtain ⟨bt, ot, rfl, hct⟩ := C_cells hC1 (by omega)
        obtain ⟨b4, o4, rfl, hc4⟩ := C_cells hC4 (by omega)
        have HC1 := Lib.hid hC1
        have HC4 := Lib.hid hc4
        have hfg : ∀ x n, n < 4 → (four KS x).getD n 0 = KS.getD (x + n) 0 := fun x n hn => four_at KS x n hn
        have hct0 := hct 0 (by omega)
        have hct1 := hct 1 (by omega)
        have hct2 := hct 2 (by omega)
        have hct3 := hct 3 (by omega)
        rw [hfg _ _ (by omega)] at hct0 hct1 hct2 hct3
        rw [Nat.add_zero, Nat.add_zero] at hct0
        have HX1 := Lib.hid hx1
        have HX4 := Lib.hid hx4
        have hi1 : (0 : Int) ≤ (i : Int) - 1 := by omega
        have hi2 : (1 : Int) ≤ (i : Int) := by omega
        have hi3 : ((i : Int) - 1).toNat = i - 1 := by omega
        have hi4 : ¬ (i : Int) < 4 := by omega
        have hi5 : (4 : Int) ≤ (i : Int) := by omega
        have HFG := Lib.hid hfg
        have HFL := Lib.hid hfl
        clear hC1 hC4 hct hc4 hfg hfl hx4
        by_cases hm : i % 4 = 0
        focus
          have hem : ((i : Int) % 4 == 0) = true := by simp; omega
          have HM := Lib.hid hm
          clear hm
          obtain ⟨bb, ob, rfl, hbc⟩ := C_cells HBX.out (by omega)
          have hbc' : ∀ (W : World), Below w.heap.size w W → ∀ j, j < 256 → W.cell? ⟨bb, ob + j, none⟩ = some (.int .u8 (box.getD j 0)) := fun W hW j hj => (hW.cell (p := ⟨bb, ob + j, none⟩) (World.block_lt_of_cell? w _ (hbc j hj))).trans (hbc j hj)
          obtain ⟨t0, ht0⟩ : ∃ x, x = KS.getD (4 * (i - 1)) 0 := ⟨_, rfl⟩
          obtain ⟨t1, ht1⟩ : ∃ x, x = KS.getD (4 * (i - 1) + 1) 0 := ⟨_, rfl⟩
          obtain ⟨t2, ht2⟩ : ∃ x, x = KS.getD (4 * (i - 1) + 2) 0 := ⟨_, rfl⟩
          obtain ⟨t3, ht3⟩ : ∃ x, x = KS.getD (4 * (i - 1) + 3) 0 := ⟨_, rfl⟩
          rw [← ht0] at hct0
          rw [← ht1] at hct1
          rw [← ht2] at hct2
          rw [← ht3] at hct3
          obtain ⟨hl0, hu0⟩ : 0 ≤ t0 ∧ t0 < 256 := by rw [ht0]; exact byte_at HKB.out _
          obtain ⟨hl1, hu1⟩ : 0 ≤ t1 ∧ t1 < 256 := by rw [ht1]; exact byte_at HKB.out _
          obtain ⟨hl2, hu2⟩ : 0 ≤ t2 ∧ t2 < 256 := by rw [ht2]; exact byte_at HKB.out _
          obtain ⟨hl3, hu3⟩ : 0 ≤ t3 ∧ t3 < 256 := by rw [ht3]; exact byte_at HKB.out _
          have hb0 := hbc' wr hB.out t0.toNat (by omega)
          have hb1 := hbc' wr hB.out t1.toNat (by omega)
          have hb2 := hbc' wr hB.out t2.toNat (by omega)
          have hb3 := hbc' wr hB.out t3.toNat (by omega)
          have HTK : Hid (kT box KS i (conN ((i - 1) / 4)) = [Go.bits .xor .u8 (box.getD t1.toNat 0) con, box.getD t2.toNat 0, box.getD t3.toNat 0, box.getD t0.toNat 0]) := Lib.hid (by
            unfold kT
            rw [if_pos HM.out, ← hcon.out, ht0, ht1, ht2, ht3, show 4 * i - 4 = 4 * (i - 1) from by omega])
          obtain ⟨y0, hy0⟩ : ∃ x, x = box.getD t0.toNat 0 := ⟨_, rfl⟩
          obtain ⟨y1, hy1⟩ : ∃ x, x = box.getD t1.toNat 0 := ⟨_, rfl⟩
          obtain ⟨y2, hy2⟩ : ∃ x, x = box.getD t2.toNat 0 := ⟨_, rfl⟩
          obtain ⟨y3, hy3⟩ : ∃ x, x = box.getD t3.toNat 0 := ⟨_, rfl⟩
          rw [← hy0, ← hy1, ← hy2, ← hy3] at HTK
          rw [← hy0] at hb0
          rw [← hy1] at hb1
          rw [← hy2] at hb2
          rw [← hy3] at hb3
          clear hbc hbc' ht0 ht1 ht2 ht3 hy0 hy1 hy2 hy3
          go_wp2_with fail
          go_still_tail 26, (by kernel_rfl)
          change wpList _ _ _ _ _ wr.drew
          go_wp2_with fail
          refine (padlockref03_Mul.calls 10 con 2 (twiceF con) _ (mul_two con ⟨hc0, hc1'⟩ 0)).mono ?_
          rintro e wx ⟨rfl, hd⟩
          have hBx0 : Below wr.heap.size wr (wr.drew.alloc (.cells (nums .u8 [Go.bits .xor .u8 y1 con, y2, y3, y0]).toArray 5)) := below_alloc (below_drew (Below.refl _ _)) _
          have hBd := hd.below
          have hBx : Below wr.heap.size wr wx := below_next hBx0 hBd
          have hC8 := Kd.C_below (lit_reads .u8 [Go.bits .xor .u8 y1 con, y2, y3, y0] rfl rfl (by simp) wr.drew 5) hBd
          obtain ⟨b8, o8, e8, hc8⟩ := C_cells hC8 (by simp)
          injection e8 with e8
          injection e8 with e8 e8'
          rw [← e8, ← e8', ← HTK.out] at hc8
          have HT8 : Hid (∀ j, j < 4 → wx.cell? ⟨wr.heap.size, 0 + j, none⟩ = some (.int .u8 ((kT box KS i (conN ((i - 1) / 4))).getD j 0))) := Lib.hid (fun j hj => hc8 j (by rw [kT_length]; exact hj))
          have HBx := Lib.hid hBx
          have hcb := twice_b con
          have HCN : Hid (twiceF con = conN ((i + 1 - 1) / 4)) := Lib.hid (by
            rw [hcon.out, show (i + 1 - 1) / 4 = (i - 1) / 4 + 1 from by have := HM.out; omega]
            show _ = conN _
            rw [conN])
          clear hd hBx0 hBd hBx hC8 hc8 hct0 hct1 hct2 hct3 hb0 hb1 hb2 hb3 e8 e8' hcon
          generalize hcc : twiceF con = con' at *
          clear hcc
          go_wp2_with fail
          generalize hb8 : wr.heap.size = b8 at HT8 ⊢
          obtain ⟨o8, ho8⟩ : ∃ o : Nat, o = 0 := ⟨_, rfl⟩
          rw [← ho8] at HT8
          rw [show (Value.slice (some { block := b8, off := 0 }) 4 4) = Value.slice (some ⟨b8, o8, none⟩) 4 4 from by rw [ho8]]
          clear ho8
          clear hb8
        rotate_left
        focus
          have hem : ((i : Int) % 4 == 0) = false := by simp; omega
          have HM := Lib.hid hm
          clear hm
          have HT8 : Hid (∀ j, j < 4 → wr.cell? ⟨bt, ot + j, none⟩ = some (.int .u8 ((kT box KS i (conN ((i - 1) / 4))).getD j 0))) := Lib.hid (by
            obtain ⟨b8, o8, e8, hc8⟩ := C_cells HC1.out (by omega)
            injection e8 with e8
            injection e8 with e8 e8'
            rw [← e8, ← e8'] at hc8
            unfold kT
            rw [if_neg HM.out, show 4 * i - 4 = 4 * (i - 1) from by omega]
            exact hc8)
          obtain ⟨wx, hwx⟩ : ∃ wx : World, wx = wr := ⟨_, rfl⟩
          have HBx : Hid (Below wr.heap.size wr wx) := Lib.hid (by rw [hwx]; exact Below.refl _ _)
          rw [← hwx] at HT8
          have HWX := Lib.hid hwx
          clear hwx
          have hcb : Byte con := ⟨hc0, hc1'⟩
          have HCN : Hid (con = conN ((i + 1 - 1) / 4)) := Lib.hid (by rw [hcon.out, show (i + 1 - 1) / 4 = (i - 1) / 4 from by have := HM.out; omega])
          clear hct0 hct1 hct2 hct3
          go_wp2_with fail
          rw [← HWX.out]
          generalize hgb : bt = b8 at *
          generalize hgo : ot = o8 at *
          clear hgb hgo hcon hc0 hc1'
          generalize con = con' at *
        all_goals
          obtain ⟨wo, hwo⟩ : ∃ wo : World, wo = wr := ⟨_, rfl⟩
          subst hwo
          have hX0 : Hid (Kd.R (Kd.int .u8) 5 wx wx.heap.size (fun _ => True) (.slice none 0 0) (Xl KS i 0)) := Lib.hid (by unfold Xl; exact Kd.R_nil _ _ _ _ _)
          have HX4x : Hid (∀ W, Below wx.heap.size wx W → W.cell? ⟨g, i - 4, none⟩ = some (.slice (some ⟨b4, o4, none⟩) 4 c4)) := Lib.hid (fun W hW => by
            have h := below_next HBx.out hW
            exact (h.cell (p := ⟨g, i - 4, none⟩) (World.block_lt_of_cell? wo _ HX4.out)).trans HX4.out)
          have HC4x : Hid (∀ W, Below wx.heap.size wx W → ∀ j, j < 4 → W.cell? ⟨b4, o4 + j, none⟩ = some (.int .u8 (KS.getD (4 * (i - 4) + j) 0))) := Lib.hid (fun W hW j hj => by
            have h := below_next HBx.out hW
            have h2 := HC4.out j hj
            rw [(h.cell (p := ⟨b4, o4 + j, none⟩) (World.block_lt_of_cell? wo _ h2)).trans h2, HFG.out _ _ hj])
          obtain ⟨hcb0, hcb1⟩ := hcb
          clear hx1 HX1 HC1
          go_loopw [9, 10] (fun v iv wq => ∃ (k : Nat) (A9 : Option Addr) (c9 : Nat), v = .slice A9 k c9 ∧ iv = .int .i64 k ∧ k ≤ 4 ∧ Hid (Kd.R (Kd.int .u8) 5 wq wx.heap.size (fun _ => True) (.slice A9 k c9) (Xl KS i k)) ∧ Hid (Below wx.heap.size wx wq)) (fun _ iv _ => 4 - (intOf iv).toNat)
          case atStart => exact ⟨0, none, 0, rfl, rfl, by omega, hX0, Lib.hid (Below.refl _ _)⟩
          case round =>
            clear hX0
            obtain ⟨k, A9, c9, rfl, rfl, hk, hX, hBq⟩ := hrel
            obtain ⟨wq, hwq⟩ : ∃ wq : World, wq = wr := ⟨_, rfl⟩
            subst hwq
            by_cases hk4 : k < 4
            · have h8 := HT8.out k hk4
              have hx4' := HX4x.out wq hBq.out
              have hc4k' := HC4x.out wq hBq.out k hk4
              have hc8k' := (hBq.out.cell (World.block_lt_of_cell? wx _ h8)).trans h8
              have hv := HW.out i k (by omega) h44 hk4
              obtain ⟨y, hy⟩ : ∃ y, y = KS.getD (4 * (i - 4) + k) 0 := ⟨_, rfl⟩
              obtain ⟨z, hz⟩ : ∃ z, z = (kT box KS i (conN ((i - 1) / 4))).getD k 0 := ⟨_, rfl⟩
              rw [← hy] at hc4k' hv
              rw [← hz] at hc8k' hv h8
              have HV := Lib.hid hv
              have HY := Lib.hid hy
              have H8 := Lib.hid h8
              have hj1 : (0 : Int) ≤ (i : Int) - 4 := by omega
              have hj2 : ((i : Int) - 4).toNat = i - 4 := by omega
              have hj3 : (i : Int) - 4 < (i : Int) := by omega
              have hk0 : (0 : Int) ≤ (k : Int) := by omega
              have hj4 : IntKind.i64.wrap ((i : Int) - 4) = (i : Int) - 4 := IntWalk.i64_in _ (by omega)
              clear h8 hy hz hv
              go_wp2_with fail
              go_region_held3 (fun w' => w'.cell? ⟨g, i - 4, none⟩ = some (.slice (some ⟨b4, o4, none⟩) 4 c4) ∧ w'.cell? ⟨b4, o4 + k, none⟩ = some (.int .u8 y) ∧ w'.cell? ⟨b8, o8 + k, none⟩ = some (.int .u8 z))
                (first | go_keep | exact hkeep)
                ((go_loud (refine Kd.R_append_rows_step (Kd.int .u8) (w0 := wx) wx.heap.size (by rfl) (.tmp 68) (.tmp 82) 22 5 (.int .u8 0) 1 (by rfl) Try.underlying22 info_u8 rfl (by decide) (by omega) (.slice A9 k c9) (Xl KS i k) [Go.bits .xor .u8 y z] _ 1 1 (fun _ => True) (fun _ => False) (by rfl) (by rfl) (by exact Kd.R_drew (Kd.R_alloc hX.out _)) (by exact Kd.C_drew (lit_reads .u8 [Go.bits .xor .u8 y z] rfl rfl (by simp) wq _)) (fun _ _ h => h) (fun _ h => h.elim) (fun _ _ => trivial) (by exact below_drew (below_alloc hBq.out _)) (by have := hBq.out.size; simp; omega) (by rw [Xl_length]; omega) ?_; intro v9 w9 ho9 hb9 hg9 hat9; have hkeep := And.intro (HX4x.out w9 hb9) (And.intro ((HC4x.out w9 hb9 k hk4).trans (by rw [← HY.out])) ((hb9.cell (World.block_lt_of_cell? wx _ H8.out)).trans H8.out)); have HO9 := Lib.hid ho9; have HB9 := Lib.hid hb9; clear ho9 hb9 hg9 hat9)))
              clear hx4' hc4k' hc8k' hj4
              obtain ⟨A10, c10, e10⟩ := Kd.R_slice HO9.out
              rw [List.length_append, Xl_length] at e10
              subst e10
              try (go_wp2_with fail)
              go_roundw
              case rel => exact ⟨k + 1, A10, c10, rfl, by go_num, by omega, Lib.hid (by rw [Xl_succ, HV.out]; exact HO9.out), HB9⟩
              case measure => simp [intOf]; omega
            · have hk' : k = 4 := by omega
              subst hk'
              have hRq := Lib.hid (Kd.R_below hR.out (below_next HBx.out hBq.out))
              have hBw := Lib.hid (below_next hB.out (below_next HBx.out hBq.out))
              have hgw : g < wo.heap.size := World.block_lt_of_cell? wo _ HX4.out
              have hsx := HBx.out.size
              have hP : Seen [5, Tk] .u8 wq 0 (fun k => some k ≠ (Value.slice (some ⟨g, 0, none⟩) i c).ownBlock) (four KS (4 * i)) [.slice A9 4 c9] := by
                obtain ⟨inner, ho⟩ := Kd.R_own hX.out
                obtain ⟨_, hc9, hC9⟩ := Kd.R_reads' hX.out
                rw [Xl_length] at ho
                rcases ho.2 with ⟨hv, h0⟩ | ⟨gx, cap, cur, hv, hb, hh, _⟩
                · omega
                · injection hv with h1 h2 h3
                  subst h1
                  have hs := (Array.getElem?_eq_some_iff.1 hh).1
                  refine ⟨⟨gx, 0, none⟩, c9, by rw [HFL.out], by rw [HFL.out]; exact hc9, ?_, ?_, Nat.zero_le _, hs, 5, by simp, cur, hh⟩
                  · rw [← Xl_four]
                    exact hC9
                  · intro e
                    simp only [Value.ownBlock] at e
                    injection e with e
                    omega
              have HP := Lib.hid hP
              have HB0q : Hid (Below 0 w wq) := Lib.hid (hBw.out.mono (Nat.zero_le _))
              clear hP
              go_wp2_with (first
                | ((with_reducible refine gate_builtin (b := .append) (xs := #[.tmp 84, .tmp 86]) rfl ?_); at_builtin; refine Kd.R_append (viewKd [5, Tk] .u8) (w0 := w) 0 rfl (.tmp 84) (.tmp 86) 33 22 (.slice none 0 0) 24 rfl Try.underlying33 info_sl rfl Nat.one_pos (by omega) (.slice (some ⟨g, 0, none⟩) i c) (Wl KS i) (four KS (4 * i)) [.slice A9 4 c9] (fun _ => True) (fun k => some k ≠ (Value.slice (some ⟨g, 0, none⟩) i c).ownBlock) rfl rfl HP.out (fun _ h => ⟨trivial, h⟩) (fun _ _ => trivial) hRq.out HB0q.out (Nat.zero_le _) (by rw [Wl_length]; omega) ?_; intro v7 w7 ho7 hb7 hg7 hat7; have HO7 := Lib.hid ho7; have HG7 := Lib.hid hg7; have HAT := Lib.hid hat7; clear ho7 hb7 hg7 hat7)
                | fail)
              obtain ⟨A7, c7, e7⟩ := Kd.R_slice HO7.out
              rw [List.length_append, Wl_length] at e7
              subst e7
              have HB7 : Hid (Below w.heap.size w w7) := Lib.hid (pw_below_grown hBw.out _ hBw.out.size HG7.out (fun k hk => hO.out k hk))
              have HO2 : Hid (∀ k, (Value.slice A7 (i + 1) c7).ownBlock = some k → w.heap.size ≤ k) := Lib.hid (fun k hk => by
                rcases HAT.out with h | ⟨b, h, hb⟩
                · exact hO.out k (h.symm.trans hk)
                · have e := h.symm.trans hk
                  injection e with e
                  have := hBw.out.size
                  omega)
              go_wp2_with fail
              go_roundw
              case rel => exact ⟨i + 1, A7, c7, con', rfl, rfl, by go_num, by omega, hcb0, hcb1, HCN, Lib.hid (by rw [Wl_succ]; exact HO7.out), HB7, HO2⟩
              case measure => simp [intOf]; omega
      · have hi' : i = 44 := by omega
        subst hi'
        have hC := Lib.hid (Kd.R_reads' hR.out).2.2
        have hcc : 44 ≤ c := (Kd.R_reads' hR.out).2.1
        go_wp2
        go_ret
        have hl := Wl_length KS 44
        refine ⟨A, c, by rw [hl]; rfl, by rw [hl]; exact hcc, ?_, hB.out⟩
        have h := hC.out
        exact view_C 5 h
end Go.Proofs.Ytljmjeaocojnmaa.HAa
end
