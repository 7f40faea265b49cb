/- Contracts of aes's functions, by hand: twice, RotateLeft8, boxes. -/
import Derived.Test.YtljmjeaocojnmaaProg
import Derived.Test.YtljmjeaocojnmaaArm
import Derived.Test.YtljmjeaocojnmaaBits
set_option linter.unusedVariables false
set_option linter.unusedSimpArgs false
namespace Go.Proofs.Ytljmjeaocojnmaa.HAa
open Go.RowKit Go.Proofs.YtljmjeaocojnmaaW.PrintWords Go.Proofs.YtljmjeaocojnmaaW.PrintLast Go.Proofs.YtljmjeaocojnmaaW.PrintMore Go.Proofs.Ytljmjeaocojnmaa.Kit

theorem info_u8 : (Try.prog.info? 5).map (fun i => (i.zero, i.size, i.bytes)) = some (some (.int .u8 0), 1, 1) := by kernel_rfl
def Byte (x : Int) : Prop := 0 ≤ x ∧ x < 256
theorem bxor_b (a b : Int) (ha : Byte a) (hb : Byte b) : Byte (Go.bits .xor .u8 a b) := by
  obtain ⟨a, rfl⟩ := Int.eq_ofNat_of_zero_le ha.1
  obtain ⟨b, rfl⟩ := Int.eq_ofNat_of_zero_le hb.1
  have h1 : a < 2 ^ 8 := by have := ha.2; omega
  have h2 : b < 2 ^ 8 := by have := hb.2; omega
  rw [bxor8 a b h1 h2]
  have := Nat.xor_lt_two_pow h1 h2
  exact ⟨by omega, by omega⟩
def twiceF (x : Int) : Int := if Go.bits .and .u8 x 128 = 0 then x * 2 % 256 else Go.bits .xor .u8 (x * 2 % 256) 27
theorem twice_b (x : Int) : Byte (twiceF x) := by
  unfold twiceF
  split
  · exact ⟨by omega, by omega⟩
  · exact bxor_b _ _ ⟨by omega, by omega⟩ ⟨by decide, by decide⟩
set_option maxHeartbeats 400000 in
theorem twice_any (x : Int) (w : World) (h0 : 0 ≤ x) (h1 : x < 256) : Calls Try.prog 105 #[.int .u8 x] w (TellsV .u8 (twiceF x) w) := by
  have HF : Hid (twiceF x = if Go.bits .and .u8 x 128 = 0 then x * 2 % 256 else Go.bits .xor .u8 (x * 2 % 256) 27) := Lib.hid rfl
  by_cases hz : Go.bits .and .u8 x 128 = 0
  · have HZ := Lib.hid hz
    have hz1 : (Go.bits .and .u8 x 128 != 0) = false := by simpa using hz
    clear hz
    go_enter Try.func105, Try.ntmps105
    go_wp2
    go_ret
    exact ⟨by rw [HF.out, if_pos HZ.out]; rfl, rfl⟩
  · have HZ := Lib.hid hz
    have hz1 : (Go.bits .and .u8 x 128 != 0) = true := by simpa using hz
    clear hz
    go_enter Try.func105, Try.ntmps105
    go_wp2
    go_ret
    exact ⟨by rw [HF.out, if_neg HZ.out]; rfl, rfl⟩
def rot8 (x n : Int) : Int := Go.bits .or .u8 (x * 2 ^ n.toNat % 256) (x / 2 ^ (8 - n).toNat)
theorem rot8_count (n : Int) (h : n = 1 ∨ n = 2 ∨ n = 3 ∨ n = 4) : Go.bits .and .u64 (IntKind.u64.wrap n) 7 = n := by
  rcases h with rfl | rfl | rfl | rfl <;> decide +kernel
set_option maxHeartbeats 400000 in
theorem rot8_at (x n k : Int) (w : World) (hk : Go.bits .and .u64 (IntKind.u64.wrap n) 7 = k) (h0 : 0 ≤ k) (h1 : k ≤ 4) :
    Calls Try.prog 106 #[.int .u8 x, .int .i64 n] w (TellsV .u8 (Go.bits .or .u8 (x * 2 ^ k.toNat % 256) (x / 2 ^ (8 - k).toNat)) w) := by
  go_enter Try.func106, Try.ntmps106
  go_wp2
  go_ret
  exact ⟨rfl, rfl⟩
theorem rot8_any (x n : Int) (w : World) (h : n = 1 ∨ n = 2 ∨ n = 3 ∨ n = 4) : Calls Try.prog 106 #[.int .u8 x, .int .i64 n] w (TellsV .u8 (rot8 x n) w) :=
  rot8_at x n n w (rot8_count n h) (by omega) (by omega)

/-! boxes -/
def q1 (q : Int) : Int := Go.bits .xor .u8 q (q * 2 % 256)
def q2 (q : Int) : Int := Go.bits .xor .u8 (q1 q) (q1 q * 4 % 256)
def q3 (q : Int) : Int := Go.bits .xor .u8 (q2 q) (q2 q * 16 % 256)
def q4 (q : Int) : Int := if Go.bits .and .u8 (q3 q) 128 = 0 then q3 q else Go.bits .xor .u8 (q3 q) 9
def p1 (p : Int) : Int := Go.bits .xor .u8 p (twiceF p)
def boxV (q : Int) : Int := Go.bits .xor .u8 (Go.bits .xor .u8 (Go.bits .xor .u8 (Go.bits .xor .u8 (Go.bits .xor .u8 q (rot8 q 1)) (rot8 q 2)) (rot8 q 3)) (rot8 q 4)) 99
def pT : List Int := [1, 3, 5, 15, 17, 51, 85, 255, 26, 46, 114, 150, 161, 248, 19, 53, 95, 225, 56, 72, 216, 115, 149, 164, 247, 2, 6, 10, 30, 34, 102, 170,
  229, 52, 92, 228, 55, 89, 235, 38, 106, 190, 217, 112, 144, 171, 230, 49, 83, 245, 4, 12, 20, 60, 68, 204, 79, 209, 104, 184, 211, 110, 178, 205,
  76, 212, 103, 169, 224, 59, 77, 215, 98, 166, 241, 8, 24, 40, 120, 136, 131, 158, 185, 208, 107, 189, 220, 127, 129, 152, 179, 206, 73, 219, 118, 154,
  181, 196, 87, 249, 16, 48, 80, 240, 11, 29, 39, 105, 187, 214, 97, 163, 254, 25, 43, 125, 135, 146, 173, 236, 47, 113, 147, 174, 233, 32, 96, 160,
  251, 22, 58, 78, 210, 109, 183, 194, 93, 231, 50, 86, 250, 21, 63, 65, 195, 94, 226, 61, 71, 201, 64, 192, 91, 237, 44, 116, 156, 191, 218, 117,
  159, 186, 213, 100, 172, 239, 42, 126, 130, 157, 188, 223, 122, 142, 137, 128, 155, 182, 193, 88, 232, 35, 101, 175, 234, 37, 111, 177, 200, 67, 197, 84,
  252, 31, 33, 99, 165, 244, 7, 9, 27, 45, 119, 153, 176, 203, 70, 202, 69, 207, 74, 222, 121, 139, 134, 145, 168, 227, 62, 66, 198, 81, 243, 14,
  18, 54, 90, 238, 41, 123, 141, 140, 143, 138, 133, 148, 167, 242, 13, 23, 57, 75, 221, 124, 132, 151, 162, 253, 28, 36, 108, 180, 199, 82, 246, 1]
def qT : List Int := [1, 246, 82, 199, 180, 108, 36, 28, 253, 162, 151, 132, 124, 221, 75, 57, 23, 13, 242, 167, 148, 133, 138, 143, 140, 141, 123, 41, 238, 90, 54, 18,
  14, 243, 81, 198, 66, 62, 227, 168, 145, 134, 139, 121, 222, 74, 207, 69, 202, 70, 203, 176, 153, 119, 45, 27, 9, 7, 244, 165, 99, 33, 31, 252,
  84, 197, 67, 200, 177, 111, 37, 234, 175, 101, 35, 232, 88, 193, 182, 155, 128, 137, 142, 122, 223, 188, 157, 130, 126, 42, 239, 172, 100, 213, 186, 159,
  117, 218, 191, 156, 116, 44, 237, 91, 192, 64, 201, 71, 61, 226, 94, 195, 65, 63, 21, 250, 86, 50, 231, 93, 194, 183, 109, 210, 78, 58, 22, 251,
  160, 96, 32, 233, 174, 147, 113, 47, 236, 173, 146, 135, 125, 43, 25, 254, 163, 97, 214, 187, 105, 39, 29, 11, 240, 80, 48, 16, 249, 87, 196, 181,
  154, 118, 219, 73, 206, 179, 152, 129, 127, 220, 189, 107, 208, 185, 158, 131, 136, 120, 40, 24, 8, 241, 166, 98, 215, 77, 59, 224, 169, 103, 212, 76,
  205, 178, 110, 211, 184, 104, 209, 79, 204, 68, 60, 20, 12, 4, 245, 83, 49, 230, 171, 144, 112, 217, 190, 106, 38, 235, 89, 55, 228, 92, 52, 229,
  170, 102, 34, 30, 10, 6, 2, 247, 164, 149, 115, 216, 72, 56, 225, 95, 53, 19, 248, 161, 150, 114, 46, 26, 255, 85, 51, 17, 15, 5, 3, 1]
def boxT : List Int := [99, 124, 119, 123, 242, 107, 111, 197, 48, 1, 103, 43, 254, 215, 171, 118, 202, 130, 201, 125, 250, 89, 71, 240, 173, 212, 162, 175, 156, 164, 114, 192,
  183, 253, 147, 38, 54, 63, 247, 204, 52, 165, 229, 241, 113, 216, 49, 21, 4, 199, 35, 195, 24, 150, 5, 154, 7, 18, 128, 226, 235, 39, 178, 117,
  9, 131, 44, 26, 27, 110, 90, 160, 82, 59, 214, 179, 41, 227, 47, 132, 83, 209, 0, 237, 32, 252, 177, 91, 106, 203, 190, 57, 74, 76, 88, 207,
  208, 239, 170, 251, 67, 77, 51, 133, 69, 249, 2, 127, 80, 60, 159, 168, 81, 163, 64, 143, 146, 157, 56, 245, 188, 182, 218, 33, 16, 255, 243, 210,
  205, 12, 19, 236, 95, 151, 68, 23, 196, 167, 126, 61, 100, 93, 25, 115, 96, 129, 79, 220, 34, 42, 144, 136, 70, 238, 184, 20, 222, 94, 11, 219,
  224, 50, 58, 10, 73, 6, 36, 92, 194, 211, 172, 98, 145, 149, 228, 121, 231, 200, 55, 109, 141, 213, 78, 169, 108, 86, 244, 234, 101, 122, 174, 8,
  186, 120, 37, 46, 28, 166, 180, 198, 232, 221, 116, 31, 75, 189, 139, 138, 112, 62, 181, 102, 72, 3, 246, 14, 97, 53, 87, 185, 134, 193, 29, 158,
  225, 248, 152, 17, 105, 217, 142, 148, 155, 30, 135, 233, 206, 85, 40, 223, 140, 161, 137, 13, 191, 230, 66, 104, 65, 153, 45, 15, 176, 84, 187, 22]
def pN (k : Nat) : Int := pT.getD k 0
def qN (k : Nat) : Int := qT.getD k 0
def oN : Nat → List Int
  | 0 => (List.replicate 256 0).set 0 99
  | k + 1 => (oN k).set (pN (k + 1)).toNat (boxV (qN (k + 1)))
theorem oN_length : ∀ k, (oN k).length = 256
  | 0 => by
    show (List.set _ _ _).length = 256
    rw [List.length_set, List.length_replicate]
  | k + 1 => by
    show (List.set _ _ _).length = 256
    rw [List.length_set, oN_length k]
def logN (p : Int) : Nat := pT.idxOf p
set_option maxRecDepth 100000 in
theorem pq_round : ∀ k : Fin 255, pN (k.1 + 1) = p1 (pN k.1) ∧ qN (k.1 + 1) = q4 (qN k.1) ∧ (pN (k.1 + 1) = 1 → k.1 = 254) ∧ logN (pN k.1) = k.1 ∧ 0 ≤ pN k.1 ∧ pN k.1 < 256 ∧ 0 ≤ qN k.1 ∧ qN k.1 < 256 := by decide +kernel
set_option maxRecDepth 100000 in
theorem box_all : oN 255 = boxT := by decide +kernel
def Box (w : World) (e : Ending) (w' : World) : Prop := e = .returned (.agg (nums .u8 boxT).toArray) ∧ Below w.heap.size w w'
attribute [local irreducible] oN boxT pN qN logN p1 q4 boxV
set_option maxHeartbeats 2000000 in
set_option maxRecDepth 100000 in
theorem boxes_any (w : World) : Calls Try.prog 85 #[] w (Box w) := by
  go_enter Try.func85, Try.ntmps85
  go_wp2_with (first
    | ((with_reducible refine gate_dst (N := 0) rfl ?_); refine alloc_arr rfl 138 rfl .u8 (List.replicate 256 0) (fun w => Try.zeroValue138 w) (by first | (go_simp; done) | (go_simp; rfl)) ?_; intro w1 hA1 hB1)
    | ((with_reducible refine gate_dst (N := 1) rfl ?_); refine alloc_arr rfl 138 rfl .u8 (List.replicate 256 0) (fun w => Try.zeroValue138 w) (by first | (go_simp; done) | (go_simp; rfl)) ?_; intro w2 hA2 hB2; have hc0 := hA2.cellN 0 (by simp); have hf0 := hA2.free 0)
    | fail)
  have hz1 := hA2.lt
  have HA0 : Hid (Arr .u8 138 (w2.setCell ⟨w1.heap.size, 0, none⟩ (.int .u8 99)) w1.heap.size (oN 0)) := Lib.hid (by unfold oN; exact hA2.put 0 99)
  have HB0 : Hid (Below w.heap.size w (w2.setCell ⟨w1.heap.size, 0, none⟩ (.int .u8 99))) := Lib.hid (below_setCell (below_next hB1 hB2) _ _ hB1.size _)
  have hlt : w.heap.size < w1.heap.size := hA1.lt
  have HA1 : Hid (Arr .u8 138 (w2.setCell ⟨w1.heap.size, 0, none⟩ (.int .u8 99)) w.heap.size (List.replicate 256 0)) := Lib.hid ((hA1.next hB2).far _ (by simp; omega) _)
  clear hA1 hB1 hA2 hB2 hc0 hf0
  generalize w2.setCell ⟨w1.heap.size, 0, none⟩ (.int .u8 99) = w3 at *
  generalize w1.heap.size = g at *
  have hpq0 : Hid ((1 : Int) = pN 0 ∧ (1 : Int) = qN 0) := Lib.hid (by unfold pN qN; decide +kernel)
  go_loopw [2, 3] (fun pv qv wr => ∃ (k : Nat) (p q : Int), pv = .int .u8 p ∧ qv = .int .u8 q ∧ k < 255 ∧ Hid (p = pN k ∧ q = qN k) ∧ Hid (Arr .u8 138 wr g (oN k)) ∧ Hid (Below g w3 wr)) (fun pv _ _ => 255 - logN (intOf pv))
  case atStart => exact ⟨0, 1, 1, rfl, rfl, by omega, hpq0, HA0, Lib.hid (Below.refl _ _)⟩
  case round =>
    clear HA0 hpq0
    obtain ⟨k, p, q, rfl, rfl, hk, hpq, hA, hB⟩ := hrel
    obtain ⟨hP, hQ, hend, hlog, hp0, hp1, hq0, hq1⟩ := pq_round ⟨k, hk⟩
    simp only [← hpq.out.1, ← hpq.out.2] at hP hQ hend hlog hp0 hp1 hq0 hq1
    have HP := Lib.hid hP
    have HQ := Lib.hid hQ
    have HE := Lib.hid hend
    have HL := Lib.hid hlog
    clear hP hQ hend hlog
    obtain ⟨hpb0, hpb1⟩ := bxor_b p (twiceF p) ⟨hp0, hp1⟩ (twice_b p)
    have ep : Go.bits .xor .u8 p (twiceF p) = p1 p := by unfold p1; rfl
    rw [ep] at hpb0 hpb1
    have EP := Lib.hid ep
    have e3 : q3 q = q3 q := rfl
    conv at e3 => lhs; unfold q3 q2 q1
    have E3 := Lib.hid e3
    have hstep : ∀ (q' : Int) (wx : World), q' = q4 q → Arr .u8 138 wx g ((oN k).set (p1 p).toNat (boxV q')) → Arr .u8 138 wx g (oN (k + 1)) := fun q' wx e h => by
      rw [oN, HP.out, HQ.out, ← e]
      exact h
    have HS := Lib.hid hstep
    have hcell := hA.out.cellN (p1 p).toNat (by rw [oN_length]; omega)
    have hfree := hA.out.free (p1 p).toNat
    have HZ : Hid ((Go.bits .and .u8 (q3 q) 128 = 0 → q4 q = q3 q) ∧ (¬ Go.bits .and .u8 (q3 q) 128 = 0 → q4 q = Go.bits .xor .u8 (q3 q) 9)) := Lib.hid ⟨fun h => by unfold q4; rw [if_pos h], fun h => by unfold q4; rw [if_neg h]⟩
    clear ep e3 hstep
    have hgen : ∀ z : Bool, (Go.bits .and .u8 (q3 q) 128 != 0) = z → (z = false → q4 q = q3 q) ∧ (z = true → q4 q = Go.bits .xor .u8 (q3 q) 9) := fun z hz => ⟨fun e => HZ.out.1 (by rw [e] at hz; simpa using hz), fun e => HZ.out.2 (by rw [e] at hz; simpa using hz)⟩
    cases hz : (Go.bits .and .u8 (q3 q) 128 != 0)
    all_goals
      obtain ⟨g1, g2⟩ := hgen _ hz
      have G1 := Lib.hid g1
      have G2 := Lib.hid g2
      clear g1 g2 hgen
      rw [← E3.out] at hz
      go_wp2_with fail
      refine (twice_any p _ hp0 hp1).mono ?_
      rintro e w' ⟨rfl, rfl⟩
      go_wp2_with fail
      rw [E3.out, EP.out] at *
    all_goals
      first
        | (have hq' : q4 q = Go.bits .xor .u8 (q3 q) 9 := G2.out (by first | trivial | rfl)
           generalize Go.bits .xor .u8 (q3 q) 9 = q' at *)
        | (have hq' : q4 q = q3 q := G1.out (by first | trivial | rfl)
           generalize q3 q = q' at *)
      generalize p1 p = p' at *
      have HQ' : Hid (q' = q4 q) := Lib.hid hq'.symm
      clear hq' HZ E3 EP G1 G2 hz
      refine (rot8_any q' 1 _ (by omega)).mono ?_
      rintro e w' ⟨rfl, rfl⟩
      go_wp2_with fail
      refine (rot8_any q' 2 _ (by omega)).mono ?_
      rintro e w' ⟨rfl, rfl⟩
      go_wp2_with fail
      refine (rot8_any q' 3 _ (by omega)).mono ?_
      rintro e w' ⟨rfl, rfl⟩
      go_wp2_with fail
      refine (rot8_any q' 4 _ (by omega)).mono ?_
      rintro e w' ⟨rfl, rfl⟩
      have hb : Go.bits .xor .u8 (Go.bits .xor .u8 (Go.bits .xor .u8 (Go.bits .xor .u8 (Go.bits .xor .u8 q' (rot8 q' 1)) (rot8 q' 2)) (rot8 q' 3)) (rot8 q' 4)) 99 = boxV q' := by unfold boxV; rfl
      have HBV := Lib.hid hb
      clear hb
      by_cases he : p' = 1
      · have he1 : (p' == 1) = true := by simpa using he
        have hk' : k = 254 := HE.out (by rw [HP.out]; exact he)
        have HK := Lib.hid hk'
        have HA3 := Lib.hid (HS.out q' (w'.setCell ⟨g, p'.toNat, none⟩ (.int .u8 (boxV q'))) HQ'.out (hA.out.put _ _))
        rw [HK.out, box_all] at HA3
        have HA13 := Lib.hid ((HA1.out.below hB.out hlt).far ⟨g, p'.toNat, none⟩ (by simp; omega) (.int .u8 (boxV q')))
        have HB3 := Lib.hid (below_setCell (HB0.out.trans (hB.out.mono (by omega))) g p'.toNat (by omega) (.int .u8 (boxV q')))
        clear he hk'
        go_wp2_with (first
          | ((with_reducible refine gate_dst (N := 44) rfl ?_); rw [HBV.out]; refine load_arr rfl 138 _ rfl g rfl .u8 _ _ _ _ HA3.out Try.underlying138 (by kernel_rfl) ?_)
          | ((with_reducible refine gate_store (t := 138) (p := 0) rfl ?_); refine store_arr rfl 138 _ _ rfl w.heap.size .u8 boxT rfl rfl 138 _ HA13.out (by kernel_rfl) (by kernel_rfl) ?_; intro w4 hA4 hw4; subst hw4)
          | fail)
        exact bodyPost_ret (results_arr rfl _ _ w.heap.size .u8 _ _ _ boxT rfl hA4 Try.underlying138 (by kernel_rfl)) rfl ⟨rfl, below_setRow HB3.out _ (Nat.le_refl _) _⟩
      · have he1 : (p' == 1) = false := by simpa using he
        have HE1 := Lib.hid he
        clear he
        go_wp2_with fail
        go_roundw
        case rel =>
          have hkk : k + 1 < 255 := by
            have : k ≠ 254 := fun h => HE1.out (by
              have e : pN 255 = 1 := by unfold pN; decide +kernel
              rw [← HP.out, h]; exact e)
            omega
          exact ⟨k + 1, p', q', rfl, rfl, hkk, Lib.hid ⟨HP.out.symm, by rw [HQ.out]; exact HQ'.out⟩, Lib.hid (HS.out q' _ HQ'.out (by rw [HBV.out]; exact hA.out.put _ _)), Lib.hid (below_setCell hB.out _ _ (Nat.le_refl _) _)⟩
        case measure =>
          have hkk : k + 1 < 255 := by
            have : k ≠ 254 := fun h => HE1.out (by
              have e : pN 255 = 1 := by unfold pN; decide +kernel
              rw [← HP.out, h]; exact e)
            omega
          have hl : logN (pN (k + 1)) = k + 1 := (pq_round ⟨k + 1, hkk⟩).2.2.2.1
          rw [show pN (k + 1) = p' from HP.out] at hl
          simp [intOf]
          rw [hl, HL.out]
          omega
end Go.Proofs.Ytljmjeaocojnmaa.HAa
