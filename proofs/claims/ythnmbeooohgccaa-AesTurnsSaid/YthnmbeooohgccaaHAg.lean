/- Layer 3: knows; the walk of AesTurns. -/
import Derived.Test.YthnmbeooohgccaaHAf
set_option linter.unusedVariables false
set_option linter.unusedSimpArgs false
namespace Go.Proofs.Ythnmbeooohgccaa.HAa
open Go.RowKit Go.Proofs.YthnmbeooohgccaaW.PrintWords Go.Proofs.YthnmbeooohgccaaW.PrintLast Go.Proofs.YthnmbeooohgccaaW.PrintMore Go.Proofs.Ythnmbeooohgccaa.Kit Go.Proofs.Ythnmbeooohgccaa.Ra
attribute [local go_sem ↓] Go.wp_at_zero Go.wp_at_succ
def upK (n : Nat) : List Int := (List.range n).map (fun j : Nat => (j : Int)) ++ List.replicate (16 - n) 0
def upB (n : Nat) : List Int := (List.range n).map (fun j : Nat => 17 * (j : Int)) ++ List.replicate (16 - n) 0
theorem upK_length (n : Nat) (h : n ≤ 16) : (upK n).length = 16 := by simp [upK]; omega
theorem upB_length (n : Nat) (h : n ≤ 16) : (upB n).length = 16 := by simp [upB]; omega
theorem up_set (f : Nat → Int) (n : Nat) (h : n < 16) : ((List.range n).map f ++ List.replicate (16 - n) 0).set n (f n) = (List.range (n + 1)).map f ++ List.replicate (16 - (n + 1)) 0 := by
  rw [show List.replicate (16 - n) (0 : Int) = 0 :: List.replicate (16 - (n + 1)) 0 from by rw [show 16 - n = (16 - (n + 1)) + 1 from by omega, List.replicate_succ], List.set_append_right _ _ (by simp)]
  simp [List.range_succ]
theorem kK_b : Bytes kK := by unfold Bytes; decide +kernel
theorem kB_b : Bytes kB := by unfold Bytes; decide +kernel
attribute [local irreducible] encF Wl keyN boxT upK upB
set_option maxHeartbeats 1000000 in
set_option maxRecDepth 100000 in
theorem knows_any (w : World) : Calls Try.prog 62 #[] w (TellsT w) := by
  obtain ⟨n0, n1, n15⟩ := enc_knows
  obtain ⟨E, hE⟩ : ∃ E, E = encF kK kB := ⟨_, rfl⟩
  have HEL : Hid (E.length = 16) := Lib.hid (by rw [hE]; exact encF_length _ _ rfl)
  rw [← hE] at n0 n1 n15
  have HE := Lib.hid hE
  have N0 := Lib.hid n0
  have N1 := Lib.hid n1
  have N15 := Lib.hid n15
  clear hE n0 n1 n15
  go_enter Try.func62, Try.ntmps62
  go_wp2_with (first
    | ((with_reducible refine gate_dst (N := 1) rfl ?_); refine alloc_arr rfl 79 rfl .u8 (List.replicate 16 0) (fun w => Try.zeroValue79 w) (by first | (go_simp; done) | (go_simp; rfl)) ?_; intro w1 hA1 hB1)
    | ((with_reducible refine gate_dst (N := 2) rfl ?_); refine alloc_arr rfl 79 rfl .u8 (List.replicate 16 0) (fun w => Try.zeroValue79 w) (by first | (go_simp; done) | (go_simp; rfl)) ?_; intro w2 hA2 hB2)
    | fail)
  have hlt : w.heap.size < w1.heap.size := hA1.lt
  have HK0 : Hid (Arr .u8 79 w2 w.heap.size (upK 0)) := Lib.hid (by unfold upK; exact hA1.next hB2)
  have HB0 : Hid (Arr .u8 79 w2 w1.heap.size (upB 0)) := Lib.hid (by unfold upB; exact hA2)
  have HW0 : Hid (Below w.heap.size w w2) := Lib.hid (below_next hB1 hB2)
  clear hA1 hA2 hB1 hB2
  generalize w1.heap.size = g2 at *
  generalize hg1 : w.heap.size = g1 at *
  have HG1 := Lib.hid hg1
  clear hg1
  go_loopw [3] (fun iv wr => ∃ k : Nat, iv = .int .i64 k ∧ k ≤ 16 ∧ Hid (Arr .u8 79 wr g1 (upK k)) ∧ Hid (Arr .u8 79 wr g2 (upB k)) ∧ Hid (Below g1 w wr)) (fun iv _ => 16 - (intOf iv).toNat)
  case atStart => exact ⟨0, rfl, by omega, HK0, HB0, HW0⟩
  case round =>
    clear HK0 HB0 HW0
    obtain ⟨k, rfl, hk, hK, hB, hW⟩ := hrel
    by_cases hk16 : k < 16
    · have hc1 := hK.out.cellN k (by rw [upK_length _ hk]; omega)
      have hf1 := hK.out.free k
      have hc2 : ∀ v, (wr.setCell ⟨g1, k, none⟩ v).cell? ⟨g2, k, none⟩ = some (.int .u8 ((upB k).getD k 0)) := fun v => (hB.out.far ⟨g1, k, none⟩ (by simp; omega) v).cellN k (by rw [upB_length _ hk]; omega)
      have hf2 := fun v => (hB.out.far ⟨g1, k, none⟩ (by simp; omega) v).free k
      have HS1 : Hid ((upK k).set k (k : Int) = upK (k + 1)) := Lib.hid (by unfold upK; exact up_set (fun j : Nat => (j : Int)) k hk16)
      have HS2 : Hid ((upB k).set k (17 * (k : Int)) = upB (k + 1)) := Lib.hid (by unfold upB; exact up_set (fun j : Nat => 17 * (j : Int)) k hk16)
      go_wp2
      go_roundw
      case rel => exact ⟨k + 1, by go_num, by omega, Lib.hid (by rw [← HS1.out]; first | exact ((hK.out.put k _).far ⟨g2, k, none⟩ (by simp; omega) _) | (have h := ((hK.out.put k (k : Int)).far ⟨g2, k, none⟩ (by simp; omega) (.int .u8 (17 * (k : Int)))); rw [show (k : Int) % 256 = (k : Int) from by omega, show 17 * (k : Int) % 256 = 17 * (k : Int) from by omega]; exact h)), Lib.hid (by rw [← HS2.out]; first | exact ((hB.out.far ⟨g1, k, none⟩ (by simp; omega) _).put k _) | (have h := ((hB.out.far ⟨g1, k, none⟩ (by simp; omega) (.int .u8 (k : Int))).put k (17 * (k : Int))); rw [show (k : Int) % 256 = (k : Int) from by omega, show 17 * (k : Int) % 256 = 17 * (k : Int) from by omega]; exact h)), Lib.hid (below_setCell (below_setCell hW.out _ _ (by omega) _) _ _ (by omega) _)⟩
      case measure => simp [intOf]; omega
    · have hk' : k = 16 := by omega
      subst hk'
      have HK : Hid (Arr .u8 79 wr g1 kK) := Lib.hid (by have h := hK.out; unfold upK at h; exact h)
      have HB : Hid (Arr .u8 79 wr g2 kB) := Lib.hid (by have h := hB.out; unfold upB at h; exact h)
      go_wp2_with (first
        | ((with_reducible refine gate_dst (N := 18) rfl ?_); refine load_arr rfl 79 _ rfl g1 rfl .u8 _ _ _ _ HK.out Try.underlying79 (by kernel_rfl) ?_)
        | ((with_reducible refine gate_dst (N := 19) rfl ?_); refine load_arr rfl 79 _ rfl g2 rfl .u8 _ _ _ _ HB.out Try.underlying79 (by kernel_rfl) ?_)
        | fail)
      refine (encrypt_any kK kB _ rfl rfl kK_b kB_b).mono ?_
      rintro e w4 ⟨rfl, hB4⟩
      rw [← HE.out]
      have HB4 := Lib.hid (hW.out.trans (hB4.mono (by have := hW.out.size; have := HG1.out; omega)))
      clear hB4
      go_wp2_with (first
        | ((with_reducible refine gate_dst (N := 4) rfl ?_); refine alloc_arr rfl 79 rfl .u8 (List.replicate 16 0) (fun w => Try.zeroValue79 w) (by first | (go_simp; done) | (go_simp; rfl)) ?_; intro w5 hA5 hB5)
        | ((with_reducible refine gate_store (t := 79) (p := 4) rfl ?_); refine store_arr rfl 79 _ _ rfl w4.heap.size .u8 E rfl rfl 79 _ hA5 (by rw [HEL.out]; rfl) (by rw [HEL.out]; kernel_rfl) ?_; intro w6 hA6 hw6; have hB6 := below_setRow hB5 w4.heap.size (Nat.le_refl _) (nums .u8 E).toArray; rw [← hw6] at hB6; have hc0 := hA6.cellN 0 (by rw [HEL.out]; decide); have hc1 := hA6.cellN 1 (by rw [HEL.out]; decide); have hc15 := hA6.cellN 15 (by rw [HEL.out]; decide); rw [N0.out] at hc0; rw [N1.out] at hc1; rw [N15.out] at hc15; have HB6 := Lib.hid hB6; clear hw6 hA6 hB6 hA5 hB5)
        | fail)
      go_ret
      refine ⟨rfl, ?_⟩
      rw [HG1.out]
      exact HB4.out.trans (HB6.out.mono (by have := HB4.out.size; have := HG1.out; omega))
end Go.Proofs.Ythnmbeooohgccaa.HAa
