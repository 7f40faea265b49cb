/- Layer 4: ctr.Nonce, by hand. -/
import Derived.Test.YtljmjeaocojnmaaCom
set_option linter.unusedVariables false
set_option linter.unusedSimpArgs false
namespace Go.Proofs.Ytljmjeaocojnmaa.HCa
open Go.RowKit Go.Proofs.YtljmjeaocojnmaaW.PrintWords Go.Proofs.YtljmjeaocojnmaaW.PrintLast Go.Proofs.YtljmjeaocojnmaaW.PrintMore Go.Proofs.Ytljmjeaocojnmaa.Kit
attribute [local go_sem ↓] Go.wp_at_zero Go.wp_at_succ
/-- byte i of a nonce -/
def nvF (hi c : Int) (i : Nat) : Int := if i < 4 then hi / 2 ^ (24 - 8 * i) % 256 else c / 2 ^ (88 - 8 * i) % 256
def nN (hi c : Int) (k : Nat) : List Int := (List.range 12).map fun i => if i < k then nvF hi c i else 0
theorem nN_length (hi c : Int) (k : Nat) : (nN hi c k).length = 12 := by simp [nN]
theorem nN_zero (hi c : Int) : nN hi c 0 = List.replicate 12 0 := by simp [nN]; rfl
theorem nN_succ (hi c : Int) (k : Nat) (h : k < 12) : nN hi c (k + 1) = (nN hi c k).set k (nvF hi c k) := by
  refine List.ext_getElem (by simp [nN]) (fun i h1 h2 => ?_)
  simp only [nN, List.getElem_map, List.getElem_range, List.getElem_set]
  by_cases hik : k = i
  · subst hik
    simp
  · rw [if_neg hik]
    by_cases h3 : i < k
    · rw [if_pos h3, if_pos (by omega)]
    · rw [if_neg h3, if_neg (by omega)]
attribute [local irreducible] nN
set_option maxHeartbeats 4000000 in
set_option maxRecDepth 100000 in
theorem nonce_any (b f c : Int) (w : World) (hbf : b % 4294967296 = f) (hc : 0 ≤ c ∧ c < 18446744073709551616) :
    Calls Try.prog 23 #[.int .i64 b, .int .u64 c] w (Go.Proofs.Ytljmjeaocojnmaa.Com.GivesArr .u8 (nN f c 12) w) := by
  have hf0 : 0 ≤ f := by omega
  have hf1 : f < 4294967296 := by omega
  obtain ⟨hc0, hc1⟩ := hc
  have HF : Hid (b % 4294967296 = f) := Lib.hid hbf
  clear hbf
  go_enter Try.func23, Try.ntmps23
  go_wp2_with (first
    | ((with_reducible refine gate_dst (N := 4) rfl ?_); refine alloc_arr rfl 40 rfl .u8 (List.replicate 12 0) (fun w => Try.zeroValue40 w) (by first | (go_simp; done) | (go_simp; rfl)) ?_; intro w1 hA1 hB1; have HA1 := Lib.hid hA1; have HB1 := Lib.hid hB1; clear hA1 hB1)
    | ((with_reducible refine gate_dst (N := 5) rfl ?_); refine alloc_arr rfl 40 rfl .u8 (List.replicate 12 0) (fun w => Try.zeroValue40 w) (by first | (go_simp; done) | (go_simp; rfl)) ?_; intro w2 hA2 hB2; have HA2 := Lib.hid hA2; have HA12 := Lib.hid (HA1.out.next hB2); have HB2 := Lib.hid (below_next HB1.out hB2); clear hA2 hB2)
    | fail)
  generalize hg5 : w1.heap.size = g5 at *
  generalize hg4 : w.heap.size = g4 at *
  have HG : Hid (g4 = w.heap.size ∧ g4 < g5) := Lib.hid ⟨hg4.symm, by have := HA1.out.lt; omega⟩
  clear hg5 hg4
  go_loopw [10] (fun iv wr => ∃ k : Nat, iv = .int .i64 k ∧ k ≤ 12 ∧ Hid (Arr .u8 40 wr g5 (nN f c k)) ∧ Hid (Arr .u8 40 wr g4 (List.replicate 12 0)) ∧ Hid (Below g4 w wr)) (fun iv _ => 12 - (intOf iv).toNat)
  case atStart => exact ⟨0, rfl, by omega, Lib.hid (by rw [nN_zero]; exact HA2.out), HA12, HB2⟩
  case round =>
    clear HA1 HA2 HA12 HB1 HB2
    obtain ⟨k, rfl, hk, hA, hZ, hB⟩ := hrel
    by_cases hk12 : k < 12
    · have HS := Lib.hid (nN_succ f c k hk12)
      have hcl := hA.out.cellN k (by rw [nN_length]; omega)
      have hfr := hA.out.free k
      have hff := HF.out
      obtain ⟨q, hq⟩ : ∃ q, q = k := ⟨_, rfl⟩
      have HQ := Lib.hid hq
      clear hq
      rcases (show k = 0 ∨ k = 1 ∨ k = 2 ∨ k = 3 ∨ k = 4 ∨ k = 5 ∨ k = 6 ∨ k = 7 ∨ k = 8 ∨ k = 9 ∨ k = 10 ∨ k = 11 by omega) with rfl | rfl | rfl | rfl | rfl | rfl | rfl | rfl | rfl | rfl | rfl | rfl
      · have HV : Hid (nvF f c 0 = f / 16777216) := Lib.hid (by unfold nvF; first | (simp; done) | (simp; omega))
        go_wp2_with fail
        go_roundw
        case rel => exact ⟨q + 1, by rw [HQ.out]; rfl, by rw [HQ.out]; omega, Lib.hid (by rw [HQ.out, HS.out, HV.out]; exact hA.out.put 0 _), Lib.hid (hZ.out.far _ (by have := HG.out.2; show g4 ≠ g5; omega) _), Lib.hid (below_setCell hB.out _ _ (by have := HG.out.2; omega) _)⟩
        case measure => simp [intOf]
      · have HV : Hid (nvF f c 1 = f / 65536 % 256) := Lib.hid (by unfold nvF; first | (simp; done) | (simp; omega))
        go_wp2_with fail
        go_roundw
        case rel => exact ⟨q + 1, by rw [HQ.out]; rfl, by rw [HQ.out]; omega, Lib.hid (by rw [HQ.out, HS.out, HV.out]; exact hA.out.put 1 _), Lib.hid (hZ.out.far _ (by have := HG.out.2; show g4 ≠ g5; omega) _), Lib.hid (below_setCell hB.out _ _ (by have := HG.out.2; omega) _)⟩
        case measure => simp [intOf]
      · have HV : Hid (nvF f c 2 = f / 256 % 256) := Lib.hid (by unfold nvF; first | (simp; done) | (simp; omega))
        go_wp2_with fail
        go_roundw
        case rel => exact ⟨q + 1, by rw [HQ.out]; rfl, by rw [HQ.out]; omega, Lib.hid (by rw [HQ.out, HS.out, HV.out]; exact hA.out.put 2 _), Lib.hid (hZ.out.far _ (by have := HG.out.2; show g4 ≠ g5; omega) _), Lib.hid (below_setCell hB.out _ _ (by have := HG.out.2; omega) _)⟩
        case measure => simp [intOf]
      · have HV : Hid (nvF f c 3 = f % 256) := Lib.hid (by unfold nvF; first | (simp; done) | (simp; omega))
        go_wp2_with fail
        go_roundw
        case rel => exact ⟨q + 1, by rw [HQ.out]; rfl, by rw [HQ.out]; omega, Lib.hid (by rw [HQ.out, HS.out, HV.out]; exact hA.out.put 3 _), Lib.hid (hZ.out.far _ (by have := HG.out.2; show g4 ≠ g5; omega) _), Lib.hid (below_setCell hB.out _ _ (by have := HG.out.2; omega) _)⟩
        case measure => simp [intOf]
      · have HV : Hid (nvF f c 4 = c / 72057594037927936) := Lib.hid (by unfold nvF; first | (simp; done) | (simp; omega))
        go_wp2_with fail
        go_roundw
        case rel => exact ⟨q + 1, by rw [HQ.out]; rfl, by rw [HQ.out]; omega, Lib.hid (by rw [HQ.out, HS.out, HV.out]; exact hA.out.put 4 _), Lib.hid (hZ.out.far _ (by have := HG.out.2; show g4 ≠ g5; omega) _), Lib.hid (below_setCell hB.out _ _ (by have := HG.out.2; omega) _)⟩
        case measure => simp [intOf]
      · have HV : Hid (nvF f c 5 = c / 281474976710656 % 256) := Lib.hid (by unfold nvF; first | (simp; done) | (simp; omega))
        go_wp2_with fail
        go_roundw
        case rel => exact ⟨q + 1, by rw [HQ.out]; rfl, by rw [HQ.out]; omega, Lib.hid (by rw [HQ.out, HS.out, HV.out]; exact hA.out.put 5 _), Lib.hid (hZ.out.far _ (by have := HG.out.2; show g4 ≠ g5; omega) _), Lib.hid (below_setCell hB.out _ _ (by have := HG.out.2; omega) _)⟩
        case measure => simp [intOf]
      · have HV : Hid (nvF f c 6 = c / 1099511627776 % 256) := Lib.hid (by unfold nvF; first | (simp; done) | (simp; omega))
        go_wp2_with fail
        go_roundw
        case rel => exact ⟨q + 1, by rw [HQ.out]; rfl, by rw [HQ.out]; omega, Lib.hid (by rw [HQ.out, HS.out, HV.out]; exact hA.out.put 6 _), Lib.hid (hZ.out.far _ (by have := HG.out.2; show g4 ≠ g5; omega) _), Lib.hid (below_setCell hB.out _ _ (by have := HG.out.2; omega) _)⟩
        case measure => simp [intOf]
      · have HV : Hid (nvF f c 7 = c / 4294967296 % 256) := Lib.hid (by unfold nvF; first | (simp; done) | (simp; omega))
        go_wp2_with fail
        go_roundw
        case rel => exact ⟨q + 1, by rw [HQ.out]; rfl, by rw [HQ.out]; omega, Lib.hid (by rw [HQ.out, HS.out, HV.out]; exact hA.out.put 7 _), Lib.hid (hZ.out.far _ (by have := HG.out.2; show g4 ≠ g5; omega) _), Lib.hid (below_setCell hB.out _ _ (by have := HG.out.2; omega) _)⟩
        case measure => simp [intOf]
      · have HV : Hid (nvF f c 8 = c / 16777216 % 256) := Lib.hid (by unfold nvF; first | (simp; done) | (simp; omega))
        go_wp2_with fail
        go_roundw
        case rel => exact ⟨q + 1, by rw [HQ.out]; rfl, by rw [HQ.out]; omega, Lib.hid (by rw [HQ.out, HS.out, HV.out]; exact hA.out.put 8 _), Lib.hid (hZ.out.far _ (by have := HG.out.2; show g4 ≠ g5; omega) _), Lib.hid (below_setCell hB.out _ _ (by have := HG.out.2; omega) _)⟩
        case measure => simp [intOf]
      · have HV : Hid (nvF f c 9 = c / 65536 % 256) := Lib.hid (by unfold nvF; first | (simp; done) | (simp; omega))
        go_wp2_with fail
        go_roundw
        case rel => exact ⟨q + 1, by rw [HQ.out]; rfl, by rw [HQ.out]; omega, Lib.hid (by rw [HQ.out, HS.out, HV.out]; exact hA.out.put 9 _), Lib.hid (hZ.out.far _ (by have := HG.out.2; show g4 ≠ g5; omega) _), Lib.hid (below_setCell hB.out _ _ (by have := HG.out.2; omega) _)⟩
        case measure => simp [intOf]
      · have HV : Hid (nvF f c 10 = c / 256 % 256) := Lib.hid (by unfold nvF; first | (simp; done) | (simp; omega))
        go_wp2_with fail
        go_roundw
        case rel => exact ⟨q + 1, by rw [HQ.out]; rfl, by rw [HQ.out]; omega, Lib.hid (by rw [HQ.out, HS.out, HV.out]; exact hA.out.put 10 _), Lib.hid (hZ.out.far _ (by have := HG.out.2; show g4 ≠ g5; omega) _), Lib.hid (below_setCell hB.out _ _ (by have := HG.out.2; omega) _)⟩
        case measure => simp [intOf]
      · have HV : Hid (nvF f c 11 = c % 256) := Lib.hid (by unfold nvF; first | (simp; done) | (simp; omega))
        go_wp2_with fail
        go_roundw
        case rel => exact ⟨q + 1, by rw [HQ.out]; rfl, by rw [HQ.out]; omega, Lib.hid (by rw [HQ.out, HS.out, HV.out]; exact hA.out.put 11 _), Lib.hid (hZ.out.far _ (by have := HG.out.2; show g4 ≠ g5; omega) _), Lib.hid (below_setCell hB.out _ _ (by have := HG.out.2; omega) _)⟩
        case measure => simp [intOf]
    · have hk' : k = 12 := by omega
      subst hk'
      obtain ⟨xs, hxs⟩ : ∃ xs, xs = nN f c 12 := ⟨_, rfl⟩
      have HL : Hid (xs.length = 12) := Lib.hid (by rw [hxs, nN_length])
      rw [← hxs] at hA ⊢
      obtain ⟨wo, hwo⟩ : ∃ wo : World, wo = wr := ⟨_, rfl⟩
      subst hwo
      have HXS := Lib.hid hxs
      clear hxs
      go_wp2_with (first
        | ((with_reducible refine gate_dst (N := 32) rfl ?_); refine load_arr rfl 40 _ rfl g5 rfl .u8 _ _ _ _ hA.out Try.underlying40 (by rw [HL.out]; kernel_rfl) ?_)
        | ((with_reducible refine gate_store (t := 40) (p := 4) rfl ?_); refine store_arr rfl 40 _ _ rfl g4 .u8 xs rfl rfl 40 _ hZ.out (by rw [HL.out]; rfl) (by rw [HL.out]; kernel_rfl) ?_; intro w6 hA6 hw6; have hB6 := below_setRow hB.out g4 (Nat.le_refl _) (nums .u8 xs).toArray; rw [← hw6] at hB6; have HA6 := Lib.hid hA6; have HB6 := Lib.hid hB6; clear hw6 hA6 hB6)
        | fail)
      exact bodyPost_ret (results_arr rfl _ _ g4 .u8 _ _ _ xs rfl HA6.out Try.underlying40 (by rw [HL.out]; kernel_rfl)) rfl ⟨by rw [HXS.out], by rw [← HG.out.1]; exact HB6.out⟩
end Go.Proofs.Ytljmjeaocojnmaa.HCa
