/- Layer 3: the walk of AesTurns. -/
import Derived.Test.YthnmbeooohgccaaHAg
import Derived.Deep.DeepFit
set_option linter.unusedVariables false
set_option linter.unusedSimpArgs false
namespace Go.Proofs.Ythnmbeooohgccaa.HAa
open Go.RowKit Go.Proofs.YthnmbeooohgccaaW.PrintWords Go.Proofs.YthnmbeooohgccaaW.PrintLast Go.Proofs.YthnmbeooohgccaaW.PrintMore Go.Proofs.Ythnmbeooohgccaa.Kit Go.Proofs.Ythnmbeooohgccaa.Ra
attribute [local irreducible] encF Wl keyN boxT
set_option maxHeartbeats 2000000 in
set_option maxRecDepth 100000 in
theorem turns_any (key block : List Int) (w : World) (h16 : key.length = 16) (hb16 : block.length = 16) (hkb : Bytes key) (hbb : Bytes block) :
    Calls Try.prog 11 #[.agg (nums .u8 key).toArray, .agg (nums .u8 block).toArray] w (TellsT w) := by
  have HL := Lib.hid h16
  have HLB := Lib.hid hb16
  have HKB := Lib.hid hkb
  have HBB := Lib.hid hbb
  obtain ⟨E, hE⟩ : ∃ E, E = encF key block := ⟨_, rfl⟩
  have HEL : Hid (E.length = 16) := Lib.hid (by rw [hE]; exact encF_length _ _ hb16)
  have HE := Lib.hid hE
  clear h16 hb16 hkb hbb hE
  go_enter Try.func11, Try.ntmps11
  go_wp2_with (first
    | ((with_reducible refine gate_dst (N := 2) rfl ?_); refine arr_new rfl 79 .u8 key (by first | (go_simp; done) | (go_simp; rfl)) ?_; intro w1 hA1 hB1)
    | ((with_reducible refine gate_dst (N := 3) rfl ?_); refine arr_new rfl 79 .u8 block (by first | (go_simp; done) | (go_simp; rfl)) ?_; intro w2 hA2 hB2; have hA12 := hA1.next hB2; have HA2 := Lib.hid hA2; have HA1 := Lib.hid hA12; have HB2 := Lib.hid (below_next hB1 hB2); have hg12 : w.heap.size < w1.heap.size := hA1.lt; clear hA12 hA1 hB1 hA2 hB2)
    | ((with_reducible refine gate_dst (N := 6) rfl ?_); refine load_arr rfl 79 _ rfl w.heap.size rfl .u8 _ _ _ _ HA1.out Try.underlying79 (by rw [HL.out]; kernel_rfl) ?_)
    | ((with_reducible refine gate_dst (N := 7) rfl ?_); refine load_arr rfl 79 _ rfl w1.heap.size rfl .u8 _ _ _ _ HA2.out Try.underlying79 (by rw [HLB.out]; kernel_rfl) ?_)
    | fail)
  generalize w1.heap.size = g2 at *
  generalize hg1 : w.heap.size = g1 at *
  have HG1 := Lib.hid hg1
  clear hg1
  refine (encrypt_any key block _ HL.out HLB.out HKB.out HBB.out).mono ?_
  rintro e w3 ⟨rfl, hB3⟩
  rw [← HE.out]
  have HA13 := Lib.hid (HA1.out.next hB3)
  have HA23 := Lib.hid (HA2.out.next hB3)
  have HB3 := Lib.hid (HB2.out.trans (hB3.mono (by have := HB2.out.size; have := HG1.out; omega)))
  clear HA1 HA2 HB2 hB3
  go_wp2_with (first
    | ((with_reducible refine gate_dst (N := 5) rfl ?_); refine alloc_arr rfl 79 rfl .u8 (List.replicate 16 0) (fun w => Try.zeroValue79 w) (by first | (go_simp; done) | (go_simp; rfl)) ?_; intro w5 hA5 hB5)
    | ((with_reducible refine gate_store (t := 79) (p := 5) rfl ?_); refine store_arr rfl 79 _ _ rfl w3.heap.size .u8 E rfl rfl 79 _ hA5 (by rw [HEL.out]; rfl) (by rw [HEL.out]; kernel_rfl) ?_; intro w6 hA6 hw6; have hB6 := below_setRow hB5 w3.heap.size (Nat.le_refl _) (nums .u8 E).toArray; rw [← hw6] at hB6; have HA16 := Lib.hid (HA13.out.next hB6); have HA26 := Lib.hid (HA23.out.next hB6); have HE6 := Lib.hid hA6; have HB6 := Lib.hid (HB3.out.trans (hB6.mono (by have := HB3.out.size; have := HG1.out; omega))); clear hw6 hA6 hB6 hA5 hB5)
    | fail)
  generalize w3.heap.size = g5 at *
  clear HA13 HA23 HB3
  have hs1 := Kd.C_string (P := Try.prog) (dst := 9) (c := 16) Try.underlying22 Try.underlying5 Try.underlying9 (HE6.out.drew.reads 16 HEL.out (by decide))
  go_region_with (first
    | (go_at_call 61; refine (rencrypt_any g1 0 16 79 (some ⟨g2, 0, none⟩) 16 key block _ HL.out HLB.out HKB.out HBB.out (by exact HA16.out.drew.reads 16 HL.out (by decide)) (by decide) (by exact ⟨_, HA16.out.drew.out⟩) (by exact HA26.out.drew.reads 16 HLB.out (by decide)) (by decide)).mono ?_; rintro e W1 ⟨v9, rfl, hO9, hB9⟩; rw [← HE.out] at hO9; have hB9' := Lib.hid hB9; have hcy := own_string (P := Try.prog) (dst := 9) Try.underlying22 Try.underlying5 Try.underlying9 (Kd.own_of_R hO9); have hs2 := Kd.C_string (P := Try.prog) (dst := 9) (c := 16) Try.underlying22 Try.underlying5 Try.underlying9 ((HE6.out.drew.next hB9).reads 16 HEL.out (by decide)); clear hO9 hB9)
    | (go_at_call 62; refine (knows_any _).mono ?_; rintro e W2 ⟨rfl, hB10⟩; have HB10 := Lib.hid (below_next (below_next (below_drew (by have h := HB6.out; rw [← HG1.out] at h; exact h)) hB9'.out) hB10); clear hB10))
  all_goals (try go_wp2)
  all_goals go_ret
  all_goals exact ⟨rfl, HB10.out⟩
theorem aesTurns_walk (a0 a1 : List Int) (w : World) (l0 : a0.length = 16) (b0 : Bytes a0) (l1 : a1.length = 16) (b1 : Bytes a1) :
    Calls Try.prog 11 #[.agg (nums .u8 a0).toArray, .agg (nums .u8 a1).toArray] w fun e w' => e = .returned (.bool true) ∧ Below w.heap.size w w' := turns_any a0 a1 w l0 l1 b0 b1
end Go.Proofs.Ythnmbeooohgccaa.HAa
