/- Layer 4: knows; the walk of CtrCodes. -/
import Derived.Test.YtljmjeaocojnmaaHCb
import Derived.Test.YtljmjeaocojnmaaHCc
import Derived.Test.YtljmjeaocojnmaaMake
import Derived.Deep.DeepFit
set_option linter.unusedVariables false
set_option linter.unusedSimpArgs false
namespace Go.Proofs.Ytljmjeaocojnmaa.HCa
open Go.RowKit Go.Proofs.YtljmjeaocojnmaaW.PrintWords Go.Proofs.YtljmjeaocojnmaaW.PrintLast Go.Proofs.YtljmjeaocojnmaaW.PrintMore Go.Proofs.Ytljmjeaocojnmaa.Kit Go.Proofs.Ytljmjeaocojnmaa.HAa Go.Proofs.Ytljmjeaocojnmaa.Cb
attribute [local go_sem ↓] Go.wp_at_zero Go.wp_at_succ
def Tells4 (w : World) (e : Ending) (w' : World) : Prop := e = .returned (.bool true) ∧ Below w.heap.size w w'
def z16 : List Int := List.replicate 16 0
def z12 : List Int := List.replicate 12 0
set_option maxRecDepth 100000 in
theorem code_lit : (xN z16 z12 z16 16).getD 0 0 = 102 ∧ (xN z16 z12 z16 16).getD 15 0 = 46 := by decide +kernel
set_option maxRecDepth 100000 in
theorem nonce_lit : (nN 1 2 12).getD 3 0 = 1 ∧ (nN 1 2 12).getD 11 0 = 2 := by decide +kernel
theorem z16_b : Bytes z16 := by intro y hy; have := List.eq_of_mem_replicate hy; omega
theorem z12_b : Bytes z12 := by intro y hy; have := List.eq_of_mem_replicate hy; omega
attribute [local irreducible] encF xN nN
set_option maxHeartbeats 2000000 in
set_option maxRecDepth 100000 in
theorem knows4_any (w : World) : Calls Try.prog 21 #[] w (Tells4 w) := by
  obtain ⟨q0, q15⟩ := code_lit
  obtain ⟨n3, n11⟩ := nonce_lit
  obtain ⟨xs, hxs⟩ : ∃ xs, xs = xN z16 z12 z16 16 := ⟨_, rfl⟩
  obtain ⟨ns, hns⟩ : ∃ ns, ns = nN 1 2 12 := ⟨_, rfl⟩
  have HL : Hid (xs.length = 16) := Lib.hid (by rw [hxs, xN_length]; rfl)
  have HNL : Hid (ns.length = 12) := Lib.hid (by rw [hns]; exact nN_length _ _ _)
  rw [← hxs] at q0 q15
  rw [← hns] at n3 n11
  have HXS := Lib.hid hxs
  have Q0 := Lib.hid q0
  have Q15 := Lib.hid q15
  have N3 := Lib.hid n3
  have N11 := Lib.hid n11
  have HNC : Hid (Calls Try.prog 23 #[.int .i64 1, .int .u64 2] w (Go.Proofs.Ytljmjeaocojnmaa.Com.GivesArr .u8 ns w)) := Lib.hid (by rw [hns]; exact nonce_any 1 1 2 w (by decide) (by decide))
  clear hxs hns q0 q15 n3 n11
  go_enter Try.func21, Try.ntmps21
  go_wp2_with fail
  refine HNC.out.mono ?_
  rintro e w1 ⟨rfl, hB1⟩
  have HB1 := Lib.hid hB1
  clear hB1 HNC
  go_wp2_with (first
    | ((with_reducible refine gate_dst (N := 1) rfl ?_); refine alloc_arr rfl 40 rfl .u8 (List.replicate 12 0) (fun w => Try.zeroValue40 w) (by first | (go_simp; done) | (go_simp; rfl)) ?_; intro w2 hA2 hB2)
    | ((with_reducible refine gate_store (t := 40) (p := 1) rfl ?_); refine store_arr rfl 40 _ _ rfl w1.heap.size .u8 ns rfl rfl 40 _ hA2 (by rw [HNL.out]; rfl) (by rw [HNL.out]; kernel_rfl) ?_; intro w3 hA3 hw3; have hB3 := below_setRow (below_next HB1.out hB2) w1.heap.size HB1.out.size (nums .u8 ns).toArray; rw [← hw3] at hB3; have HA3 := Lib.hid hA3; have HB3 := Lib.hid hB3; clear hw3 hA3 hB3 hA2 hB2)
    | ((with_reducible refine gate_dst (N := 6) rfl ?_); refine make_arr rfl 22 _ _ rfl 5 .u8 16 rfl rfl (fun w => by kernel_rfl) ?_; intro w4 hA4 hB4; have HA4 := Lib.hid hA4; have HA34 := Lib.hid (HA3.out.next hB4); have HB4 := Lib.hid (below_next HB3.out hB4); clear hA4 hB4)
    | fail)
  refine ((by
    have h := code_any z16 z12 (some ⟨w3.heap.size, 0, none⟩) 16 z16 w4 rfl z16_b rfl z12_b (by exact HA4.out.reads 16 rfl (by decide)) (by decide) (by decide)
    have hl : z16.length = 16 := rfl
    rw [hl, ← HXS.out] at h
    exact h : Calls _ _ _ _ (Go.Proofs.Ytljmjeaocojnmaa.Com.OutB w4 xs)).mono ?_)
  rintro e w5 ⟨v5, rfl, hO5, hB5⟩
  obtain ⟨A5, c5, e5, hlc5, hrd5⟩ := Kd.R_reads hO5
  rw [HL.out] at e5 hlc5 hrd5
  obtain ⟨b, off, eA, hcells⟩ := C_cells hrd5 (by decide)
  subst e5
  subst eA
  have hc0 := hcells 0 (by decide)
  have hc15 := hcells 15 (by decide)
  rw [Q0.out] at hc0
  rw [Q15.out] at hc15
  have hA5 := HA34.out.next hB5
  have hn3 := hA5.cellN 3 (by rw [HNL.out]; decide)
  have hn11 := hA5.cellN 11 (by rw [HNL.out]; decide)
  rw [N3.out] at hn3
  rw [N11.out] at hn11
  have HB5 := Lib.hid (below_next HB4.out hB5)
  rw [Nat.add_zero] at hc0
  clear hA5 hcells hO5 hB5 hrd5
  go_wp2_with fail
  go_ret
  exact ⟨rfl, HB5.out⟩
end Go.Proofs.Ytljmjeaocojnmaa.HCa
