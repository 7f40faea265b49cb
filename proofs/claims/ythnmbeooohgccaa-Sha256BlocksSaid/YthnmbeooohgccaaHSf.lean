/- Layer 1: knows, and the walk of Sha256Sums. -/
import Derived.Test.YthnmbeooohgccaaPSd
import Derived.Test.YthnmbeooohgccaaPCz
set_option linter.unusedVariables false
set_option linter.unusedSimpArgs false
namespace Go.Proofs.Ythnmbeooohgccaa.HSa
open Go.RowKit Go.Proofs.YthnmbeooohgccaaW.PrintWords Go.Proofs.YthnmbeooohgccaaW.PrintLast Go.Proofs.YthnmbeooohgccaaW.PrintMore Go.Proofs.Ythnmbeooohgccaa.Kit Go.Proofs.Ythnmbeooohgccaa.Sa
def TellsT (w : World) (e : Ending) (w' : World) : Prop := e = .returned (.bool true) ∧ Below w.heap.size w w'
theorem sumF_length (l : List Int) : (sumF l).length = 32 := outN_length _ 32 (by decide)
set_option maxRecDepth 100000 in
theorem sum_nil : (sumF []).getD 0 0 = 227 ∧ (sumF []).getD 1 0 = 176 ∧ (sumF []).getD 2 0 = 196 ∧ (sumF []).getD 31 0 = 85 := by decide +kernel
attribute [local irreducible] sumF
set_option maxHeartbeats 1000000 in
set_option maxRecDepth 100000 in
theorem knows_any (w : World) : Calls Try.prog 54 #[] w (TellsT w) := by
  obtain ⟨q0, q1, q2, q3⟩ := sum_nil
  obtain ⟨xs, hxs⟩ : ∃ xs, xs = sumF [] := ⟨_, rfl⟩
  have hL : xs.length = 32 := by rw [hxs]; exact sumF_length []
  have HS := Lib.hid (sum_any none 0 [] w (Kd.C_nil _ _) (by decide) (by decide))
  rw [← hxs] at q0 q1 q2 q3 HS
  clear hxs
  have HL := Lib.hid hL
  have Q0 := Lib.hid q0
  have Q1 := Lib.hid q1
  have Q2 := Lib.hid q2
  have Q3 := Lib.hid q3
  clear hL q0 q1 q2 q3
  go_enter Try.func54, Try.ntmps54
  go_wp2_with fail
  refine HS.out.mono ?_
  rintro e w1 ⟨rfl, hB⟩
  have HB := Lib.hid hB
  clear hB
  go_wp2_with (first
    | ((with_reducible refine gate_dst (N := 1) rfl ?_); refine alloc_arr rfl 69 rfl .u8 (List.replicate 32 0) (fun w => Try.zeroValue69 w) (by first | (go_simp; done) | (go_simp; rfl)) ?_; intro w2 hA2 hB2)
    | ((with_reducible refine gate_store (t := 69) (p := 1) rfl ?_); refine store_arr rfl 69 _ _ rfl w1.heap.size .u8 xs rfl rfl 69 _ hA2 (by rw [HL.out]; rfl) (by rw [HL.out]; kernel_rfl) ?_; intro w3 hA3 hw3; have hB3 := below_setRow (below_next HB.out hB2) w1.heap.size HB.out.size (nums .u8 xs).toArray; rw [← hw3] at hB3; have hc0 := hA3.cellN 0 (by rw [HL.out]; decide); have hc1 := hA3.cellN 1 (by rw [HL.out]; decide); have hc2 := hA3.cellN 2 (by rw [HL.out]; decide); have hc31 := hA3.cellN 31 (by rw [HL.out]; decide); rw [Q0.out] at hc0; rw [Q1.out] at hc1; rw [Q2.out] at hc2; rw [Q3.out] at hc31; have HB3 := Lib.hid hB3; clear hw3 hB3 hA2 hB2))
  go_ret
  exact ⟨rfl, HB3.out⟩
end Go.Proofs.Ythnmbeooohgccaa.HSa
