/- The contract of padlocklaw12.knows, by hand. -/
import Derived.Test.YthnmbeooohgccaaHBn
import Derived.Test.YthnmbeooohgccaaKit
set_option linter.unusedVariables false
set_option linter.unusedSimpArgs false
namespace Go.Proofs.Ythnmbeooohgccaa.HBm
open Go.RowKit Go.Proofs.YthnmbeooohgccaaW.PrintWords Go.Proofs.YthnmbeooohgccaaW.PrintLast Go.Proofs.YthnmbeooohgccaaW.PrintMore Go.Proofs.Ythnmbeooohgccaa.Ba Go.Proofs.Ythnmbeooohgccaa.Kit

def padlocklaw12_knows.f : Option Bool := some true
set_option maxHeartbeats 400000 in
theorem padlocklaw12_knows.calls (r : Bool) (w : World) (h : padlocklaw12_knows.f = some r) :
    Calls Try.prog 15 #[] w fun e w' => e = .returned (.bool r) ∧ Below w.heap.size w w' := by
  obtain rfl := Option.some.inj h
  clear h
  have hf1 : Hid (bitmap_First.f [5, 0] 0 16 = some 1) := Lib.hid (by decide +kernel)
  have hf2 : Hid (bitmap_Count.f [5, 0] 0 16 = some 2) := Lib.hid (by decide +kernel)
  go_enter Try.func15, Try.ntmps15
  go_wp2_with fail
  refine (set_out none 0 [] 0 true _ (by simp) (by omega)).mono ?_
  rintro e w1 ⟨v1, rfl, hO, hB⟩
  have HB := Aside0.mk hB
  clear hB hO
  go_wp2_with fail
  refine (bitmap_First.calls _ 2 [5, 0] 0 16 1 _ (lit_reads .u8 [5, 0] rfl rfl (by decide) w1 _) (by simp) hf1.out).mono ?_
  rintro e w2 ⟨rfl, hB⟩
  have HB2 := Aside0.mk (below_next (below_alloc HB.out _) hB)
  clear hB HB
  go_wp2_with fail
  refine (bitmap_Count.calls _ 2 [5, 0] 0 16 2 _ (lit_reads .u8 [5, 0] rfl rfl (by decide) w2 _) (by simp) hf2.out).mono ?_
  rintro e w3 ⟨rfl, hB⟩
  have HB3 := Aside0.mk (below_next (below_alloc HB2.out _) hB)
  clear hB HB2
  go_wp2_with fail
  refine (get_any none 0 [] 0 _ (Kd.C_nil _ _) (by omega)).mono ?_
  rintro e w4 ⟨rfl, rfl⟩
  have hg1 : getv [] 0 = false := by decide +kernel
  rw [hg1]
  clear hg1
  go_wp2_with fail
  refine (get_any _ 1 [4] 2 _ (lit_reads .u8 [4] rfl rfl (by decide) w3 _) (by omega)).mono ?_
  rintro e w5 ⟨rfl, rfl⟩
  have hg2 : getv [4] 2 = true := by decide +kernel
  rw [hg2]
  clear hg2
  go_wp2
  go_ret
  exact ⟨rfl, below_alloc HB3.out _⟩
end Go.Proofs.Ythnmbeooohgccaa.HBm
