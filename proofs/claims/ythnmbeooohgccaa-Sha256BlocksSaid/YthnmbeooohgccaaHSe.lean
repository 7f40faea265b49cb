/- The contract of padlockref01's Sum, by hand. -/
import Derived.Test.YthnmbeooohgccaaHSd
set_option linter.unusedVariables false
set_option linter.unusedSimpArgs false
namespace Go.Proofs.Ythnmbeooohgccaa.HSa
open Go.RowKit Go.Proofs.YthnmbeooohgccaaW.PrintWords Go.Proofs.YthnmbeooohgccaaW.PrintLast Go.Proofs.YthnmbeooohgccaaW.PrintMore Go.Proofs.Ythnmbeooohgccaa.Kit Go.Proofs.Ythnmbeooohgccaa.Sa
attribute [local irreducible] outR
set_option maxHeartbeats 2000000 in
set_option maxRecDepth 100000 in
theorem rsum_any (k : Nat) (A0 : Option Addr) (c0 : Nat) (l0 s0 cs all : List Int) (st : Nat → List Int) (w : World)
    (hr0 : Kd.C (Kd.int .u8) w A0 l0.length l0) (hc0 : l0.length ≤ c0) (hK : padlockref01_Constants.f k = some (s0, cs))
    (hF : padlockref01_Filled.f k l0 = some all) (hS : Steps32 k all s0 cs st) :
    Calls Try.prog 56 #[.slice A0 l0.length c0] w (OutB w (outR (st (all.length / 64)) 8)) := by
  have HR0 := Lib.hid hr0
  have HF := Lib.hid hF
  have HS := Lib.hid hS
  have HK := Lib.hid (padlockref01_Constants.calls k s0 cs w hK)
  clear hr0 hF hS hK
  go_enter Try.func56, Try.ntmps56
  go_wp2_with fail
  refine HK.out.mono ?_
  rintro e w1 ⟨v1, v2, rfl, hO1, hO2, hB⟩
  obtain ⟨A1, c1, e1⟩ := Kd.R_slice hO1
  obtain ⟨A2, c2, e2⟩ := Kd.R_slice hO2
  subst e1 e2
  obtain ⟨_, hcl1, hC1⟩ := Kd.R_reads' hO1
  obtain ⟨_, hcl2, hC2⟩ := Kd.R_reads' hO2
  have HC0 := Lib.hid (Kd.C_below HR0.out hB)
  have HC1 := Lib.hid hC1
  have HC2 := Lib.hid hC2
  have HB := Lib.hid hB
  clear hO1 hO2 hB hC1 hC2
  go_wp2_with fail
  refine (summed_any k A0 c0 l0 A1 c1 s0 A2 c2 cs all st w1 HC0.out hc0 HC1.out hcl1 HC2.out hcl2 HF.out HS.out).mono ?_
  rintro e w2 ⟨v3, rfl, hO3, hB3⟩
  have HO3 := Lib.hid hO3
  have HB3 := Lib.hid hB3
  clear hO3 hB3
  go_wp2_with fail
  go_ret
  exact ⟨_, rfl, Kd.R_lower HO3.out HB.out.size, below_next HB.out HB3.out⟩
end Go.Proofs.Ythnmbeooohgccaa.HSa
