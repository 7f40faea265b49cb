/- Layer 1's constants: some of the reference's roots, reckoned by the kernel. -/
import Derived.Test.YthnmbeooohgccaaSa2
set_option linter.unusedVariables false
namespace Go.Proofs.Ythnmbeooohgccaa.HSa
open Go.RowKit Go.Proofs.YthnmbeooohgccaaW.PrintWords Go.Proofs.Ythnmbeooohgccaa.Sa
set_option maxRecDepth 100000
theorem root_173 : padlockref01_Root.f 250 173 true = some 2456956037 := by decide +kernel
theorem root_179 : padlockref01_Root.f 250 179 true = some 2730485921 := by decide +kernel
theorem root_181 : padlockref01_Root.f 250 181 true = some 2820302411 := by decide +kernel
theorem root_191 : padlockref01_Root.f 250 191 true = some 3259730800 := by decide +kernel
theorem root_193 : padlockref01_Root.f 250 193 true = some 3345764771 := by decide +kernel
theorem root_197 : padlockref01_Root.f 250 197 true = some 3516065817 := by decide +kernel
theorem root_199 : padlockref01_Root.f 250 199 true = some 3600352804 := by decide +kernel
theorem root_211 : padlockref01_Root.f 250 211 true = some 4094571909 := by decide +kernel
theorem root_223 : padlockref01_Root.f 250 223 true = some 275423344 := by decide +kernel
theorem root_227 : padlockref01_Root.f 250 227 true = some 430227734 := by decide +kernel
theorem root_229 : padlockref01_Root.f 250 229 true = some 506948616 := by decide +kernel
theorem root_233 : padlockref01_Root.f 250 233 true = some 659060556 := by decide +kernel
theorem root_239 : padlockref01_Root.f 250 239 true = some 883997877 := by decide +kernel
end Go.Proofs.Ythnmbeooohgccaa.HSa
