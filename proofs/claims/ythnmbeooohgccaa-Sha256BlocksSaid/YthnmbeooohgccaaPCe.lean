/- Layer 1's constants: some of the reference's roots, reckoned by the kernel. -/
import Derived.Test.YthnmbeooohgccaaSa2
set_option linter.unusedVariables false
namespace Go.Proofs.Ythnmbeooohgccaa.HSa
open Go.RowKit Go.Proofs.YthnmbeooohgccaaW.PrintWords Go.Proofs.Ythnmbeooohgccaa.Sa
set_option maxRecDepth 100000
theorem root_241 : padlockref01_Root.f 250 241 true = some 958139571 := by decide +kernel
theorem root_251 : padlockref01_Root.f 250 251 true = some 1322822218 := by decide +kernel
theorem root_257 : padlockref01_Root.f 250 257 true = some 1537002063 := by decide +kernel
theorem root_263 : padlockref01_Root.f 250 263 true = some 1747873779 := by decide +kernel
theorem root_269 : padlockref01_Root.f 250 269 true = some 1955562222 := by decide +kernel
theorem root_271 : padlockref01_Root.f 250 271 true = some 2024104815 := by decide +kernel
theorem root_277 : padlockref01_Root.f 250 277 true = some 2227730452 := by decide +kernel
theorem root_281 : padlockref01_Root.f 250 281 true = some 2361852424 := by decide +kernel
theorem root_283 : padlockref01_Root.f 250 283 true = some 2428436474 := by decide +kernel
theorem root_293 : padlockref01_Root.f 250 293 true = some 2756734187 := by decide +kernel
theorem root_307 : padlockref01_Root.f 250 307 true = some 3204031479 := by decide +kernel
theorem root_311 : padlockref01_Root.f 250 311 true = some 3329325298 := by decide +kernel
end Go.Proofs.Ythnmbeooohgccaa.HSa
