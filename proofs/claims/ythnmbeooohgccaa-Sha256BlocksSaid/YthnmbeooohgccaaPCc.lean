/- Layer 1's constants: some of the reference's roots, reckoned by the kernel. -/
import Derived.Test.YthnmbeooohgccaaSa2
set_option linter.unusedVariables false
namespace Go.Proofs.Ythnmbeooohgccaa.HSa
open Go.RowKit Go.Proofs.YthnmbeooohgccaaW.PrintWords Go.Proofs.Ythnmbeooohgccaa.Sa
set_option maxRecDepth 100000
theorem root_103 : padlockref01_Root.f 250 103 true = some 2952996808 := by decide +kernel
theorem root_107 : padlockref01_Root.f 250 107 true = some 3210313671 := by decide +kernel
theorem root_109 : padlockref01_Root.f 250 109 true = some 3336571891 := by decide +kernel
theorem root_113 : padlockref01_Root.f 250 113 true = some 3584528711 := by decide +kernel
theorem root_127 : padlockref01_Root.f 250 127 true = some 113926993 := by decide +kernel
theorem root_131 : padlockref01_Root.f 250 131 true = some 338241895 := by decide +kernel
theorem root_137 : padlockref01_Root.f 250 137 true = some 666307205 := by decide +kernel
theorem root_139 : padlockref01_Root.f 250 139 true = some 773529912 := by decide +kernel
theorem root_149 : padlockref01_Root.f 250 149 true = some 1294757372 := by decide +kernel
theorem root_151 : padlockref01_Root.f 250 151 true = some 1396182291 := by decide +kernel
theorem root_157 : padlockref01_Root.f 250 157 true = some 1695183700 := by decide +kernel
theorem root_163 : padlockref01_Root.f 250 163 true = some 1986661051 := by decide +kernel
theorem root_167 : padlockref01_Root.f 250 167 true = some 2177026350 := by decide +kernel
end Go.Proofs.Ythnmbeooohgccaa.HSa
