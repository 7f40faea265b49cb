/- Layer 1's constants: some of the reference's roots, reckoned by the kernel. -/
import Derived.Test.YthnmbeooohgccaaSa2
set_option linter.unusedVariables false
namespace Go.Proofs.Ythnmbeooohgccaa.HSa
open Go.RowKit Go.Proofs.YthnmbeooohgccaaW.PrintWords Go.Proofs.Ythnmbeooohgccaa.Sa
set_option maxRecDepth 100000
theorem root_2 : padlockref01_Root.f 250 2 true = some 1116352408 := by decide +kernel
theorem sqrt_2 : padlockref01_Root.f 250 2 false = some 1779033703 := by decide +kernel
theorem root_3 : padlockref01_Root.f 250 3 true = some 1899447441 := by decide +kernel
theorem sqrt_3 : padlockref01_Root.f 250 3 false = some 3144134277 := by decide +kernel
theorem root_5 : padlockref01_Root.f 250 5 true = some 3049323471 := by decide +kernel
theorem sqrt_5 : padlockref01_Root.f 250 5 false = some 1013904242 := by decide +kernel
theorem root_7 : padlockref01_Root.f 250 7 true = some 3921009573 := by decide +kernel
theorem sqrt_7 : padlockref01_Root.f 250 7 false = some 2773480762 := by decide +kernel
theorem root_11 : padlockref01_Root.f 250 11 true = some 961987163 := by decide +kernel
theorem sqrt_11 : padlockref01_Root.f 250 11 false = some 1359893119 := by decide +kernel
theorem root_13 : padlockref01_Root.f 250 13 true = some 1508970993 := by decide +kernel
theorem sqrt_13 : padlockref01_Root.f 250 13 false = some 2600822924 := by decide +kernel
theorem root_17 : padlockref01_Root.f 250 17 true = some 2453635748 := by decide +kernel
theorem sqrt_17 : padlockref01_Root.f 250 17 false = some 528734635 := by decide +kernel
theorem root_19 : padlockref01_Root.f 250 19 true = some 2870763221 := by decide +kernel
theorem sqrt_19 : padlockref01_Root.f 250 19 false = some 1541459225 := by decide +kernel
theorem root_23 : padlockref01_Root.f 250 23 true = some 3624381080 := by decide +kernel
theorem root_29 : padlockref01_Root.f 250 29 true = some 310598401 := by decide +kernel
theorem root_31 : padlockref01_Root.f 250 31 true = some 607225278 := by decide +kernel
theorem root_37 : padlockref01_Root.f 250 37 true = some 1426881987 := by decide +kernel
theorem root_41 : padlockref01_Root.f 250 41 true = some 1925078388 := by decide +kernel
end Go.Proofs.Ythnmbeooohgccaa.HSa
