/- Layer 1's constants: some of the reference's roots, reckoned by the kernel. -/
import Derived.Test.YthnmbeooohgccaaSa2
set_option linter.unusedVariables false
namespace Go.Proofs.Ythnmbeooohgccaa.HSa
open Go.RowKit Go.Proofs.YthnmbeooohgccaaW.PrintWords Go.Proofs.Ythnmbeooohgccaa.Sa
set_option maxRecDepth 100000
theorem root_43 : padlockref01_Root.f 250 43 true = some 2162078206 := by decide +kernel
theorem root_47 : padlockref01_Root.f 250 47 true = some 2614888103 := by decide +kernel
theorem root_53 : padlockref01_Root.f 250 53 true = some 3248222580 := by decide +kernel
theorem root_59 : padlockref01_Root.f 250 59 true = some 3835390401 := by decide +kernel
theorem root_61 : padlockref01_Root.f 250 61 true = some 4022224774 := by decide +kernel
theorem root_67 : padlockref01_Root.f 250 67 true = some 264347078 := by decide +kernel
theorem root_71 : padlockref01_Root.f 250 71 true = some 604807628 := by decide +kernel
theorem root_73 : padlockref01_Root.f 250 73 true = some 770255983 := by decide +kernel
theorem root_79 : padlockref01_Root.f 250 79 true = some 1249150122 := by decide +kernel
theorem root_83 : padlockref01_Root.f 250 83 true = some 1555081692 := by decide +kernel
theorem root_89 : padlockref01_Root.f 250 89 true = some 1996064986 := by decide +kernel
theorem root_97 : padlockref01_Root.f 250 97 true = some 2554220882 := by decide +kernel
theorem root_101 : padlockref01_Root.f 250 101 true = some 2821834349 := by decide +kernel
end Go.Proofs.Ythnmbeooohgccaa.HSa
