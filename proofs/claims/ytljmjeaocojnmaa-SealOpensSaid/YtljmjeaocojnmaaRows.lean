/-
  No cell of these rows narrows 'for every input' (looked for: loops, veiled, ifaces, maps, wideKeys, modest, calm, conditions, laid).
  DERIVED. THE GIVEN ROWS OF THIS SEAT. 12 by the template 'for every input the law returns true; each argument reads behind the call as it read before'; 0 by the template 'total and deterministic' (their statements: YtljmjeaocojnmaaTotals.lean).
  GIVEN WITH THE SEED: the statements are not yours to turn. If you find one false, say at which input.
  Laid BY PROGRAM, IN A SANDBOX (cutbox-rows.mjs): the forced cells as the released guide's own fill.sh prints them over the translation 013ebda30e3bfb88… (all of the seat's roots in one cut). By AI agents, Wed Nov 11 2026. No macro, syntax, notation, axiom, sorry.
-/
import Derived.Test.YtljmjeaocojnmaaChecked
import GoSem.Claim
import GoSem.ClaimJoined
import GoSem.ClaimMapViews
import Derived.JoinedTies
import Derived.KernelRfl
namespace Go.Proofs.Ytljmjeaocojnmaa
/- THE CELL 'sum', in the pinned program and in every row, IS THE sha256 OF THE DUMP (.gsa) THAT YtljmjeaocojnmaaProg.lean LOADS. Nothing in Lean hashes anything: it is a label: what it is worth is what the hold of that sum in a sandbox is worth. -/
noncomputable def Try.pinned : Pinned := { name := "ytljmjeaocojnmaa", sum := "013ebda30e3bfb886f7534344d6c284a2fe05efd464af39efd30645301eebe6e", checked := Try.checked }
namespace Rows
def none {H : Type} : Left H := { results := [], args := [] }

/-- 'padlocklaw02.HmacKeys': WHATEVER THE INPUT: true; the input reads as it did. -/
def hmacKeysSpec : ChangeSpec := { name := "hmacKeys", fn := fun _ => fun
  | [d1, d2, d3] => { results := [.lit (.bool true)], args := [d1, d2, d3] }
  | _ => none }
def hmacKeysRow : OpenClaim := { program := "ytljmjeaocojnmaa", sum := "013ebda30e3bfb886f7534344d6c284a2fe05efd464af39efd30645301eebe6e", func := "padlock/padlocklaw02.HmacKeys", spec := "hmacKeys", unfollowed := true, recurses := true, apart := false }
def HmacKeysSaid : Prop := hmacKeysRow.holds Try.pinned (OpenSpec.ofChange hmacKeysSpec)

/-- ITS FALSE NEIGHBOUR: 'it returns false'. Refute it at one input. -/
def hmacKeysWrong : ChangeSpec := { name := "hmacKeys", fn := fun _ => fun
  | [d1, d2, d3] => { results := [.lit (.bool false)], args := [d1, d2, d3] }
  | _ => none }
def HmacKeysWrongFalsely : Prop := hmacKeysRow.holds Try.pinned (OpenSpec.ofChange hmacKeysWrong)

/-- 'padlocklaw02.HmacSums': WHATEVER THE INPUT: true; the input reads as it did. -/
def hmacSumsSpec : ChangeSpec := { name := "hmacSums", fn := fun _ => fun
  | [d1, d2, d3] => { results := [.lit (.bool true)], args := [d1, d2, d3] }
  | _ => none }
def hmacSumsRow : OpenClaim := { program := "ytljmjeaocojnmaa", sum := "013ebda30e3bfb886f7534344d6c284a2fe05efd464af39efd30645301eebe6e", func := "padlock/padlocklaw02.HmacSums", spec := "hmacSums", unfollowed := true, recurses := true, apart := false }
def HmacSumsSaid : Prop := hmacSumsRow.holds Try.pinned (OpenSpec.ofChange hmacSumsSpec)

/-- ITS FALSE NEIGHBOUR: 'it returns false'. Refute it at one input. -/
def hmacSumsWrong : ChangeSpec := { name := "hmacSums", fn := fun _ => fun
  | [d1, d2, d3] => { results := [.lit (.bool false)], args := [d1, d2, d3] }
  | _ => none }
def HmacSumsWrongFalsely : Prop := hmacSumsRow.holds Try.pinned (OpenSpec.ofChange hmacSumsWrong)

/-- 'padlocklaw02.HmacParts': WHATEVER THE INPUT: true; the input reads as it did. -/
def hmacPartsSpec : ChangeSpec := { name := "hmacParts", fn := fun _ => fun
  | [d1, d2, d3] => { results := [.lit (.bool true)], args := [d1, d2, d3] }
  | _ => none }
def hmacPartsRow : OpenClaim := { program := "ytljmjeaocojnmaa", sum := "013ebda30e3bfb886f7534344d6c284a2fe05efd464af39efd30645301eebe6e", func := "padlock/padlocklaw02.HmacParts", spec := "hmacParts", unfollowed := true, recurses := true, apart := false }
def HmacPartsSaid : Prop := hmacPartsRow.holds Try.pinned (OpenSpec.ofChange hmacPartsSpec)

/-- ITS FALSE NEIGHBOUR: 'it returns false'. Refute it at one input. -/
def hmacPartsWrong : ChangeSpec := { name := "hmacParts", fn := fun _ => fun
  | [d1, d2, d3] => { results := [.lit (.bool false)], args := [d1, d2, d3] }
  | _ => none }
def HmacPartsWrongFalsely : Prop := hmacPartsRow.holds Try.pinned (OpenSpec.ofChange hmacPartsWrong)

/-- 'padlocklaw04.CtrCodes': WHATEVER THE INPUT: true; the input reads as it did. -/
def ctrCodesSpec : ChangeSpec := { name := "ctrCodes", fn := fun _ => fun
  | [d1, d2, d3, d4, d5] => { results := [.lit (.bool true)], args := [d1, d2, d3, d4, d5] }
  | _ => none }
def ctrCodesRow : OpenClaim := { program := "ytljmjeaocojnmaa", sum := "013ebda30e3bfb886f7534344d6c284a2fe05efd464af39efd30645301eebe6e", func := "padlock/padlocklaw04.CtrCodes", spec := "ctrCodes", unfollowed := true, recurses := true, apart := false }
def CtrCodesSaid : Prop := ctrCodesRow.holds Try.pinned (OpenSpec.ofChange ctrCodesSpec)

/-- ITS FALSE NEIGHBOUR: 'it returns false'. Refute it at one input. -/
def ctrCodesWrong : ChangeSpec := { name := "ctrCodes", fn := fun _ => fun
  | [d1, d2, d3, d4, d5] => { results := [.lit (.bool false)], args := [d1, d2, d3, d4, d5] }
  | _ => none }
def CtrCodesWrongFalsely : Prop := ctrCodesRow.holds Try.pinned (OpenSpec.ofChange ctrCodesWrong)

/-- 'padlocklaw04.CtrBack': WHATEVER THE INPUT: true; the input reads as it did. -/
def ctrBackSpec : ChangeSpec := { name := "ctrBack", fn := fun _ => fun
  | [d1, d2, d3, d4] => { results := [.lit (.bool true)], args := [d1, d2, d3, d4] }
  | _ => none }
def ctrBackRow : OpenClaim := { program := "ytljmjeaocojnmaa", sum := "013ebda30e3bfb886f7534344d6c284a2fe05efd464af39efd30645301eebe6e", func := "padlock/padlocklaw04.CtrBack", spec := "ctrBack", unfollowed := true, recurses := true, apart := false }
def CtrBackSaid : Prop := ctrBackRow.holds Try.pinned (OpenSpec.ofChange ctrBackSpec)

/-- ITS FALSE NEIGHBOUR: 'it returns false'. Refute it at one input. -/
def ctrBackWrong : ChangeSpec := { name := "ctrBack", fn := fun _ => fun
  | [d1, d2, d3, d4] => { results := [.lit (.bool false)], args := [d1, d2, d3, d4] }
  | _ => none }
def CtrBackWrongFalsely : Prop := ctrBackRow.holds Try.pinned (OpenSpec.ofChange ctrBackWrong)

/-- 'padlocklaw13.InodePuts': WHATEVER THE INPUT: true; the input reads as it did. -/
def inodePutsSpec : ChangeSpec := { name := "inodePuts", fn := fun _ => fun
  | [d1, d2, d3] => { results := [.lit (.bool true)], args := [d1, d2, d3] }
  | _ => none }
def inodePutsRow : OpenClaim := { program := "ytljmjeaocojnmaa", sum := "013ebda30e3bfb886f7534344d6c284a2fe05efd464af39efd30645301eebe6e", func := "padlock/padlocklaw13.InodePuts", spec := "inodePuts", unfollowed := true, recurses := true, apart := false }
def InodePutsSaid : Prop := inodePutsRow.holds Try.pinned (OpenSpec.ofChange inodePutsSpec)

/-- ITS FALSE NEIGHBOUR: 'it returns false'. Refute it at one input. -/
def inodePutsWrong : ChangeSpec := { name := "inodePuts", fn := fun _ => fun
  | [d1, d2, d3] => { results := [.lit (.bool false)], args := [d1, d2, d3] }
  | _ => none }
def InodePutsWrongFalsely : Prop := inodePutsRow.holds Try.pinned (OpenSpec.ofChange inodePutsWrong)

/-- 'padlocklaw13.InodeBack': WHATEVER THE INPUT: true; the input reads as it did. -/
def inodeBackSpec : ChangeSpec := { name := "inodeBack", fn := fun _ => fun
  | [d1, d2, d3, d4] => { results := [.lit (.bool true)], args := [d1, d2, d3, d4] }
  | _ => none }
def inodeBackRow : OpenClaim := { program := "ytljmjeaocojnmaa", sum := "013ebda30e3bfb886f7534344d6c284a2fe05efd464af39efd30645301eebe6e", func := "padlock/padlocklaw13.InodeBack", spec := "inodeBack", unfollowed := true, recurses := true, apart := false }
def InodeBackSaid : Prop := inodeBackRow.holds Try.pinned (OpenSpec.ofChange inodeBackSpec)

/-- ITS FALSE NEIGHBOUR: 'it returns false'. Refute it at one input. -/
def inodeBackWrong : ChangeSpec := { name := "inodeBack", fn := fun _ => fun
  | [d1, d2, d3, d4] => { results := [.lit (.bool false)], args := [d1, d2, d3, d4] }
  | _ => none }
def InodeBackWrongFalsely : Prop := inodeBackRow.holds Try.pinned (OpenSpec.ofChange inodeBackWrong)

/-- 'padlocklaw08.MerkleRoots': WHATEVER THE INPUT: true; the input reads as it did. -/
def merkleRootsSpec : ChangeSpec := { name := "merkleRoots", fn := fun _ => fun
  | [d1, d2, d3, d4] => { results := [.lit (.bool true)], args := [d1, d2, d3, d4] }
  | _ => none }
def merkleRootsRow : OpenClaim := { program := "ytljmjeaocojnmaa", sum := "013ebda30e3bfb886f7534344d6c284a2fe05efd464af39efd30645301eebe6e", func := "padlock/padlocklaw08.MerkleRoots", spec := "merkleRoots", unfollowed := true, recurses := true, apart := false }
def MerkleRootsSaid : Prop := merkleRootsRow.holds Try.pinned (OpenSpec.ofChange merkleRootsSpec)

/-- ITS FALSE NEIGHBOUR: 'it returns false'. Refute it at one input. -/
def merkleRootsWrong : ChangeSpec := { name := "merkleRoots", fn := fun _ => fun
  | [d1, d2, d3, d4] => { results := [.lit (.bool false)], args := [d1, d2, d3, d4] }
  | _ => none }
def MerkleRootsWrongFalsely : Prop := merkleRootsRow.holds Try.pinned (OpenSpec.ofChange merkleRootsWrong)

/-- 'padlocklaw08.MerkleChecks': WHATEVER THE INPUT: true; the input reads as it did. -/
def merkleChecksSpec : ChangeSpec := { name := "merkleChecks", fn := fun _ => fun
  | [d1, d2, d3, d4, d5] => { results := [.lit (.bool true)], args := [d1, d2, d3, d4, d5] }
  | _ => none }
def merkleChecksRow : OpenClaim := { program := "ytljmjeaocojnmaa", sum := "013ebda30e3bfb886f7534344d6c284a2fe05efd464af39efd30645301eebe6e", func := "padlock/padlocklaw08.MerkleChecks", spec := "merkleChecks", unfollowed := true, recurses := true, apart := false }
def MerkleChecksSaid : Prop := merkleChecksRow.holds Try.pinned (OpenSpec.ofChange merkleChecksSpec)

/-- ITS FALSE NEIGHBOUR: 'it returns false'. Refute it at one input. -/
def merkleChecksWrong : ChangeSpec := { name := "merkleChecks", fn := fun _ => fun
  | [d1, d2, d3, d4, d5] => { results := [.lit (.bool false)], args := [d1, d2, d3, d4, d5] }
  | _ => none }
def MerkleChecksWrongFalsely : Prop := merkleChecksRow.holds Try.pinned (OpenSpec.ofChange merkleChecksWrong)

/-- 'padlocklaw08.MerkleWays': WHATEVER THE INPUT: true; the input reads as it did. -/
def merkleWaysSpec : ChangeSpec := { name := "merkleWays", fn := fun _ => fun
  | [d1, d2, d3, d4] => { results := [.lit (.bool true)], args := [d1, d2, d3, d4] }
  | _ => none }
def merkleWaysRow : OpenClaim := { program := "ytljmjeaocojnmaa", sum := "013ebda30e3bfb886f7534344d6c284a2fe05efd464af39efd30645301eebe6e", func := "padlock/padlocklaw08.MerkleWays", spec := "merkleWays", unfollowed := true, recurses := true, apart := false }
def MerkleWaysSaid : Prop := merkleWaysRow.holds Try.pinned (OpenSpec.ofChange merkleWaysSpec)

/-- ITS FALSE NEIGHBOUR: 'it returns false'. Refute it at one input. -/
def merkleWaysWrong : ChangeSpec := { name := "merkleWays", fn := fun _ => fun
  | [d1, d2, d3, d4] => { results := [.lit (.bool false)], args := [d1, d2, d3, d4] }
  | _ => none }
def MerkleWaysWrongFalsely : Prop := merkleWaysRow.holds Try.pinned (OpenSpec.ofChange merkleWaysWrong)

/-- 'padlocklaw07.SealCloses': WHATEVER THE INPUT: true; the input reads as it did. -/
def sealClosesSpec : ChangeSpec := { name := "sealCloses", fn := fun _ => fun
  | [d1, d2, d3, d4, d5] => { results := [.lit (.bool true)], args := [d1, d2, d3, d4, d5] }
  | _ => none }
def sealClosesRow : OpenClaim := { program := "ytljmjeaocojnmaa", sum := "013ebda30e3bfb886f7534344d6c284a2fe05efd464af39efd30645301eebe6e", func := "padlock/padlocklaw07.SealCloses", spec := "sealCloses", unfollowed := true, recurses := true, apart := false }
def SealClosesSaid : Prop := sealClosesRow.holds Try.pinned (OpenSpec.ofChange sealClosesSpec)

/-- ITS FALSE NEIGHBOUR: 'it returns false'. Refute it at one input. -/
def sealClosesWrong : ChangeSpec := { name := "sealCloses", fn := fun _ => fun
  | [d1, d2, d3, d4, d5] => { results := [.lit (.bool false)], args := [d1, d2, d3, d4, d5] }
  | _ => none }
def SealClosesWrongFalsely : Prop := sealClosesRow.holds Try.pinned (OpenSpec.ofChange sealClosesWrong)

/-- 'padlocklaw07.SealOpens': WHATEVER THE INPUT: true; the input reads as it did. -/
def sealOpensSpec : ChangeSpec := { name := "sealOpens", fn := fun _ => fun
  | [d1, d2, d3, d4, d5] => { results := [.lit (.bool true)], args := [d1, d2, d3, d4, d5] }
  | _ => none }
def sealOpensRow : OpenClaim := { program := "ytljmjeaocojnmaa", sum := "013ebda30e3bfb886f7534344d6c284a2fe05efd464af39efd30645301eebe6e", func := "padlock/padlocklaw07.SealOpens", spec := "sealOpens", unfollowed := true, recurses := true, apart := false }
def SealOpensSaid : Prop := sealOpensRow.holds Try.pinned (OpenSpec.ofChange sealOpensSpec)

/-- ITS FALSE NEIGHBOUR: 'it returns false'. Refute it at one input. -/
def sealOpensWrong : ChangeSpec := { name := "sealOpens", fn := fun _ => fun
  | [d1, d2, d3, d4, d5] => { results := [.lit (.bool false)], args := [d1, d2, d3, d4, d5] }
  | _ => none }
def SealOpensWrongFalsely : Prop := sealOpensRow.holds Try.pinned (OpenSpec.ofChange sealOpensWrong)

/- THE SECOND FORM. 'bulk': how many values and letters a reading holds, each counted each time it is reached (what is shared counts as often as it is met; a slice's spare places count too). A statement '..UptoSaid' is the law's where the arguments, and the package variables that the reading takes, are together of bulk at most 1048576: NARROWER than '..Said'. Prove '..Said' where nothing that the law and all that it calls make is longer than what came in: it says more and counts as full. Else prove '..UptoSaid'. A law counts once. -/
mutual
def uptoBulk {H : Type} : DataW H → Nat
  | .lit (.string bytes) => bytes.length + 1
  | .lit _ => 1
  | .nil => 1
  | .ptr d => uptoBulk d + 1
  | .slice elems spare => uptoBulkAll elems + uptoBulkAll spare + 1
  | .agg parts => uptoBulkAll parts + 1
  | .iface _ d => uptoBulk d + 1
  | .map entries => uptoBulkEntries entries + 1
  | .held _ => 1
def uptoBulkAll {H : Type} : List (DataW H) → Nat
  | [] => 0
  | d :: r => uptoBulk d + uptoBulkAll r
def uptoBulkEntries {H : Type} : List (Lit × DataW H) → Nat
  | [] => 0
  | x :: r => uptoBulkEntry x + uptoBulkEntries r
def uptoBulkEntry {H : Type} : Lit × DataW H → Nat
  | (.string bytes, d) => bytes.length + uptoBulk d + 1
  | (_, d) => uptoBulk d + 1
 end
def uptoSmall : (H : Type) → List (DataW H) → Bool := fun _ ds => decide (uptoBulkAll ds ≤ 1048576)
def OpenSpec.upto (s : _root_.Go.ChangeSpec) : _root_.Go.OpenSpec := { _root_.Go.OpenSpec.ofChange s with cond := some uptoSmall }

/-- 'padlocklaw02.HmacKeys', WHERE WHAT IT READS IS OF BULK AT MOST 1048576: true; the input reads as it did. -/
def hmacKeysUptoRow : OpenClaim := { program := "ytljmjeaocojnmaa", sum := "013ebda30e3bfb886f7534344d6c284a2fe05efd464af39efd30645301eebe6e", func := "padlock/padlocklaw02.HmacKeys", spec := "hmacKeys", unfollowed := true, recurses := true, apart := false, narrowed := true }
def HmacKeysUptoSaid : Prop := hmacKeysUptoRow.holds Try.pinned (OpenSpec.upto hmacKeysSpec)

/-- 'padlocklaw02.HmacSums', WHERE WHAT IT READS IS OF BULK AT MOST 1048576: true; the input reads as it did. -/
def hmacSumsUptoRow : OpenClaim := { program := "ytljmjeaocojnmaa", sum := "013ebda30e3bfb886f7534344d6c284a2fe05efd464af39efd30645301eebe6e", func := "padlock/padlocklaw02.HmacSums", spec := "hmacSums", unfollowed := true, recurses := true, apart := false, narrowed := true }
def HmacSumsUptoSaid : Prop := hmacSumsUptoRow.holds Try.pinned (OpenSpec.upto hmacSumsSpec)

/-- 'padlocklaw02.HmacParts', WHERE WHAT IT READS IS OF BULK AT MOST 1048576: true; the input reads as it did. -/
def hmacPartsUptoRow : OpenClaim := { program := "ytljmjeaocojnmaa", sum := "013ebda30e3bfb886f7534344d6c284a2fe05efd464af39efd30645301eebe6e", func := "padlock/padlocklaw02.HmacParts", spec := "hmacParts", unfollowed := true, recurses := true, apart := false, narrowed := true }
def HmacPartsUptoSaid : Prop := hmacPartsUptoRow.holds Try.pinned (OpenSpec.upto hmacPartsSpec)

/-- 'padlocklaw04.CtrCodes', WHERE WHAT IT READS IS OF BULK AT MOST 1048576: true; the input reads as it did. -/
def ctrCodesUptoRow : OpenClaim := { program := "ytljmjeaocojnmaa", sum := "013ebda30e3bfb886f7534344d6c284a2fe05efd464af39efd30645301eebe6e", func := "padlock/padlocklaw04.CtrCodes", spec := "ctrCodes", unfollowed := true, recurses := true, apart := false, narrowed := true }
def CtrCodesUptoSaid : Prop := ctrCodesUptoRow.holds Try.pinned (OpenSpec.upto ctrCodesSpec)

/-- 'padlocklaw04.CtrBack', WHERE WHAT IT READS IS OF BULK AT MOST 1048576: true; the input reads as it did. -/
def ctrBackUptoRow : OpenClaim := { program := "ytljmjeaocojnmaa", sum := "013ebda30e3bfb886f7534344d6c284a2fe05efd464af39efd30645301eebe6e", func := "padlock/padlocklaw04.CtrBack", spec := "ctrBack", unfollowed := true, recurses := true, apart := false, narrowed := true }
def CtrBackUptoSaid : Prop := ctrBackUptoRow.holds Try.pinned (OpenSpec.upto ctrBackSpec)

/-- 'padlocklaw13.InodePuts', WHERE WHAT IT READS IS OF BULK AT MOST 1048576: true; the input reads as it did. -/
def inodePutsUptoRow : OpenClaim := { program := "ytljmjeaocojnmaa", sum := "013ebda30e3bfb886f7534344d6c284a2fe05efd464af39efd30645301eebe6e", func := "padlock/padlocklaw13.InodePuts", spec := "inodePuts", unfollowed := true, recurses := true, apart := false, narrowed := true }
def InodePutsUptoSaid : Prop := inodePutsUptoRow.holds Try.pinned (OpenSpec.upto inodePutsSpec)

/-- 'padlocklaw13.InodeBack', WHERE WHAT IT READS IS OF BULK AT MOST 1048576: true; the input reads as it did. -/
def inodeBackUptoRow : OpenClaim := { program := "ytljmjeaocojnmaa", sum := "013ebda30e3bfb886f7534344d6c284a2fe05efd464af39efd30645301eebe6e", func := "padlock/padlocklaw13.InodeBack", spec := "inodeBack", unfollowed := true, recurses := true, apart := false, narrowed := true }
def InodeBackUptoSaid : Prop := inodeBackUptoRow.holds Try.pinned (OpenSpec.upto inodeBackSpec)

/-- 'padlocklaw08.MerkleRoots', WHERE WHAT IT READS IS OF BULK AT MOST 1048576: true; the input reads as it did. -/
def merkleRootsUptoRow : OpenClaim := { program := "ytljmjeaocojnmaa", sum := "013ebda30e3bfb886f7534344d6c284a2fe05efd464af39efd30645301eebe6e", func := "padlock/padlocklaw08.MerkleRoots", spec := "merkleRoots", unfollowed := true, recurses := true, apart := false, narrowed := true }
def MerkleRootsUptoSaid : Prop := merkleRootsUptoRow.holds Try.pinned (OpenSpec.upto merkleRootsSpec)

/-- 'padlocklaw08.MerkleChecks', WHERE WHAT IT READS IS OF BULK AT MOST 1048576: true; the input reads as it did. -/
def merkleChecksUptoRow : OpenClaim := { program := "ytljmjeaocojnmaa", sum := "013ebda30e3bfb886f7534344d6c284a2fe05efd464af39efd30645301eebe6e", func := "padlock/padlocklaw08.MerkleChecks", spec := "merkleChecks", unfollowed := true, recurses := true, apart := false, narrowed := true }
def MerkleChecksUptoSaid : Prop := merkleChecksUptoRow.holds Try.pinned (OpenSpec.upto merkleChecksSpec)

/-- 'padlocklaw08.MerkleWays', WHERE WHAT IT READS IS OF BULK AT MOST 1048576: true; the input reads as it did. -/
def merkleWaysUptoRow : OpenClaim := { program := "ytljmjeaocojnmaa", sum := "013ebda30e3bfb886f7534344d6c284a2fe05efd464af39efd30645301eebe6e", func := "padlock/padlocklaw08.MerkleWays", spec := "merkleWays", unfollowed := true, recurses := true, apart := false, narrowed := true }
def MerkleWaysUptoSaid : Prop := merkleWaysUptoRow.holds Try.pinned (OpenSpec.upto merkleWaysSpec)

/-- 'padlocklaw07.SealCloses', WHERE WHAT IT READS IS OF BULK AT MOST 1048576: true; the input reads as it did. -/
def sealClosesUptoRow : OpenClaim := { program := "ytljmjeaocojnmaa", sum := "013ebda30e3bfb886f7534344d6c284a2fe05efd464af39efd30645301eebe6e", func := "padlock/padlocklaw07.SealCloses", spec := "sealCloses", unfollowed := true, recurses := true, apart := false, narrowed := true }
def SealClosesUptoSaid : Prop := sealClosesUptoRow.holds Try.pinned (OpenSpec.upto sealClosesSpec)

/-- 'padlocklaw07.SealOpens', WHERE WHAT IT READS IS OF BULK AT MOST 1048576: true; the input reads as it did. -/
def sealOpensUptoRow : OpenClaim := { program := "ytljmjeaocojnmaa", sum := "013ebda30e3bfb886f7534344d6c284a2fe05efd464af39efd30645301eebe6e", func := "padlock/padlocklaw07.SealOpens", spec := "sealOpens", unfollowed := true, recurses := true, apart := false, narrowed := true }
def SealOpensUptoSaid : Prop := sealOpensUptoRow.holds Try.pinned (OpenSpec.upto sealOpensSpec)

end Rows
end Go.Proofs.Ytljmjeaocojnmaa
