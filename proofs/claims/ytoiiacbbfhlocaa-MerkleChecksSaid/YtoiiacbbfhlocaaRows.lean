/-
  No cell of these rows narrows 'for every input' (looked for: loops, veiled, ifaces, maps, wideKeys, modest, calm, conditions, laid).
  DERIVED. THE GIVEN ROWS OF THIS SEAT. 12 by the template 'for every input the law returns true; each argument reads behind the call as it read before'; 0 by the template 'total and deterministic' (their statements: YtoiiacbbfhlocaaTotals.lean).
  GIVEN WITH THE SEED: the statements are not yours to turn. If you find one false, say at which input.
  Laid BY PROGRAM, IN A SANDBOX (cutbox-rows.mjs): the forced cells as the released guide's own fill.sh prints them over the translation 246d59b76cad7d04… (all of the seat's roots in one cut). By AI agents, Wed Nov 11 2026. No macro, syntax, notation, axiom, sorry.
-/
import Derived.Test.YtoiiacbbfhlocaaChecked
import GoSem.Claim
import GoSem.ClaimJoined
import GoSem.ClaimMapViews
import Derived.JoinedTies
import Derived.KernelRfl
namespace Go.Proofs.Ytoiiacbbfhlocaa
/- THE CELL 'sum', in the pinned program and in every row, IS THE sha256 OF THE DUMP (.gsa) THAT YtoiiacbbfhlocaaProg.lean LOADS. Nothing in Lean hashes anything: it is a label: what it is worth is what the hold of that sum in a sandbox is worth. -/
noncomputable def Try.pinned : Pinned := { name := "ytoiiacbbfhlocaa", sum := "246d59b76cad7d0414c4d96277cfb1f2c3a207baf703cf952e6e8d86c676d788", checked := Try.checked }
namespace Rows
def none {H : Type} : Left H := { results := [], args := [] }

/-- 'padlocklaw07.SealBack': WHATEVER THE INPUT: true; the input reads as it did. -/
def sealBackSpec : ChangeSpec := { name := "sealBack", fn := fun _ => fun
  | [d1, d2, d3, d4] => { results := [.lit (.bool true)], args := [d1, d2, d3, d4] }
  | _ => none }
def sealBackRow : OpenClaim := { program := "ytoiiacbbfhlocaa", sum := "246d59b76cad7d0414c4d96277cfb1f2c3a207baf703cf952e6e8d86c676d788", func := "padlock/padlocklaw07.SealBack", spec := "sealBack", unfollowed := true, recurses := true, apart := false }
def SealBackSaid : Prop := sealBackRow.holds Try.pinned (OpenSpec.ofChange sealBackSpec)

/-- ITS FALSE NEIGHBOUR: 'it returns false'. Refute it at one input. -/
def sealBackWrong : ChangeSpec := { name := "sealBack", fn := fun _ => fun
  | [d1, d2, d3, d4] => { results := [.lit (.bool false)], args := [d1, d2, d3, d4] }
  | _ => none }
def SealBackWrongFalsely : Prop := sealBackRow.holds Try.pinned (OpenSpec.ofChange sealBackWrong)

/-- 'padlocklaw05.CodecRows': WHATEVER THE INPUT: true; the input reads as it did. -/
def codecRowsSpec : ChangeSpec := { name := "codecRows", fn := fun _ => fun
  | [d1, d2, d3] => { results := [.lit (.bool true)], args := [d1, d2, d3] }
  | _ => none }
def codecRowsRow : OpenClaim := { program := "ytoiiacbbfhlocaa", sum := "246d59b76cad7d0414c4d96277cfb1f2c3a207baf703cf952e6e8d86c676d788", func := "padlock/padlocklaw05.CodecRows", spec := "codecRows", unfollowed := true, recurses := true, apart := false }
def CodecRowsSaid : Prop := codecRowsRow.holds Try.pinned (OpenSpec.ofChange codecRowsSpec)

/-- ITS FALSE NEIGHBOUR: 'it returns false'. Refute it at one input. -/
def codecRowsWrong : ChangeSpec := { name := "codecRows", fn := fun _ => fun
  | [d1, d2, d3] => { results := [.lit (.bool false)], args := [d1, d2, d3] }
  | _ => none }
def CodecRowsWrongFalsely : Prop := codecRowsRow.holds Try.pinned (OpenSpec.ofChange codecRowsWrong)

/-- 'padlocklaw05.CodecBack': WHATEVER THE INPUT: true; the input reads as it did. -/
def codecBackSpec : ChangeSpec := { name := "codecBack", fn := fun _ => fun
  | [d1, d2, d3] => { results := [.lit (.bool true)], args := [d1, d2, d3] }
  | _ => none }
def codecBackRow : OpenClaim := { program := "ytoiiacbbfhlocaa", sum := "246d59b76cad7d0414c4d96277cfb1f2c3a207baf703cf952e6e8d86c676d788", func := "padlock/padlocklaw05.CodecBack", spec := "codecBack", unfollowed := true, recurses := true, apart := false }
def CodecBackSaid : Prop := codecBackRow.holds Try.pinned (OpenSpec.ofChange codecBackSpec)

/-- ITS FALSE NEIGHBOUR: 'it returns false'. Refute it at one input. -/
def codecBackWrong : ChangeSpec := { name := "codecBack", fn := fun _ => fun
  | [d1, d2, d3] => { results := [.lit (.bool false)], args := [d1, d2, d3] }
  | _ => none }
def CodecBackWrongFalsely : Prop := codecBackRow.holds Try.pinned (OpenSpec.ofChange codecBackWrong)

/-- 'padlocklaw13.InodePuts': WHATEVER THE INPUT: true; the input reads as it did. -/
def inodePutsSpec : ChangeSpec := { name := "inodePuts", fn := fun _ => fun
  | [d1, d2, d3] => { results := [.lit (.bool true)], args := [d1, d2, d3] }
  | _ => none }
def inodePutsRow : OpenClaim := { program := "ytoiiacbbfhlocaa", sum := "246d59b76cad7d0414c4d96277cfb1f2c3a207baf703cf952e6e8d86c676d788", func := "padlock/padlocklaw13.InodePuts", spec := "inodePuts", unfollowed := true, recurses := true, apart := false }
def InodePutsSaid : Prop := inodePutsRow.holds Try.pinned (OpenSpec.ofChange inodePutsSpec)

/-- ITS FALSE NEIGHBOUR: 'it returns false'. Refute it at one input. -/
def inodePutsWrong : ChangeSpec := { name := "inodePuts", fn := fun _ => fun
  | [d1, d2, d3] => { results := [.lit (.bool false)], args := [d1, d2, d3] }
  | _ => none }
def InodePutsWrongFalsely : Prop := inodePutsRow.holds Try.pinned (OpenSpec.ofChange inodePutsWrong)

/-- 'padlocklaw13.InodeBack': WHATEVER THE INPUT: true; the input reads as it did. -/
def inodeBackSpec : ChangeSpec := { name := "inodeBack", fn := fun _ => fun
  | [d1, d2, d3, d4] => { results := [.lit (.bool true)], args := [d1, d2, d3, d4] }
  | _ => none }
def inodeBackRow : OpenClaim := { program := "ytoiiacbbfhlocaa", sum := "246d59b76cad7d0414c4d96277cfb1f2c3a207baf703cf952e6e8d86c676d788", func := "padlock/padlocklaw13.InodeBack", spec := "inodeBack", unfollowed := true, recurses := true, apart := false }
def InodeBackSaid : Prop := inodeBackRow.holds Try.pinned (OpenSpec.ofChange inodeBackSpec)

/-- ITS FALSE NEIGHBOUR: 'it returns false'. Refute it at one input. -/
def inodeBackWrong : ChangeSpec := { name := "inodeBack", fn := fun _ => fun
  | [d1, d2, d3, d4] => { results := [.lit (.bool false)], args := [d1, d2, d3, d4] }
  | _ => none }
def InodeBackWrongFalsely : Prop := inodeBackRow.holds Try.pinned (OpenSpec.ofChange inodeBackWrong)

/-- 'padlocklaw19.LockPlays': WHATEVER THE INPUT: true; the input reads as it did. -/
def lockPlaysSpec : ChangeSpec := { name := "lockPlays", fn := fun _ => fun
  | [d1, d2] => { results := [.lit (.bool true)], args := [d1, d2] }
  | _ => none }
def lockPlaysRow : OpenClaim := { program := "ytoiiacbbfhlocaa", sum := "246d59b76cad7d0414c4d96277cfb1f2c3a207baf703cf952e6e8d86c676d788", func := "padlock/padlocklaw19.LockPlays", spec := "lockPlays", unfollowed := true, recurses := true, apart := false }
def LockPlaysSaid : Prop := lockPlaysRow.holds Try.pinned (OpenSpec.ofChange lockPlaysSpec)

/-- ITS FALSE NEIGHBOUR: 'it returns false'. Refute it at one input. -/
def lockPlaysWrong : ChangeSpec := { name := "lockPlays", fn := fun _ => fun
  | [d1, d2] => { results := [.lit (.bool false)], args := [d1, d2] }
  | _ => none }
def LockPlaysWrongFalsely : Prop := lockPlaysRow.holds Try.pinned (OpenSpec.ofChange lockPlaysWrong)

/-- 'padlocklaw19.LockApart': WHATEVER THE INPUT: true; the input reads as it did. -/
def lockApartSpec : ChangeSpec := { name := "lockApart", fn := fun _ => fun
  | [d] => { results := [.lit (.bool true)], args := [d] }
  | _ => none }
def lockApartRow : OpenClaim := { program := "ytoiiacbbfhlocaa", sum := "246d59b76cad7d0414c4d96277cfb1f2c3a207baf703cf952e6e8d86c676d788", func := "padlock/padlocklaw19.LockApart", spec := "lockApart", unfollowed := true, recurses := true, apart := false }
def LockApartSaid : Prop := lockApartRow.holds Try.pinned (OpenSpec.ofChange lockApartSpec)

/-- ITS FALSE NEIGHBOUR: 'it returns false'. Refute it at one input. -/
def lockApartWrong : ChangeSpec := { name := "lockApart", fn := fun _ => fun
  | [d] => { results := [.lit (.bool false)], args := [d] }
  | _ => none }
def LockApartWrongFalsely : Prop := lockApartRow.holds Try.pinned (OpenSpec.ofChange lockApartWrong)

/-- 'padlocklaw06.DiskKeeps': WHATEVER THE INPUT: true; the input reads as it did. -/
def diskKeepsSpec : ChangeSpec := { name := "diskKeeps", fn := fun _ => fun
  | [d1, d2, d3, d4] => { results := [.lit (.bool true)], args := [d1, d2, d3, d4] }
  | _ => none }
def diskKeepsRow : OpenClaim := { program := "ytoiiacbbfhlocaa", sum := "246d59b76cad7d0414c4d96277cfb1f2c3a207baf703cf952e6e8d86c676d788", func := "padlock/padlocklaw06.DiskKeeps", spec := "diskKeeps", unfollowed := true, recurses := true, apart := false }
def DiskKeepsSaid : Prop := diskKeepsRow.holds Try.pinned (OpenSpec.ofChange diskKeepsSpec)

/-- ITS FALSE NEIGHBOUR: 'it returns false'. Refute it at one input. -/
def diskKeepsWrong : ChangeSpec := { name := "diskKeeps", fn := fun _ => fun
  | [d1, d2, d3, d4] => { results := [.lit (.bool false)], args := [d1, d2, d3, d4] }
  | _ => none }
def DiskKeepsWrongFalsely : Prop := diskKeepsRow.holds Try.pinned (OpenSpec.ofChange diskKeepsWrong)

/-- 'padlocklaw06.DiskPlays': WHATEVER THE INPUT: true; the input reads as it did. -/
def diskPlaysSpec : ChangeSpec := { name := "diskPlays", fn := fun _ => fun
  | [d1, d2] => { results := [.lit (.bool true)], args := [d1, d2] }
  | _ => none }
def diskPlaysRow : OpenClaim := { program := "ytoiiacbbfhlocaa", sum := "246d59b76cad7d0414c4d96277cfb1f2c3a207baf703cf952e6e8d86c676d788", func := "padlock/padlocklaw06.DiskPlays", spec := "diskPlays", unfollowed := true, recurses := true, apart := false }
def DiskPlaysSaid : Prop := diskPlaysRow.holds Try.pinned (OpenSpec.ofChange diskPlaysSpec)

/-- ITS FALSE NEIGHBOUR: 'it returns false'. Refute it at one input. -/
def diskPlaysWrong : ChangeSpec := { name := "diskPlays", fn := fun _ => fun
  | [d1, d2] => { results := [.lit (.bool false)], args := [d1, d2] }
  | _ => none }
def DiskPlaysWrongFalsely : Prop := diskPlaysRow.holds Try.pinned (OpenSpec.ofChange diskPlaysWrong)

/-- 'padlocklaw08.MerkleRoots': WHATEVER THE INPUT: true; the input reads as it did. -/
def merkleRootsSpec : ChangeSpec := { name := "merkleRoots", fn := fun _ => fun
  | [d1, d2, d3, d4] => { results := [.lit (.bool true)], args := [d1, d2, d3, d4] }
  | _ => none }
def merkleRootsRow : OpenClaim := { program := "ytoiiacbbfhlocaa", sum := "246d59b76cad7d0414c4d96277cfb1f2c3a207baf703cf952e6e8d86c676d788", func := "padlock/padlocklaw08.MerkleRoots", spec := "merkleRoots", unfollowed := true, recurses := true, apart := false }
def MerkleRootsSaid : Prop := merkleRootsRow.holds Try.pinned (OpenSpec.ofChange merkleRootsSpec)

/-- ITS FALSE NEIGHBOUR: 'it returns false'. Refute it at one input. -/
def merkleRootsWrong : ChangeSpec := { name := "merkleRoots", fn := fun _ => fun
  | [d1, d2, d3, d4] => { results := [.lit (.bool false)], args := [d1, d2, d3, d4] }
  | _ => none }
def MerkleRootsWrongFalsely : Prop := merkleRootsRow.holds Try.pinned (OpenSpec.ofChange merkleRootsWrong)

/-- 'padlocklaw08.MerkleChecks': WHATEVER THE INPUT: true; the input reads as it did. -/
def merkleChecksSpec : ChangeSpec := { name := "merkleChecks", fn := fun _ => fun
  | [d1, d2, d3, d4, d5] => { results := [.lit (.bool true)], args := [d1, d2, d3, d4, d5] }
  | _ => none }
def merkleChecksRow : OpenClaim := { program := "ytoiiacbbfhlocaa", sum := "246d59b76cad7d0414c4d96277cfb1f2c3a207baf703cf952e6e8d86c676d788", func := "padlock/padlocklaw08.MerkleChecks", spec := "merkleChecks", unfollowed := true, recurses := true, apart := false }
def MerkleChecksSaid : Prop := merkleChecksRow.holds Try.pinned (OpenSpec.ofChange merkleChecksSpec)

/-- ITS FALSE NEIGHBOUR: 'it returns false'. Refute it at one input. -/
def merkleChecksWrong : ChangeSpec := { name := "merkleChecks", fn := fun _ => fun
  | [d1, d2, d3, d4, d5] => { results := [.lit (.bool false)], args := [d1, d2, d3, d4, d5] }
  | _ => none }
def MerkleChecksWrongFalsely : Prop := merkleChecksRow.holds Try.pinned (OpenSpec.ofChange merkleChecksWrong)

/-- 'padlocklaw08.MerkleWays': WHATEVER THE INPUT: true; the input reads as it did. -/
def merkleWaysSpec : ChangeSpec := { name := "merkleWays", fn := fun _ => fun
  | [d1, d2, d3, d4] => { results := [.lit (.bool true)], args := [d1, d2, d3, d4] }
  | _ => none }
def merkleWaysRow : OpenClaim := { program := "ytoiiacbbfhlocaa", sum := "246d59b76cad7d0414c4d96277cfb1f2c3a207baf703cf952e6e8d86c676d788", func := "padlock/padlocklaw08.MerkleWays", spec := "merkleWays", unfollowed := true, recurses := true, apart := false }
def MerkleWaysSaid : Prop := merkleWaysRow.holds Try.pinned (OpenSpec.ofChange merkleWaysSpec)

/-- ITS FALSE NEIGHBOUR: 'it returns false'. Refute it at one input. -/
def merkleWaysWrong : ChangeSpec := { name := "merkleWays", fn := fun _ => fun
  | [d1, d2, d3, d4] => { results := [.lit (.bool false)], args := [d1, d2, d3, d4] }
  | _ => none }
def MerkleWaysWrongFalsely : Prop := merkleWaysRow.holds Try.pinned (OpenSpec.ofChange merkleWaysWrong)

/- THE SECOND FORM. 'bulk': how many values and letters a reading holds, each counted each time it is reached (what is shared counts as often as it is met; a slice's spare places count too). A statement '..UptoSaid' is the law's where the arguments, and the package variables that the reading takes, are together of bulk at most 1048576: NARROWER than '..Said'. Prove '..Said' where nothing that the law and all that it calls make is longer than what came in: it says more and counts as full. Else prove '..UptoSaid'. A law counts once. -/
mutual
def uptoBulk {H : Type} : DataW H → Nat
  | .lit (.string bytes) => bytes.length + 1
  | .lit _ => 1
  | .nil => 1
  | .ptr d => uptoBulk d + 1
  | .slice elems spare => uptoBulkAll elems + uptoBulkAll spare + 1
  | .agg parts => uptoBulkAll parts + 1
  | .iface _ d => uptoBulk d + 1
  | .map entries => uptoBulkEntries entries + 1
  | .held _ => 1
def uptoBulkAll {H : Type} : List (DataW H) → Nat
  | [] => 0
  | d :: r => uptoBulk d + uptoBulkAll r
def uptoBulkEntries {H : Type} : List (Lit × DataW H) → Nat
  | [] => 0
  | x :: r => uptoBulkEntry x + uptoBulkEntries r
def uptoBulkEntry {H : Type} : Lit × DataW H → Nat
  | (.string bytes, d) => bytes.length + uptoBulk d + 1
  | (_, d) => uptoBulk d + 1
 end
def uptoSmall : (H : Type) → List (DataW H) → Bool := fun _ ds => decide (uptoBulkAll ds ≤ 1048576)
def OpenSpec.upto (s : _root_.Go.ChangeSpec) : _root_.Go.OpenSpec := { _root_.Go.OpenSpec.ofChange s with cond := some uptoSmall }

/-- 'padlocklaw07.SealBack', WHERE WHAT IT READS IS OF BULK AT MOST 1048576: true; the input reads as it did. -/
def sealBackUptoRow : OpenClaim := { program := "ytoiiacbbfhlocaa", sum := "246d59b76cad7d0414c4d96277cfb1f2c3a207baf703cf952e6e8d86c676d788", func := "padlock/padlocklaw07.SealBack", spec := "sealBack", unfollowed := true, recurses := true, apart := false, narrowed := true }
def SealBackUptoSaid : Prop := sealBackUptoRow.holds Try.pinned (OpenSpec.upto sealBackSpec)

/-- 'padlocklaw05.CodecRows', WHERE WHAT IT READS IS OF BULK AT MOST 1048576: true; the input reads as it did. -/
def codecRowsUptoRow : OpenClaim := { program := "ytoiiacbbfhlocaa", sum := "246d59b76cad7d0414c4d96277cfb1f2c3a207baf703cf952e6e8d86c676d788", func := "padlock/padlocklaw05.CodecRows", spec := "codecRows", unfollowed := true, recurses := true, apart := false, narrowed := true }
def CodecRowsUptoSaid : Prop := codecRowsUptoRow.holds Try.pinned (OpenSpec.upto codecRowsSpec)

/-- 'padlocklaw05.CodecBack', WHERE WHAT IT READS IS OF BULK AT MOST 1048576: true; the input reads as it did. -/
def codecBackUptoRow : OpenClaim := { program := "ytoiiacbbfhlocaa", sum := "246d59b76cad7d0414c4d96277cfb1f2c3a207baf703cf952e6e8d86c676d788", func := "padlock/padlocklaw05.CodecBack", spec := "codecBack", unfollowed := true, recurses := true, apart := false, narrowed := true }
def CodecBackUptoSaid : Prop := codecBackUptoRow.holds Try.pinned (OpenSpec.upto codecBackSpec)

/-- 'padlocklaw13.InodePuts', WHERE WHAT IT READS IS OF BULK AT MOST 1048576: true; the input reads as it did. -/
def inodePutsUptoRow : OpenClaim := { program := "ytoiiacbbfhlocaa", sum := "246d59b76cad7d0414c4d96277cfb1f2c3a207baf703cf952e6e8d86c676d788", func := "padlock/padlocklaw13.InodePuts", spec := "inodePuts", unfollowed := true, recurses := true, apart := false, narrowed := true }
def InodePutsUptoSaid : Prop := inodePutsUptoRow.holds Try.pinned (OpenSpec.upto inodePutsSpec)

/-- 'padlocklaw13.InodeBack', WHERE WHAT IT READS IS OF BULK AT MOST 1048576: true; the input reads as it did. -/
def inodeBackUptoRow : OpenClaim := { program := "ytoiiacbbfhlocaa", sum := "246d59b76cad7d0414c4d96277cfb1f2c3a207baf703cf952e6e8d86c676d788", func := "padlock/padlocklaw13.InodeBack", spec := "inodeBack", unfollowed := true, recurses := true, apart := false, narrowed := true }
def InodeBackUptoSaid : Prop := inodeBackUptoRow.holds Try.pinned (OpenSpec.upto inodeBackSpec)

/-- 'padlocklaw19.LockPlays', WHERE WHAT IT READS IS OF BULK AT MOST 1048576: true; the input reads as it did. -/
def lockPlaysUptoRow : OpenClaim := { program := "ytoiiacbbfhlocaa", sum := "246d59b76cad7d0414c4d96277cfb1f2c3a207baf703cf952e6e8d86c676d788", func := "padlock/padlocklaw19.LockPlays", spec := "lockPlays", unfollowed := true, recurses := true, apart := false, narrowed := true }
def LockPlaysUptoSaid : Prop := lockPlaysUptoRow.holds Try.pinned (OpenSpec.upto lockPlaysSpec)

/-- 'padlocklaw19.LockApart', WHERE WHAT IT READS IS OF BULK AT MOST 1048576: true; the input reads as it did. -/
def lockApartUptoRow : OpenClaim := { program := "ytoiiacbbfhlocaa", sum := "246d59b76cad7d0414c4d96277cfb1f2c3a207baf703cf952e6e8d86c676d788", func := "padlock/padlocklaw19.LockApart", spec := "lockApart", unfollowed := true, recurses := true, apart := false, narrowed := true }
def LockApartUptoSaid : Prop := lockApartUptoRow.holds Try.pinned (OpenSpec.upto lockApartSpec)

/-- 'padlocklaw06.DiskKeeps', WHERE WHAT IT READS IS OF BULK AT MOST 1048576: true; the input reads as it did. -/
def diskKeepsUptoRow : OpenClaim := { program := "ytoiiacbbfhlocaa", sum := "246d59b76cad7d0414c4d96277cfb1f2c3a207baf703cf952e6e8d86c676d788", func := "padlock/padlocklaw06.DiskKeeps", spec := "diskKeeps", unfollowed := true, recurses := true, apart := false, narrowed := true }
def DiskKeepsUptoSaid : Prop := diskKeepsUptoRow.holds Try.pinned (OpenSpec.upto diskKeepsSpec)

/-- 'padlocklaw06.DiskPlays', WHERE WHAT IT READS IS OF BULK AT MOST 1048576: true; the input reads as it did. -/
def diskPlaysUptoRow : OpenClaim := { program := "ytoiiacbbfhlocaa", sum := "246d59b76cad7d0414c4d96277cfb1f2c3a207baf703cf952e6e8d86c676d788", func := "padlock/padlocklaw06.DiskPlays", spec := "diskPlays", unfollowed := true, recurses := true, apart := false, narrowed := true }
def DiskPlaysUptoSaid : Prop := diskPlaysUptoRow.holds Try.pinned (OpenSpec.upto diskPlaysSpec)

/-- 'padlocklaw08.MerkleRoots', WHERE WHAT IT READS IS OF BULK AT MOST 1048576: true; the input reads as it did. -/
def merkleRootsUptoRow : OpenClaim := { program := "ytoiiacbbfhlocaa", sum := "246d59b76cad7d0414c4d96277cfb1f2c3a207baf703cf952e6e8d86c676d788", func := "padlock/padlocklaw08.MerkleRoots", spec := "merkleRoots", unfollowed := true, recurses := true, apart := false, narrowed := true }
def MerkleRootsUptoSaid : Prop := merkleRootsUptoRow.holds Try.pinned (OpenSpec.upto merkleRootsSpec)

/-- 'padlocklaw08.MerkleChecks', WHERE WHAT IT READS IS OF BULK AT MOST 1048576: true; the input reads as it did. -/
def merkleChecksUptoRow : OpenClaim := { program := "ytoiiacbbfhlocaa", sum := "246d59b76cad7d0414c4d96277cfb1f2c3a207baf703cf952e6e8d86c676d788", func := "padlock/padlocklaw08.MerkleChecks", spec := "merkleChecks", unfollowed := true, recurses := true, apart := false, narrowed := true }
def MerkleChecksUptoSaid : Prop := merkleChecksUptoRow.holds Try.pinned (OpenSpec.upto merkleChecksSpec)

/-- 'padlocklaw08.MerkleWays', WHERE WHAT IT READS IS OF BULK AT MOST 1048576: true; the input reads as it did. -/
def merkleWaysUptoRow : OpenClaim := { program := "ytoiiacbbfhlocaa", sum := "246d59b76cad7d0414c4d96277cfb1f2c3a207baf703cf952e6e8d86c676d788", func := "padlock/padlocklaw08.MerkleWays", spec := "merkleWays", unfollowed := true, recurses := true, apart := false, narrowed := true }
def MerkleWaysUptoSaid : Prop := merkleWaysUptoRow.holds Try.pinned (OpenSpec.upto merkleWaysSpec)

end Rows
end Go.Proofs.Ytoiiacbbfhlocaa
