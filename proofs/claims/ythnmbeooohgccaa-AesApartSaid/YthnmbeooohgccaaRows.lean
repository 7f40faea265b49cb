/-
  No cell of these rows narrows 'for every input' (looked for: loops, veiled, ifaces, maps, wideKeys, modest, calm, conditions, laid).
  DERIVED. THE GIVEN ROWS OF THIS SEAT. 12 by the template 'for every input the law returns true; each argument reads behind the call as it read before'; 0 by the template 'total and deterministic' (their statements: YthnmbeooohgccaaTotals.lean).
  GIVEN WITH THE SEED: the statements are not yours to turn. If you find one false, say at which input.
  Laid BY PROGRAM, IN A SANDBOX (cutbox-rows.mjs): the forced cells as the released guide's own fill.sh prints them over the translation 29fb283dd7c80b79… (all of the seat's roots in one cut). By AI agents, Wed Nov 11 2026. No macro, syntax, notation, axiom, sorry.
-/
import Derived.Test.YthnmbeooohgccaaChecked
import GoSem.Claim
import GoSem.ClaimJoined
import GoSem.ClaimMapViews
import Derived.JoinedTies
import Derived.KernelRfl
namespace Go.Proofs.Ythnmbeooohgccaa
/- THE CELL 'sum', in the pinned program and in every row, IS THE sha256 OF THE DUMP (.gsa) THAT YthnmbeooohgccaaProg.lean LOADS. Nothing in Lean hashes anything: it is a label: what it is worth is what the hold of that sum in a sandbox is worth. -/
noncomputable def Try.pinned : Pinned := { name := "ythnmbeooohgccaa", sum := "29fb283dd7c80b79236ca769f88d954949dbbac87906cbf8da34b28bd9769133", checked := Try.checked }
namespace Rows
def none {H : Type} : Left H := { results := [], args := [] }

/-- 'padlocklaw12.BitmapBits': WHATEVER THE INPUT: true; the input reads as it did. -/
def bitmapBitsSpec : ChangeSpec := { name := "bitmapBits", fn := fun _ => fun
  | [d1, d2, d3, d4, d5] => { results := [.lit (.bool true)], args := [d1, d2, d3, d4, d5] }
  | _ => none }
def bitmapBitsRow : OpenClaim := { program := "ythnmbeooohgccaa", sum := "29fb283dd7c80b79236ca769f88d954949dbbac87906cbf8da34b28bd9769133", func := "padlock/padlocklaw12.BitmapBits", spec := "bitmapBits", unfollowed := true, recurses := true, apart := false }
def BitmapBitsSaid : Prop := bitmapBitsRow.holds Try.pinned (OpenSpec.ofChange bitmapBitsSpec)

/-- ITS FALSE NEIGHBOUR: 'it returns false'. Refute it at one input. -/
def bitmapBitsWrong : ChangeSpec := { name := "bitmapBits", fn := fun _ => fun
  | [d1, d2, d3, d4, d5] => { results := [.lit (.bool false)], args := [d1, d2, d3, d4, d5] }
  | _ => none }
def BitmapBitsWrongFalsely : Prop := bitmapBitsRow.holds Try.pinned (OpenSpec.ofChange bitmapBitsWrong)

/-- 'padlocklaw12.BitmapTakes': WHATEVER THE INPUT: true; the input reads as it did. -/
def bitmapTakesSpec : ChangeSpec := { name := "bitmapTakes", fn := fun _ => fun
  | [d1, d2, d3] => { results := [.lit (.bool true)], args := [d1, d2, d3] }
  | _ => none }
def bitmapTakesRow : OpenClaim := { program := "ythnmbeooohgccaa", sum := "29fb283dd7c80b79236ca769f88d954949dbbac87906cbf8da34b28bd9769133", func := "padlock/padlocklaw12.BitmapTakes", spec := "bitmapTakes", unfollowed := true, recurses := true, apart := false }
def BitmapTakesSaid : Prop := bitmapTakesRow.holds Try.pinned (OpenSpec.ofChange bitmapTakesSpec)

/-- ITS FALSE NEIGHBOUR: 'it returns false'. Refute it at one input. -/
def bitmapTakesWrong : ChangeSpec := { name := "bitmapTakes", fn := fun _ => fun
  | [d1, d2, d3] => { results := [.lit (.bool false)], args := [d1, d2, d3] }
  | _ => none }
def BitmapTakesWrongFalsely : Prop := bitmapTakesRow.holds Try.pinned (OpenSpec.ofChange bitmapTakesWrong)

/-- 'padlocklaw05.CodecRows': WHATEVER THE INPUT: true; the input reads as it did. -/
def codecRowsSpec : ChangeSpec := { name := "codecRows", fn := fun _ => fun
  | [d1, d2, d3] => { results := [.lit (.bool true)], args := [d1, d2, d3] }
  | _ => none }
def codecRowsRow : OpenClaim := { program := "ythnmbeooohgccaa", sum := "29fb283dd7c80b79236ca769f88d954949dbbac87906cbf8da34b28bd9769133", func := "padlock/padlocklaw05.CodecRows", spec := "codecRows", unfollowed := true, recurses := true, apart := false }
def CodecRowsSaid : Prop := codecRowsRow.holds Try.pinned (OpenSpec.ofChange codecRowsSpec)

/-- ITS FALSE NEIGHBOUR: 'it returns false'. Refute it at one input. -/
def codecRowsWrong : ChangeSpec := { name := "codecRows", fn := fun _ => fun
  | [d1, d2, d3] => { results := [.lit (.bool false)], args := [d1, d2, d3] }
  | _ => none }
def CodecRowsWrongFalsely : Prop := codecRowsRow.holds Try.pinned (OpenSpec.ofChange codecRowsWrong)

/-- 'padlocklaw05.CodecBack': WHATEVER THE INPUT: true; the input reads as it did. -/
def codecBackSpec : ChangeSpec := { name := "codecBack", fn := fun _ => fun
  | [d1, d2, d3] => { results := [.lit (.bool true)], args := [d1, d2, d3] }
  | _ => none }
def codecBackRow : OpenClaim := { program := "ythnmbeooohgccaa", sum := "29fb283dd7c80b79236ca769f88d954949dbbac87906cbf8da34b28bd9769133", func := "padlock/padlocklaw05.CodecBack", spec := "codecBack", unfollowed := true, recurses := true, apart := false }
def CodecBackSaid : Prop := codecBackRow.holds Try.pinned (OpenSpec.ofChange codecBackSpec)

/-- ITS FALSE NEIGHBOUR: 'it returns false'. Refute it at one input. -/
def codecBackWrong : ChangeSpec := { name := "codecBack", fn := fun _ => fun
  | [d1, d2, d3] => { results := [.lit (.bool false)], args := [d1, d2, d3] }
  | _ => none }
def CodecBackWrongFalsely : Prop := codecBackRow.holds Try.pinned (OpenSpec.ofChange codecBackWrong)

/-- 'padlocklaw06.DiskKeeps': WHATEVER THE INPUT: true; the input reads as it did. -/
def diskKeepsSpec : ChangeSpec := { name := "diskKeeps", fn := fun _ => fun
  | [d1, d2, d3, d4] => { results := [.lit (.bool true)], args := [d1, d2, d3, d4] }
  | _ => none }
def diskKeepsRow : OpenClaim := { program := "ythnmbeooohgccaa", sum := "29fb283dd7c80b79236ca769f88d954949dbbac87906cbf8da34b28bd9769133", func := "padlock/padlocklaw06.DiskKeeps", spec := "diskKeeps", unfollowed := true, recurses := true, apart := false }
def DiskKeepsSaid : Prop := diskKeepsRow.holds Try.pinned (OpenSpec.ofChange diskKeepsSpec)

/-- ITS FALSE NEIGHBOUR: 'it returns false'. Refute it at one input. -/
def diskKeepsWrong : ChangeSpec := { name := "diskKeeps", fn := fun _ => fun
  | [d1, d2, d3, d4] => { results := [.lit (.bool false)], args := [d1, d2, d3, d4] }
  | _ => none }
def DiskKeepsWrongFalsely : Prop := diskKeepsRow.holds Try.pinned (OpenSpec.ofChange diskKeepsWrong)

/-- 'padlocklaw06.DiskPlays': WHATEVER THE INPUT: true; the input reads as it did. -/
def diskPlaysSpec : ChangeSpec := { name := "diskPlays", fn := fun _ => fun
  | [d1, d2] => { results := [.lit (.bool true)], args := [d1, d2] }
  | _ => none }
def diskPlaysRow : OpenClaim := { program := "ythnmbeooohgccaa", sum := "29fb283dd7c80b79236ca769f88d954949dbbac87906cbf8da34b28bd9769133", func := "padlock/padlocklaw06.DiskPlays", spec := "diskPlays", unfollowed := true, recurses := true, apart := false }
def DiskPlaysSaid : Prop := diskPlaysRow.holds Try.pinned (OpenSpec.ofChange diskPlaysSpec)

/-- ITS FALSE NEIGHBOUR: 'it returns false'. Refute it at one input. -/
def diskPlaysWrong : ChangeSpec := { name := "diskPlays", fn := fun _ => fun
  | [d1, d2] => { results := [.lit (.bool false)], args := [d1, d2] }
  | _ => none }
def DiskPlaysWrongFalsely : Prop := diskPlaysRow.holds Try.pinned (OpenSpec.ofChange diskPlaysWrong)

/-- 'padlocklaw01.Sha256Sums': WHATEVER THE INPUT: true; the input reads as it did. -/
def sha256SumsSpec : ChangeSpec := { name := "sha256Sums", fn := fun _ => fun
  | [d] => { results := [.lit (.bool true)], args := [d] }
  | _ => none }
def sha256SumsRow : OpenClaim := { program := "ythnmbeooohgccaa", sum := "29fb283dd7c80b79236ca769f88d954949dbbac87906cbf8da34b28bd9769133", func := "padlock/padlocklaw01.Sha256Sums", spec := "sha256Sums", unfollowed := true, recurses := true, apart := false }
def Sha256SumsSaid : Prop := sha256SumsRow.holds Try.pinned (OpenSpec.ofChange sha256SumsSpec)

/-- ITS FALSE NEIGHBOUR: 'it returns false'. Refute it at one input. -/
def sha256SumsWrong : ChangeSpec := { name := "sha256Sums", fn := fun _ => fun
  | [d] => { results := [.lit (.bool false)], args := [d] }
  | _ => none }
def Sha256SumsWrongFalsely : Prop := sha256SumsRow.holds Try.pinned (OpenSpec.ofChange sha256SumsWrong)

/-- 'padlocklaw01.Sha256Blocks': WHATEVER THE INPUT: true; the input reads as it did. -/
def sha256BlocksSpec : ChangeSpec := { name := "sha256Blocks", fn := fun _ => fun
  | [d1, d2] => { results := [.lit (.bool true)], args := [d1, d2] }
  | _ => none }
def sha256BlocksRow : OpenClaim := { program := "ythnmbeooohgccaa", sum := "29fb283dd7c80b79236ca769f88d954949dbbac87906cbf8da34b28bd9769133", func := "padlock/padlocklaw01.Sha256Blocks", spec := "sha256Blocks", unfollowed := true, recurses := true, apart := false }
def Sha256BlocksSaid : Prop := sha256BlocksRow.holds Try.pinned (OpenSpec.ofChange sha256BlocksSpec)

/-- ITS FALSE NEIGHBOUR: 'it returns false'. Refute it at one input. -/
def sha256BlocksWrong : ChangeSpec := { name := "sha256Blocks", fn := fun _ => fun
  | [d1, d2] => { results := [.lit (.bool false)], args := [d1, d2] }
  | _ => none }
def Sha256BlocksWrongFalsely : Prop := sha256BlocksRow.holds Try.pinned (OpenSpec.ofChange sha256BlocksWrong)

/-- 'padlocklaw03.AesTurns': WHATEVER THE INPUT: true; the input reads as it did. -/
def aesTurnsSpec : ChangeSpec := { name := "aesTurns", fn := fun _ => fun
  | [d1, d2] => { results := [.lit (.bool true)], args := [d1, d2] }
  | _ => none }
def aesTurnsRow : OpenClaim := { program := "ythnmbeooohgccaa", sum := "29fb283dd7c80b79236ca769f88d954949dbbac87906cbf8da34b28bd9769133", func := "padlock/padlocklaw03.AesTurns", spec := "aesTurns", unfollowed := true, recurses := true, apart := false }
def AesTurnsSaid : Prop := aesTurnsRow.holds Try.pinned (OpenSpec.ofChange aesTurnsSpec)

/-- ITS FALSE NEIGHBOUR: 'it returns false'. Refute it at one input. -/
def aesTurnsWrong : ChangeSpec := { name := "aesTurns", fn := fun _ => fun
  | [d1, d2] => { results := [.lit (.bool false)], args := [d1, d2] }
  | _ => none }
def AesTurnsWrongFalsely : Prop := aesTurnsRow.holds Try.pinned (OpenSpec.ofChange aesTurnsWrong)

/-- 'padlocklaw03.AesApart': WHATEVER THE INPUT: true; the input reads as it did. -/
def aesApartSpec : ChangeSpec := { name := "aesApart", fn := fun _ => fun
  | [d1, d2, d3] => { results := [.lit (.bool true)], args := [d1, d2, d3] }
  | _ => none }
def aesApartRow : OpenClaim := { program := "ythnmbeooohgccaa", sum := "29fb283dd7c80b79236ca769f88d954949dbbac87906cbf8da34b28bd9769133", func := "padlock/padlocklaw03.AesApart", spec := "aesApart", unfollowed := true, recurses := true, apart := false }
def AesApartSaid : Prop := aesApartRow.holds Try.pinned (OpenSpec.ofChange aesApartSpec)

/-- ITS FALSE NEIGHBOUR: 'it returns false'. Refute it at one input. -/
def aesApartWrong : ChangeSpec := { name := "aesApart", fn := fun _ => fun
  | [d1, d2, d3] => { results := [.lit (.bool false)], args := [d1, d2, d3] }
  | _ => none }
def AesApartWrongFalsely : Prop := aesApartRow.holds Try.pinned (OpenSpec.ofChange aesApartWrong)

/-- 'padlocklaw19.LockPlays': WHATEVER THE INPUT: true; the input reads as it did. -/
def lockPlaysSpec : ChangeSpec := { name := "lockPlays", fn := fun _ => fun
  | [d1, d2] => { results := [.lit (.bool true)], args := [d1, d2] }
  | _ => none }
def lockPlaysRow : OpenClaim := { program := "ythnmbeooohgccaa", sum := "29fb283dd7c80b79236ca769f88d954949dbbac87906cbf8da34b28bd9769133", func := "padlock/padlocklaw19.LockPlays", spec := "lockPlays", unfollowed := true, recurses := true, apart := false }
def LockPlaysSaid : Prop := lockPlaysRow.holds Try.pinned (OpenSpec.ofChange lockPlaysSpec)

/-- ITS FALSE NEIGHBOUR: 'it returns false'. Refute it at one input. -/
def lockPlaysWrong : ChangeSpec := { name := "lockPlays", fn := fun _ => fun
  | [d1, d2] => { results := [.lit (.bool false)], args := [d1, d2] }
  | _ => none }
def LockPlaysWrongFalsely : Prop := lockPlaysRow.holds Try.pinned (OpenSpec.ofChange lockPlaysWrong)

/-- 'padlocklaw19.LockApart': WHATEVER THE INPUT: true; the input reads as it did. -/
def lockApartSpec : ChangeSpec := { name := "lockApart", fn := fun _ => fun
  | [d] => { results := [.lit (.bool true)], args := [d] }
  | _ => none }
def lockApartRow : OpenClaim := { program := "ythnmbeooohgccaa", sum := "29fb283dd7c80b79236ca769f88d954949dbbac87906cbf8da34b28bd9769133", func := "padlock/padlocklaw19.LockApart", spec := "lockApart", unfollowed := true, recurses := true, apart := false }
def LockApartSaid : Prop := lockApartRow.holds Try.pinned (OpenSpec.ofChange lockApartSpec)

/-- ITS FALSE NEIGHBOUR: 'it returns false'. Refute it at one input. -/
def lockApartWrong : ChangeSpec := { name := "lockApart", fn := fun _ => fun
  | [d] => { results := [.lit (.bool false)], args := [d] }
  | _ => none }
def LockApartWrongFalsely : Prop := lockApartRow.holds Try.pinned (OpenSpec.ofChange lockApartWrong)

/- THE SECOND FORM. 'bulk': how many values and letters a reading holds, each counted each time it is reached (what is shared counts as often as it is met; a slice's spare places count too). A statement '..UptoSaid' is the law's where the arguments, and the package variables that the reading takes, are together of bulk at most 1048576: NARROWER than '..Said'. Prove '..Said' where nothing that the law and all that it calls make is longer than what came in: it says more and counts as full. Else prove '..UptoSaid'. A law counts once. -/
mutual
def uptoBulk {H : Type} : DataW H → Nat
  | .lit (.string bytes) => bytes.length + 1
  | .lit _ => 1
  | .nil => 1
  | .ptr d => uptoBulk d + 1
  | .slice elems spare => uptoBulkAll elems + uptoBulkAll spare + 1
  | .agg parts => uptoBulkAll parts + 1
  | .iface _ d => uptoBulk d + 1
  | .map entries => uptoBulkEntries entries + 1
  | .held _ => 1
def uptoBulkAll {H : Type} : List (DataW H) → Nat
  | [] => 0
  | d :: r => uptoBulk d + uptoBulkAll r
def uptoBulkEntries {H : Type} : List (Lit × DataW H) → Nat
  | [] => 0
  | x :: r => uptoBulkEntry x + uptoBulkEntries r
def uptoBulkEntry {H : Type} : Lit × DataW H → Nat
  | (.string bytes, d) => bytes.length + uptoBulk d + 1
  | (_, d) => uptoBulk d + 1
 end
def uptoSmall : (H : Type) → List (DataW H) → Bool := fun _ ds => decide (uptoBulkAll ds ≤ 1048576)
def OpenSpec.upto (s : _root_.Go.ChangeSpec) : _root_.Go.OpenSpec := { _root_.Go.OpenSpec.ofChange s with cond := some uptoSmall }

/-- 'padlocklaw12.BitmapBits', WHERE WHAT IT READS IS OF BULK AT MOST 1048576: true; the input reads as it did. -/
def bitmapBitsUptoRow : OpenClaim := { program := "ythnmbeooohgccaa", sum := "29fb283dd7c80b79236ca769f88d954949dbbac87906cbf8da34b28bd9769133", func := "padlock/padlocklaw12.BitmapBits", spec := "bitmapBits", unfollowed := true, recurses := true, apart := false, narrowed := true }
def BitmapBitsUptoSaid : Prop := bitmapBitsUptoRow.holds Try.pinned (OpenSpec.upto bitmapBitsSpec)

/-- 'padlocklaw12.BitmapTakes', WHERE WHAT IT READS IS OF BULK AT MOST 1048576: true; the input reads as it did. -/
def bitmapTakesUptoRow : OpenClaim := { program := "ythnmbeooohgccaa", sum := "29fb283dd7c80b79236ca769f88d954949dbbac87906cbf8da34b28bd9769133", func := "padlock/padlocklaw12.BitmapTakes", spec := "bitmapTakes", unfollowed := true, recurses := true, apart := false, narrowed := true }
def BitmapTakesUptoSaid : Prop := bitmapTakesUptoRow.holds Try.pinned (OpenSpec.upto bitmapTakesSpec)

/-- 'padlocklaw05.CodecRows', WHERE WHAT IT READS IS OF BULK AT MOST 1048576: true; the input reads as it did. -/
def codecRowsUptoRow : OpenClaim := { program := "ythnmbeooohgccaa", sum := "29fb283dd7c80b79236ca769f88d954949dbbac87906cbf8da34b28bd9769133", func := "padlock/padlocklaw05.CodecRows", spec := "codecRows", unfollowed := true, recurses := true, apart := false, narrowed := true }
def CodecRowsUptoSaid : Prop := codecRowsUptoRow.holds Try.pinned (OpenSpec.upto codecRowsSpec)

/-- 'padlocklaw05.CodecBack', WHERE WHAT IT READS IS OF BULK AT MOST 1048576: true; the input reads as it did. -/
def codecBackUptoRow : OpenClaim := { program := "ythnmbeooohgccaa", sum := "29fb283dd7c80b79236ca769f88d954949dbbac87906cbf8da34b28bd9769133", func := "padlock/padlocklaw05.CodecBack", spec := "codecBack", unfollowed := true, recurses := true, apart := false, narrowed := true }
def CodecBackUptoSaid : Prop := codecBackUptoRow.holds Try.pinned (OpenSpec.upto codecBackSpec)

/-- 'padlocklaw06.DiskKeeps', WHERE WHAT IT READS IS OF BULK AT MOST 1048576: true; the input reads as it did. -/
def diskKeepsUptoRow : OpenClaim := { program := "ythnmbeooohgccaa", sum := "29fb283dd7c80b79236ca769f88d954949dbbac87906cbf8da34b28bd9769133", func := "padlock/padlocklaw06.DiskKeeps", spec := "diskKeeps", unfollowed := true, recurses := true, apart := false, narrowed := true }
def DiskKeepsUptoSaid : Prop := diskKeepsUptoRow.holds Try.pinned (OpenSpec.upto diskKeepsSpec)

/-- 'padlocklaw06.DiskPlays', WHERE WHAT IT READS IS OF BULK AT MOST 1048576: true; the input reads as it did. -/
def diskPlaysUptoRow : OpenClaim := { program := "ythnmbeooohgccaa", sum := "29fb283dd7c80b79236ca769f88d954949dbbac87906cbf8da34b28bd9769133", func := "padlock/padlocklaw06.DiskPlays", spec := "diskPlays", unfollowed := true, recurses := true, apart := false, narrowed := true }
def DiskPlaysUptoSaid : Prop := diskPlaysUptoRow.holds Try.pinned (OpenSpec.upto diskPlaysSpec)

/-- 'padlocklaw01.Sha256Sums', WHERE WHAT IT READS IS OF BULK AT MOST 1048576: true; the input reads as it did. -/
def sha256SumsUptoRow : OpenClaim := { program := "ythnmbeooohgccaa", sum := "29fb283dd7c80b79236ca769f88d954949dbbac87906cbf8da34b28bd9769133", func := "padlock/padlocklaw01.Sha256Sums", spec := "sha256Sums", unfollowed := true, recurses := true, apart := false, narrowed := true }
def Sha256SumsUptoSaid : Prop := sha256SumsUptoRow.holds Try.pinned (OpenSpec.upto sha256SumsSpec)

/-- 'padlocklaw01.Sha256Blocks', WHERE WHAT IT READS IS OF BULK AT MOST 1048576: true; the input reads as it did. -/
def sha256BlocksUptoRow : OpenClaim := { program := "ythnmbeooohgccaa", sum := "29fb283dd7c80b79236ca769f88d954949dbbac87906cbf8da34b28bd9769133", func := "padlock/padlocklaw01.Sha256Blocks", spec := "sha256Blocks", unfollowed := true, recurses := true, apart := false, narrowed := true }
def Sha256BlocksUptoSaid : Prop := sha256BlocksUptoRow.holds Try.pinned (OpenSpec.upto sha256BlocksSpec)

/-- 'padlocklaw03.AesTurns', WHERE WHAT IT READS IS OF BULK AT MOST 1048576: true; the input reads as it did. -/
def aesTurnsUptoRow : OpenClaim := { program := "ythnmbeooohgccaa", sum := "29fb283dd7c80b79236ca769f88d954949dbbac87906cbf8da34b28bd9769133", func := "padlock/padlocklaw03.AesTurns", spec := "aesTurns", unfollowed := true, recurses := true, apart := false, narrowed := true }
def AesTurnsUptoSaid : Prop := aesTurnsUptoRow.holds Try.pinned (OpenSpec.upto aesTurnsSpec)

/-- 'padlocklaw03.AesApart', WHERE WHAT IT READS IS OF BULK AT MOST 1048576: true; the input reads as it did. -/
def aesApartUptoRow : OpenClaim := { program := "ythnmbeooohgccaa", sum := "29fb283dd7c80b79236ca769f88d954949dbbac87906cbf8da34b28bd9769133", func := "padlock/padlocklaw03.AesApart", spec := "aesApart", unfollowed := true, recurses := true, apart := false, narrowed := true }
def AesApartUptoSaid : Prop := aesApartUptoRow.holds Try.pinned (OpenSpec.upto aesApartSpec)

/-- 'padlocklaw19.LockPlays', WHERE WHAT IT READS IS OF BULK AT MOST 1048576: true; the input reads as it did. -/
def lockPlaysUptoRow : OpenClaim := { program := "ythnmbeooohgccaa", sum := "29fb283dd7c80b79236ca769f88d954949dbbac87906cbf8da34b28bd9769133", func := "padlock/padlocklaw19.LockPlays", spec := "lockPlays", unfollowed := true, recurses := true, apart := false, narrowed := true }
def LockPlaysUptoSaid : Prop := lockPlaysUptoRow.holds Try.pinned (OpenSpec.upto lockPlaysSpec)

/-- 'padlocklaw19.LockApart', WHERE WHAT IT READS IS OF BULK AT MOST 1048576: true; the input reads as it did. -/
def lockApartUptoRow : OpenClaim := { program := "ythnmbeooohgccaa", sum := "29fb283dd7c80b79236ca769f88d954949dbbac87906cbf8da34b28bd9769133", func := "padlock/padlocklaw19.LockApart", spec := "lockApart", unfollowed := true, recurses := true, apart := false, narrowed := true }
def LockApartUptoSaid : Prop := lockApartUptoRow.holds Try.pinned (OpenSpec.upto lockApartSpec)

end Rows
end Go.Proofs.Ythnmbeooohgccaa
