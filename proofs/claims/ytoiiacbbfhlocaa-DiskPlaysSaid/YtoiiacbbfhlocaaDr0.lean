/- Machine-made by a program of this session (wip/tools/hprint.py, which drives the kit's printer). -/
import Derived.Test.YtoiiacbbfhlocaaProg
import Derived.Below
import Derived.Deep.Draws
import Derived.Deep.AppendLies
import Derived.Maps.AppendAt
import Derived.OwnWalk
import Derived.Laws.BytesArg
import Derived.Laws.MakeOwn
import Derived.Laws.OwnMore
import Derived.Deep.OwnRows
import Derived.Tactics
import Derived.Lib.ConvBytes
import Derived.Laws.Slices
import Derived.WalkKit
import Derived.KernelRfl
import Derived.RowKit3
import Derived.Deep.LoopGhost
import Derived.Deep.QuietTactic
import Derived.BigQuiet
import Derived.WideLaws
import Derived.Deep.DeepCutAuto
import Derived.Deep.CutBlock
import Derived.Deep.RegionHeld3
import Derived.Laws.Rows
import Derived.Lib.AppendStr
import Derived.ArgAppend
import Derived.Laws.IdiomCopy
import Derived.OrdersHeld
import Derived.Laws.BitsLemmas
import Derived.RowKit
import Derived.Test.YtoiiacbbfhlocaaWWords
import Derived.Test.YtoiiacbbfhlocaaWLast
import Derived.Test.YtoiiacbbfhlocaaWTab
import Derived.Test.YtoiiacbbfhlocaaWFour
import Derived.Test.YtoiiacbbfhlocaaWQPut
import Derived.Test.YtoiiacbbfhlocaaWApart
import Derived.Test.YtoiiacbbfhlocaaWArr
import Derived.Test.YtoiiacbbfhlocaaWZeros
import Derived.Test.YtoiiacbbfhlocaaWFoot
import Derived.Test.YtoiiacbbfhlocaaWKept
import Derived.Test.YtoiiacbbfhlocaaWShare
import Derived.Test.YtoiiacbbfhlocaaWN
import Derived.Test.YtoiiacbbfhlocaaWFootNe
import Derived.Test.YtoiiacbbfhlocaaWAt
import Derived.Test.YtoiiacbbfhlocaaWEqStruct
import Derived.Test.YtoiiacbbfhlocaaWRepsOne
import Derived.Test.YtoiiacbbfhlocaaWInv
import Derived.Test.YtoiiacbbfhlocaaWInvWords
import Derived.Test.YtoiiacbbfhlocaaWGuard
import Derived.Test.YtoiiacbbfhlocaaWNEv
import Derived.Test.YtoiiacbbfhlocaaWMore
namespace Go.Proofs.Ytoiiacbbfhlocaa.Dr
open Go.RowKit Go.Proofs.YtoiiacbbfhlocaaW.PrintWords Go.Proofs.YtoiiacbbfhlocaaW.PrintLast Go.Proofs.YtoiiacbbfhlocaaW.PrintMore
attribute [local go_sem] max2_int min2_int max_two min_two max_three min_three max_four min_four   -- for this text's walks alone
set_option linter.unusedVariables false
set_option linter.unusedSimpArgs false



def errW : Option Int → Value
  | none => .nilIface
  | some c => .iface 0 (.int .i64 c)
theorem errW_none : errW none = .nilIface := rfl
theorem errW_some (c : Int) : errW (some c) = .iface 0 (.int .i64 c) := rfl

theorem info5 : (Try.prog.info? 5).map (fun i => (i.zero, i.size, i.bytes)) = some (some (.int .u8 0), 1, 1) := by kernel_rfl
theorem info9 : (Try.prog.info? 9).map (fun i => (i.zero, i.size, i.bytes)) = some (some (.string ⟨#[]⟩), 1, 16) := by kernel_rfl
-- the values' own types

end Go.Proofs.Ytoiiacbbfhlocaa.Dr
