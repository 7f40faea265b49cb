/- Texts of this claim, laid together by a program of this session (wip/tools/pack.py); the print's own words among them are those that print.sh OWN=1 lays for the claim, as far as they are named. -/
import Derived.Deep.DrawnRows
import Derived.Deep.DeepFit
import Derived.Test.YtoiiacbbfhlocaaQH
import Derived.Test.YtoiiacbbfhlocaaQI
import Derived.Test.YtoiiacbbfhlocaaQR
section
set_option linter.unusedVariables false
set_option linter.unusedSimpArgs false
namespace Go.Proofs.Ytoiiacbbfhlocaa.HCa
open Go.RowKit Go.Proofs.YtoiiacbbfhlocaaW.PrintWords Go.Proofs.YtoiiacbbfhlocaaW.PrintLast Go.Proofs.YtoiiacbbfhlocaaW.PrintMore Go.Proofs.Ytoiiacbbfhlocaa.Kit Go.Proofs.Ytoiiacbbfhlocaa.HAa Go.Proofs.Ytoiiacbbfhlocaa.Ra Go.Proofs.Ytoiiacbbfhlocaa.Cb
attribute [local go_sem ↓] Go.wp_at_zero Go.wp_at_succ
namespace KeyS
variable {w w1 : World} {g : Nat} {key : List Int} {Aw Ab : Option Addr} {cw cb : Nat}
end KeyS
attribute [local irreducible] encF Wl keyN boxT
theorem lit_none (W : World) : Kd.R (Kd.int .u8) 5 (W.alloc (.cells #[] 5)) W.heap.size (fun _ => True) (.slice (some ⟨W.heap.size, 0, none⟩) 0 0) [] :=
  (Arr.new W .u8 5 []).row W.heap.size 0 rfl (Nat.le_refl _) (by decide) (fun _ => True) trivial
attribute [local irreducible] sN ksF bg4
attribute [local irreducible] cN xV
end Go.Proofs.Ytoiiacbbfhlocaa.HCa
end
section
set_option linter.unusedVariables false
set_option linter.unusedSimpArgs false
namespace Go.Proofs.Ytoiiacbbfhlocaa.HCa
open Go.RowKit Go.Proofs.YtoiiacbbfhlocaaW.PrintWords Go.Proofs.YtoiiacbbfhlocaaW.PrintLast Go.Proofs.YtoiiacbbfhlocaaW.PrintMore Go.Proofs.Ytoiiacbbfhlocaa.Kit Go.Proofs.Ytoiiacbbfhlocaa.HAa Go.Proofs.Ytoiiacbbfhlocaa.Cb
attribute [local go_sem ↓] Go.wp_at_zero Go.wp_at_succ
attribute [local irreducible] encF xN nN
end Go.Proofs.Ytoiiacbbfhlocaa.HCa
end
section
set_option linter.unusedVariables false
set_option linter.unusedSimpArgs false
namespace Go.Proofs.Ytoiiacbbfhlocaa.HCa
open Go.RowKit Go.Proofs.YtoiiacbbfhlocaaW.PrintWords Go.Proofs.YtoiiacbbfhlocaaW.PrintLast Go.Proofs.YtoiiacbbfhlocaaW.PrintMore Go.Proofs.Ytoiiacbbfhlocaa.Kit Go.Proofs.Ytoiiacbbfhlocaa.HAa Go.Proofs.Ytoiiacbbfhlocaa.Cb
attribute [local go_sem ↓] Go.wp_at_zero Go.wp_at_succ
attribute [local irreducible] encF xN nN
end Go.Proofs.Ytoiiacbbfhlocaa.HCa
end
