/- Layer 19: the document's examples. -/
import Derived.Test.YtoiiacbbfhlocaaHLh
set_option linter.unusedVariables false
set_option linter.unusedSimpArgs false
namespace Go.Proofs.Ytoiiacbbfhlocaa.HLa
open Go.RowKit Go.Proofs.YtoiiacbbfhlocaaW.PrintWords Go.Proofs.YtoiiacbbfhlocaaW.PrintLast Go.Proofs.YtoiiacbbfhlocaaW.PrintMore Go.Proofs.Ytoiiacbbfhlocaa.Kit
set_option maxRecDepth 100000 in
set_option maxHeartbeats 4000000 in
theorem knows19_any (w : World) : Calls Try.prog 35 #[] w (TellsL true w) := by
  go_enter Try.func35, Try.ntmps35
  go_wp2_with (first
    | (go_at_call 39; have U := K10; refine (ask_none 0 0 true w10).mono ?_; rintro e w11 ⟨rfl, hB11⟩; have K11 := Lib.hid hB11; clear hB11 U)
    | (go_at_call 41; have U := K9; refine (free_none w9).mono ?_; rintro e w10 ⟨rfl, hB10⟩; have K10 := Lib.hid hB10; clear hB10 U)
    | (go_at_call 41; have U := K8; refine (free_any w.heap.size g r vs5 [[], [(1, false), (2, true), (3, false)]] w8 T8 (by decide)).mono ?_; rw [show freeF [[], [(1, false), (2, true), (3, false)]] = false from by decide]; rintro e w9 ⟨rfl, hB9⟩; have K9 := Lib.hid hB9; clear T8 hB9 U)
    | (go_at_call 42; have U := K7; refine (granted_in w.heap.size g r vs5 [[], [(1, false), (2, true), (3, false)]] 1 [(1, false), (2, true), (3, false)] 3 w7 T7 rfl (by decide) (by decide)).mono ?_; rw [show grF [(1, false), (2, true), (3, false)] 3 = false from by decide]; rintro e w8 ⟨rfl, hB8⟩; have T8 := T7.next hB8; have K8 := Lib.hid hB8; clear T7 hB8 U)
    | (go_at_call 42; have U := K6; refine (granted_in w.heap.size g r vs5 [[], [(1, false), (2, true), (3, false)]] 1 [(1, false), (2, true), (3, false)] 2 w6 T6 rfl (by decide) (by decide)).mono ?_; rw [show grF [(1, false), (2, true), (3, false)] 2 = false from by decide]; rintro e w7 ⟨rfl, hB7⟩; have T7 := T6.next hB7; have K7 := Lib.hid hB7; clear T6 hB7 U)
    | (go_at_call 42; have U := K5; refine (granted_in w.heap.size g r vs5 [[], [(1, false), (2, true), (3, false)]] 1 [(1, false), (2, true), (3, false)] 1 w5 T5 rfl (by decide) (by decide)).mono ?_; rw [show grF [(1, false), (2, true), (3, false)] 1 = true from by decide]; rintro e w6 ⟨rfl, hB6⟩; have T6 := T5.next hB6; have K6 := Lib.hid hB6; clear T5 hB6 U)
    | (go_at_call 39; have U := K4; refine (ask_old w.heap.size g r vs4 [[], [(1, false), (2, true), (3, false)]] 1 [(1, false), (2, true), (3, false)] 3 true w4 T4 rfl (by decide) (by decide) (by decide) (by decide)).mono ?_; rintro e w5 ⟨rfl, ⟨vs5, hT5⟩, -, hB5⟩; have K5 := Lib.hid hB5; have T5 : LTab w.heap.size w5 g r vs5 [[], [(1, false), (2, true), (3, false)]] := hT5; clear hT5 hB5 U T4)
    | (go_at_call 39; have U := K3; refine (ask_new w.heap.size g r vs3 [[], [(1, false), (2, true)]] 1 [(1, false), (2, true)] 3 false w3 T3 rfl (by decide) (by decide) (by decide) (by decide)).mono ?_; rintro e w4 ⟨rfl, ⟨vs4, hT4⟩, -, hB4⟩; have K4 := Lib.hid hB4; have T4 : LTab w.heap.size w4 g r vs4 [[], [(1, false), (2, true), (3, false)]] := hT4; clear hT4 hB4 U T3)
    | (go_at_call 39; have U := K2; refine (ask_new w.heap.size g r vs2 [[], [(1, false)]] 1 [(1, false)] 2 true w2 T2 rfl (by decide) (by decide) (by decide) (by decide)).mono ?_; rintro e w3 ⟨rfl, ⟨vs3, hT3⟩, -, hB3⟩; have K3 := Lib.hid hB3; have T3 : LTab w.heap.size w3 g r vs3 [[], [(1, false), (2, true)]] := hT3; clear hT3 hB3 U T2)
    | (go_at_call 39; have U := N2; refine (ask_new w.heap.size g r vs1 [[], []] 1 [] 1 false w1 T1 rfl (by decide) (by decide) (by decide) (by decide)).mono ?_; rintro e w2 ⟨rfl, ⟨vs2, hT2⟩, -, hB2⟩; have K2 := Lib.hid hB2; have T2 : LTab w.heap.size w2 g r vs2 [[], [(1, false)]] := hT2; clear hT2 hB2 U T1)
    | (go_at_call 36; have N1' := N1; refine (new_bad 0 w1 (.inl (by decide))).mono ?_; rintro e w1x ⟨rfl, he⟩; obtain rfl := he.symm; have N2 := N1; clear N1')
    | (go_at_call 36; refine (new_any 2 w (by decide) (by decide)).mono ?_; rintro e w1 ⟨g, r, vs1, rfl, hT1, hB1⟩; have N1 := Lib.hid hB1; have T1 : LTab w.heap.size w1 g r vs1 [[], []] := hT1; clear hT1 hB1))
  go_ret
  have h5 : Below w.heap.size w w5 := (((N1.out.trans K2.out).trans K3.out).trans K4.out).trans K5.out
  exact ⟨rfl, below_next (below_next (below_next (below_next (below_next (below_next h5 K6.out) K7.out) K8.out) K9.out) K10.out) K11.out⟩
end Go.Proofs.Ytoiiacbbfhlocaa.HLa
