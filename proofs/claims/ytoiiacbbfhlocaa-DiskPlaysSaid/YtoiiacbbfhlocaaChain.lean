/- A region that draws its order, walked once: what only reads is taken as soon as it may come up; what makes memory comes in the one order that is left; the worlds are all that lie beyond the world at hand. -/
import Derived.Test.YtoiiacbbfhlocaaArm
import Derived.Deep.RegionHeld3
import Derived.Deep.MidRow
import Derived.BigQuiet
set_option linter.unusedVariables false
set_option linter.unusedSimpArgs false
namespace Go.Proofs.Ytoiiacbbfhlocaa.Kit
open Go.RowKit Go.Proofs.YtoiiacbbfhlocaaW.PrintWords Go.Proofs.YtoiiacbbfhlocaaW.PrintLast Go.Proofs.YtoiiacbbfhlocaaW.PrintMore
section
variable {P : Program} {Q : Exit → Act → World → Prop} {l : List Oper} {md : Region.Mode} {ops : Array Oper}
def Ext (W w : World) : Prop := Below W.heap.size W w
def wpC (P : Program) (l : List Oper) (Q : Exit → Act → World → Prop) (n : Nat) (listed : Array Bool) (a : Act) (W : World) : Prop := wpAnyH P .any l.toArray Q (Ext W) n listed a W
theorem sharpen {S S' : World → Prop} (h : ∀ w, S' w → S w) : ∀ (fuel : Nat) (listed : Array Bool) (a : Act) (w : World), wpAnyH P md ops Q S' fuel listed a w → wpAnyH P md ops Q S fuel listed a w
  | 0, _, _, _, h0 => h0
  | n + 1, listed, a, w, h0 => ⟨h0.1, fun i hi => wpOp_mono (fun a w ⟨hs, hw⟩ => ⟨h w hs, sharpen h n _ a w hw⟩) (h0.2 i hi)⟩
theorem chain_region {id : Nat} {a : Act} {w : World} (hm : P.follows .mixedOrders = true) (n : Nat) (hn : l.length = n) (h : wpC P l Q n (Array.replicate n false) a w.drew) : (Code.region id l.toArray true).wp P Q a w := by
  subst hn
  refine wp_region_held_drew (S := Ext w.drew) hm (Below.refl _ _) (fun _ => ?_)
  simpa [wpC] using h
variable {n i : Nat} {listed : Array Bool} {a : Act} {W : World} {o : Oper}
theorem chain_take (i : Nat) (v : Value) (hi : l[i]? = some o) (hs : Region.noSelect l.toArray = true) (hf : Region.free .any l.toArray listed i = true) (hr : (Region.ready .any l.toArray listed).contains i = true)
    (hQ : ∀ c a w, Q (.panic c) (a.put o.dst v) w → Q (.panic c) a w) (hw : Region.wanted o (yielded l.toArray a.tmps) = true) (hrun : ∀ w, Ext W w → (execOp a.eval o).run P w = .ok (.value v) w)
    (h : wpC P l Q n (listed.setIfInBounds i true) (a.put o.dst v) W) : wpC P l Q (n + 1) listed a W :=
  wpAnyH_take (by simpa using hi) hs hf hr hQ (.inl ⟨hw, hrun⟩) (Below.refl _ _) h
theorem chain_skip (i : Nat) (hi : l[i]? = some o) (hs : Region.noSelect l.toArray = true) (hf : Region.free .any l.toArray listed i = true) (hr : (Region.ready .any l.toArray listed).contains i = true)
    (hQ : ∀ c a w, Q (.panic c) (a.put o.dst undef) w → Q (.panic c) a w) (hw : Region.wanted o (yielded l.toArray a.tmps) = false)
    (h : wpC P l Q n (listed.setIfInBounds i true) (a.put o.dst undef) W) : wpC P l Q (n + 1) listed a W :=
  wpAnyH_take (by simpa using hi) hs hf hr hQ (.inr ⟨hw, rfl⟩) (Below.refl _ _) h
theorem chain_go (i : Nat) (hi : l[i]? = some o) (hr : Region.ready .any l.toArray listed = [i])
    (h : ∀ K' : Act → World → Prop, Shut (∀ a w, Ext W w → wpC P l Q n (listed.setIfInBounds i true) a w → K' a w) → if Region.wanted o (yielded l.toArray a.tmps) = true then Oper.wp P o a W K' Q else K' (a.put o.dst undef) W) : wpC P l Q (n + 1) listed a W :=
  wpAnyH_ready hr (by simp) (AllReadyH.cons (by simpa using hi) (fun K' hK => h K' (fun a w hE hC => hK.out a w hE (fun _ => sharpen (fun w'' h'' => below_next hE h'') _ _ _ _ hC))) AllReadyH.nil)
theorem chain_call (i : Nat) (hi : l[i]? = some o) (hr : Region.ready .any l.toArray listed = [i]) (hw : Region.wanted o (yielded l.toArray a.tmps) = true)
    (f : Nat) (fn : Func) (c : Code) (hf : P.funcs[f]? = some fn) (hname : (fn.name == "runtime.NumGoroutine") = false) (hb : fn.body = some c) (as : Array Operand) (ts : Array TypeId) (vs : Array Value) (ho : o.op = .call { callee := .value (.func f), args := as, argTypes := ts }) (hv : as.map a.eval = vs)
    {R : Ending → World → Prop} (hC : Calls P f vs W R) (h : ∀ e w, R e w → ∃ v, e = .returned v ∧ Ext W w ∧ wpC P l Q n (listed.setIfInBounds i true) (a.put o.dst v) w) : wpC P l Q (n + 1) listed a W := by
  refine chain_go i hi hr (fun K' hK => ?_)
  rw [if_pos hw]
  have hr : (execOp a.eval o).run P W = .ok (.enter f vs) W := by
    unfold execOp
    simp only [ho]
    have h1 : fn.name ≠ "runtime.NumGoroutine" := by simpa using hname
    simp [resolve, Deferred.ofValue, invoke, hv, Act.eval, callFunc, go_sem, hf, h1, hb, mark]
  unfold Oper.wp
  rw [hr]
  refine hC.mono (fun e w hR => ?_)
  obtain ⟨v, rfl, hE, hw'⟩ := h e w hR
  exact hK.out _ _ hE hw'
theorem chain_done (hr : Region.ready .any l.toArray listed = []) (h : Q .normal a W) : wpC P l Q n listed a W := wpAnyH_done hr h n
/-- what reads, by its own run -/
theorem run_move_at (x : Operand) (ho : o.op = .move x) (w : World) : (execOp a.eval o).run P w = .ok (.value (a.eval x)) w := BigFrame.run_move x ho w
theorem run_load_arr (T : TypeId) (x : Operand) (ho : o.op = .load T x) (g : Nat) (hx : a.eval x = .pointer (some ⟨g, 0, none⟩)) (k : IntKind) (T' e m : Nat) (xs : List Int) {w : World} (hA : Arr k T' w g xs)
    (hu : P.underlying T = some (.array m e)) (hi : (P.info? T).map (·.size) = some xs.length) : (execOp a.eval o).run P w = .ok (.value (.agg (nums k xs).toArray)) w := by
  unfold execOp
  simp only [ho, hx, Instr.loadAt, Instr.sureAddr, Sem.run_bind, Sem.run_pure, Result.andThen_ok, run_loadVar_mid w g 0 T (nums k xs) _ hA.range hu rfl (by rw [hi]; simp [nums])]
end
end Go.Proofs.Ytoiiacbbfhlocaa.Kit
