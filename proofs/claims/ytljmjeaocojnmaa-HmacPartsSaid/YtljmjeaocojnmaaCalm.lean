/- A region that draws its order, whose operations only read and whose callees leave what lay there as it was: one walk of the text's order, over a class of worlds. -/
import Derived.Test.YtljmjeaocojnmaaArm
import Derived.BigQuiet
import Derived.Deep.MidRow
import Derived.Laws.StructEq
set_option linter.unusedVariables false
set_option linter.unusedSimpArgs false
namespace Go.Proofs.Ytljmjeaocojnmaa.Kit
open Go.RowKit Go.Proofs.YtljmjeaocojnmaaW.PrintWords Go.Proofs.YtljmjeaocojnmaaW.PrintLast Go.Proofs.YtljmjeaocojnmaaW.PrintMore
section
variable {P : Program} {ops : Array Oper} {C : World → Prop} {Q : Act → Prop} {a : Act} {o : Oper} {rest : List Oper}
theorem calm_region {id : Nat} {Q : Exit → Act → World → Prop} {a : Act} {w : World} {l : List Oper} (C : World → Prop) (hm : P.follows .mixedOrders = true) (hB : Region.lexB .any l.toArray = true) (hC : C w.drew)
    (h : wpQuiet P l.toArray C (fun a' => ∀ w', C w' → Q .normal a' w') l a) : (Code.region id l.toArray true).wp P Q a w :=
  wp_region_quiet (C := C) hm hB hC (by simpa using h)
theorem calm_step (hw : Region.wanted o (yielded ops a.tmps) = true) (v : Value) (hq : ∀ w, C w → o.quietAt P a C w v) (h : wpQuiet P ops C Q rest (a.put o.dst v)) : wpQuiet P ops C Q (o :: rest) a := by
  unfold wpQuiet
  rw [if_pos hw]
  exact ⟨v, hq, h⟩
theorem calm_skip (hw : Region.wanted o (yielded ops a.tmps) = false) (h : wpQuiet P ops C Q rest (a.put o.dst undef)) : wpQuiet P ops C Q (o :: rest) a := by
  unfold wpQuiet
  rw [if_neg (by rw [hw]; exact Bool.false_ne_true)]
  exact h
theorem calm_run (hw : Region.wanted o (yielded ops a.tmps) = true) (v : Value) (hq : ∀ w, C w → (execOp a.eval o).run P w = .ok (.value v) w) (h : wpQuiet P ops C Q rest (a.put o.dst v)) : wpQuiet P ops C Q (o :: rest) a :=
  calm_step hw v (fun w hC => by unfold Oper.quietAt; rw [hq w hC]; exact ⟨rfl, rfl⟩) h
theorem calm_move (hw : Region.wanted o (yielded ops a.tmps) = true) (x : Operand) (ho : o.op = .move x) (h : wpQuiet P ops C Q rest (a.put o.dst (a.eval x))) : wpQuiet P ops C Q (o :: rest) a :=
  calm_run hw _ (fun w _ => BigFrame.run_move x ho w) h
theorem calm_assign (hw : Region.wanted o (yielded ops a.tmps) = true) (x : Operand) (ho : o.op = .assign x) (h : wpQuiet P ops C Q rest (a.put o.dst (a.eval x))) : wpQuiet P ops C Q (o :: rest) a :=
  calm_run hw _ (fun w _ => BigFrame.run_assign x ho w) h
theorem calm_load_arr (hw : Region.wanted o (yielded ops a.tmps) = true) (T : TypeId) (x : Operand) (ho : o.op = .load T x) (g : Nat) (hx : a.eval x = .pointer (some ⟨g, 0, none⟩)) (k : IntKind) (T' e n : Nat) (xs : List Int) (hA : ∀ w, C w → Arr k T' w g xs)
    (hu : P.underlying T = some (.array n e)) (hi : (P.info? T).map (·.size) = some xs.length) (h : wpQuiet P ops C Q rest (a.put o.dst (.agg (nums k xs).toArray))) : wpQuiet P ops C Q (o :: rest) a :=
  calm_run hw _ (fun w hC => by
    unfold execOp
    simp only [ho, hx, Instr.loadAt, Instr.sureAddr, Sem.run_bind, Sem.run_pure, Result.andThen_ok, run_loadVar_mid w g 0 T (nums k xs) _ (hA w hC).range hu rfl (by rw [hi]; simp [nums])]) h
theorem calm_call (hw : Region.wanted o (yielded ops a.tmps) = true) (f : Nat) (fn : Func) (c : Code) (hf : P.funcs[f]? = some fn) (hname : (fn.name == "runtime.NumGoroutine") = false) (hb : fn.body = some c) (as : Array Operand) (ts : Array TypeId) (vs : Array Value) (ho : o.op = .call { callee := .value (.func f), args := as, argTypes := ts }) (hv : as.map a.eval = vs) (v : Value)
    (hc : ∀ w, C w → Calls P f vs w (fun e w' => e = .returned v ∧ C w')) (h : wpQuiet P ops C Q rest (a.put o.dst v)) : wpQuiet P ops C Q (o :: rest) a :=
  calm_step hw v (fun w hC => by
    have hr : (execOp a.eval o).run P w = .ok (.enter f vs) w := by
      unfold execOp
      simp only [ho]
      have h1 : fn.name ≠ "runtime.NumGoroutine" := by simpa using hname
      simp [resolve, Deferred.ofValue, invoke, hv, Act.eval, callFunc, go_sem, hf, h1, hb, mark]
    unfold Oper.quietAt
    rw [hr]
    exact ⟨rfl, hc w hC⟩) h
theorem calm_eql (hw : Region.wanted o (yielded ops a.tmps) = true) (T : TypeId) (x y : Operand) (T2 : TypeId) (ho : o.op = .binOp .eql T x y T2) (xs ys : Array Value) (hx : a.eval x = .agg xs) (hy : a.eval y = .agg ys) (z : Bool)
    (hm : P.eqGuardType P.depth T = false) (heq : ∀ w, (Op.equalIn 10000 T (.agg xs) (.agg ys)).run P w = .ok z w) (h : wpQuiet P ops C Q rest (a.put o.dst (.bool z))) : wpQuiet P ops C Q (o :: rest) a :=
  calm_run hw _ (fun w _ => by
    unfold execOp
    simp only [ho, hx, hy]
    simp [run_eqGuard_agg w _ _ _ _ _ _ hm, run_eql_struct, heq, Result.andThen]) h
end
end Go.Proofs.Ytljmjeaocojnmaa.Kit
