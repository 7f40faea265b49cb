/- A region that draws its order, walked once, over a class S of worlds that may be made narrower on the way. -/
import Derived.Test.YtoiiacbbfhlocaaChain
set_option linter.unusedVariables false
set_option linter.unusedSimpArgs false
namespace Go.Proofs.Ytoiiacbbfhlocaa.Kit
open Go.RowKit Go.Proofs.YtoiiacbbfhlocaaW.PrintWords Go.Proofs.YtoiiacbbfhlocaaW.PrintLast Go.Proofs.YtoiiacbbfhlocaaW.PrintMore
section
variable {P : Program} {Q : Exit → Act → World → Prop} {l : List Oper} {S : World → Prop}
def wpS (P : Program) (l : List Oper) (Q : Exit → Act → World → Prop) (S : World → Prop) (n : Nat) (listed : Array Bool) (a : Act) (w : World) : Prop := wpAnyH P .any l.toArray Q S n listed a w
theorem s_region {id : Nat} {a : Act} {w : World} (S : World → Prop) (hm : P.follows .mixedOrders = true) (n : Nat) (hn : l.length = n) (hS : S w.drew) (h : S w.drew → wpS P l Q S n (Array.replicate n false) a w.drew) : (Code.region id l.toArray true).wp P Q a w := by
  subst hn
  refine wp_region_held_drew (S := S) hm hS (fun hS => ?_)
  simpa [wpS] using h hS
variable {n : Nat} {listed : Array Bool} {a : Act} {w : World} {o : Oper}
theorem s_sharp (S' : World → Prop) (h : ∀ u, S' u → S u) (h' : wpS P l Q S' n listed a w) : wpS P l Q S n listed a w := sharpen h _ _ _ _ h'
theorem s_take (i : Nat) (v : Value) (hS : S w) (hi : l[i]? = some o) (hs : Region.noSelect l.toArray = true) (hf : Region.free .any l.toArray listed i = true) (hr : (Region.ready .any l.toArray listed).contains i = true)
    (hQ : ∀ c a w, Q (.panic c) (a.put o.dst v) w → Q (.panic c) a w) (hw : Region.wanted o (yielded l.toArray a.tmps) = true) (hrun : ∀ u, S u → (execOp a.eval o).run P u = .ok (.value v) u)
    (h : wpS P l Q S n (listed.setIfInBounds i true) (a.put o.dst v) w) : wpS P l Q S (n + 1) listed a w :=
  wpAnyH_take (by simpa using hi) hs hf hr hQ (.inl ⟨hw, hrun⟩) hS h
theorem s_skip (i : Nat) (hS : S w) (hi : l[i]? = some o) (hs : Region.noSelect l.toArray = true) (hf : Region.free .any l.toArray listed i = true) (hr : (Region.ready .any l.toArray listed).contains i = true)
    (hQ : ∀ c a w, Q (.panic c) (a.put o.dst undef) w → Q (.panic c) a w) (hw : Region.wanted o (yielded l.toArray a.tmps) = false)
    (h : wpS P l Q S n (listed.setIfInBounds i true) (a.put o.dst undef) w) : wpS P l Q S (n + 1) listed a w :=
  wpAnyH_take (by simpa using hi) hs hf hr hQ (.inr ⟨hw, rfl⟩) hS h
theorem s_go (i : Nat) (hi : l[i]? = some o) (hr : Region.ready .any l.toArray listed = [i])
    (h : ∀ K' : Act → World → Prop, Shut (∀ a w, S w → wpS P l Q S n (listed.setIfInBounds i true) a w → K' a w) → if Region.wanted o (yielded l.toArray a.tmps) = true then Oper.wp P o a w K' Q else K' (a.put o.dst undef) w) : wpS P l Q S (n + 1) listed a w :=
  wpAnyH_ready hr (by simp) (AllReadyH.cons (by simpa using hi) (fun K' hK => h K' (fun a w hE hC => hK.out a w hE (fun _ => hC))) AllReadyH.nil)
/-- an operation that turns the world, by its own run -/
theorem s_event (i : Nat) (v : Value) (w1 : World) (hi : l[i]? = some o) (hr : Region.ready .any l.toArray listed = [i]) (hw : Region.wanted o (yielded l.toArray a.tmps) = true) (hrun : (execOp a.eval o).run P w = .ok (.value v) w1) (hS : S w1)
    (h : S w1 → wpS P l Q S n (listed.setIfInBounds i true) (a.put o.dst v) w1) : wpS P l Q S (n + 1) listed a w :=
  s_go i hi hr (fun K' hK => event_step hw hrun (hK.out _ _ hS (h hS)))
/-- an operation that turns the world, by a law of its own (a '.._step') -/
theorem s_step (i : Nat) (hi : l[i]? = some o) (hr : Region.ready .any l.toArray listed = [i]) (h : ∀ K' : Act → World → Prop, Shut (∀ a w, S w → wpS P l Q S n (listed.setIfInBounds i true) a w → K' a w) → if Region.wanted o (yielded l.toArray a.tmps) = true then Oper.wp P o a w K' Q else K' (a.put o.dst undef) w) : wpS P l Q S (n + 1) listed a w := s_go i hi hr h
theorem s_call (i : Nat) (hi : l[i]? = some o) (hr : Region.ready .any l.toArray listed = [i]) (hw : Region.wanted o (yielded l.toArray a.tmps) = true)
    (f : Nat) (fn : Func) (c : Code) (hf : P.funcs[f]? = some fn) (hname : (fn.name == "runtime.NumGoroutine") = false) (hb : fn.body = some c) (as : Array Operand) (ts : Array TypeId) (vs : Array Value) (ho : o.op = .call { callee := .value (.func f), args := as, argTypes := ts }) (hv : as.map a.eval = vs)
    {R : Ending → World → Prop} (hC : Calls P f vs w R) (h : ∀ e w', R e w' → ∃ v, e = .returned v ∧ S w' ∧ wpS P l Q S n (listed.setIfInBounds i true) (a.put o.dst v) w') : wpS P l Q S (n + 1) listed a w := by
  refine s_go i hi hr (fun K' hK => ?_)
  rw [if_pos hw]
  have hr : (execOp a.eval o).run P w = .ok (.enter f vs) w := by
    unfold execOp
    simp only [ho]
    have h1 : fn.name ≠ "runtime.NumGoroutine" := by simpa using hname
    simp [resolve, Deferred.ofValue, invoke, hv, Act.eval, callFunc, go_sem, hf, h1, hb, mark]
  unfold Oper.wp
  rw [hr]
  refine hC.mono (fun e w' hR => ?_)
  obtain ⟨v, rfl, hE, hw'⟩ := h e w' hR
  exact hK.out _ _ hE hw'
theorem s_store_arr (i : Nat) (hi : l[i]? = some o) (hr : Region.ready .any l.toArray listed = [i]) (hw : Region.wanted o (yielded l.toArray a.tmps) = true) (T : TypeId) (x y : Operand) (ho : o.op = .store T x y) (g : Nat) (k : IntKind) (ys : List Int)
    (hx : a.eval x = .pointer (some ⟨g, 0, none⟩)) (hy : a.eval y = .agg (nums k ys).toArray) (T' : Nat) (xs : List Int) (hA : Arr k T' w g xs) (hl : xs.length = ys.length) (hz : (P.info? T).map (·.size) = some ys.length)
    (hS : S (w.setRow g (nums k ys).toArray)) (h : Arr k T' (w.setRow g (nums k ys).toArray) g ys → wpS P l Q S n (listed.setIfInBounds i true) (a.put o.dst undef) (w.setRow g (nums k ys).toArray)) : wpS P l Q S (n + 1) listed a w :=
  s_go i hi hr (fun K' hK => by
    rw [if_pos hw]
    exact wp_store_row T x y ho g _ hx hy T' _ hA.out (by rw [hz]; simp [nums]) (by simp [nums, hl]) (nums_one k ys) (hK.out _ _ hS (h (hA.setRow ys))))
theorem run_load_part (T : TypeId) (x : Operand) (ho : o.op = .load T x) (g off m : Nat) (hx : a.eval x = .pointer (some ⟨g, off, none⟩)) (k : IntKind) (T' : Nat) (d : TypeDesc) (xs : List Int) {w : World} (hA : Arr k T' w g xs) (hm : off + m ≤ xs.length)
    (hu : P.underlying T = some d) (hd : d.isRow = true) (hi : (P.info? T).map (·.size) = some m) : (execOp a.eval o).run P w = .ok (.value (.agg (nums k ((xs.drop off).take m)).toArray)) w := by
  unfold execOp
  simp only [ho, hx, Instr.loadAt, Instr.sureAddr, Sem.run_bind, Sem.run_pure, Result.andThen_ok, run_loadVar_mid w g off T (nums k ((xs.drop off).take m)) _ (hA.mid off m hm) hu hd (by rw [hi]; simp [nums]; omega)]
theorem results_row {fn : Func} {p : Tmp} {T : TypeId} (h : fn.results = #[.cell p T]) (tmps : Array Value) (w : World) (g : Nat) (k : IntKind) (T' : Nat) (d : TypeDesc) (xs : List Int)
    (hp : tmps.getD p undef = .pointer (some ⟨g, 0, none⟩)) (hA : Arr k T' w g xs) (hu : P.underlying T = some d) (hd : d.isRow = true) (hi : (P.info? T).map (·.size) = some xs.length) :
    (results fn tmps).run P w = .ok (.agg (nums k xs).toArray) w :=
  results_cell_row h tmps w g T' _ _ d hp hA.out hu (by cases d <;> first | rfl | exact hd) (by rw [hi]; simp [nums])
theorem run_build_at (t : TypeId) (parts : Array (Nat × Operand)) (ho : o.op = .build t parts) (vs : Array (Nat × Value)) (hv : parts.map (fun p => (p.1, a.eval p.2)) = vs) (v : Value) (h : (Instr.build t vs).run P w = .ok v w) : (execOp a.eval o).run P w = .ok (.value v) w := by
  unfold execOp
  simp only [ho, hv]
  simp [Sem.run_bind, h, Result.andThen]
/-- a load in a plain region -/
theorem load_part {ops : Array Oper} {rest : List Oper} (hgd : o.guard = none) (T : TypeId) (x : Operand) (ho : o.op = .load T x) (g off m : Nat) (hx : a.eval x = .pointer (some ⟨g, off, none⟩)) (k : IntKind) (T' : Nat) (d : TypeDesc) (xs : List Int) (hA : Arr k T' w g xs) (hm : off + m ≤ xs.length)
    (hu : P.underlying T = some d) (hd : d.isRow = true) (hi : (P.info? T).map (·.size) = some m) (h : wpList P ops Q rest (a.put o.dst (.agg (nums k ((xs.drop off).take m)).toArray)) w) : wpList P ops Q (o :: rest) a w :=
  wpList_load_mid hgd T x ho g off hx (nums k ((xs.drop off).take m)) d (hA.mid off m hm) hu hd (by rw [hi]; simp [nums]; omega) h
/-- one of those that may come up -/
def goS (P : Program) (l : List Oper) (Q : Exit → Act → World → Prop) (S : World → Prop) (n : Nat) (listed : Array Bool) (a : Act) (w : World) (i : Nat) (o : Oper) : Prop :=
  ∀ K' : Act → World → Prop, Shut (∀ a w, S w → wpS P l Q S n (listed.setIfInBounds i true) a w → K' a w) → if Region.wanted o (yielded l.toArray a.tmps) = true then Oper.wp P o a w K' Q else K' (a.put o.dst undef) w
theorem s_one (i : Nat) (hi : l[i]? = some o) (hr : Region.ready .any l.toArray listed = [i]) (h : goS P l Q S n listed a w i o) : wpS P l Q S (n + 1) listed a w := s_go i hi hr h
theorem s_two (i j : Nat) {o2 : Oper} (hi : l[i]? = some o) (hj : l[j]? = some o2) (hr : Region.ready .any l.toArray listed = [i, j]) (h1 : goS P l Q S n listed a w i o) (h2 : goS P l Q S n listed a w j o2) : wpS P l Q S (n + 1) listed a w :=
  wpAnyH_ready hr (by simp) (AllReadyH.cons (by simpa using hi) (fun K' hK => h1 K' (fun a w hE hC => hK.out a w hE (fun _ => hC))) (AllReadyH.cons (by simpa using hj) (fun K' hK => h2 K' (fun a w hE hC => hK.out a w hE (fun _ => hC))) AllReadyH.nil))
theorem g_event {i : Nat} (v : Value) (w1 : World) (hw : Region.wanted o (yielded l.toArray a.tmps) = true) (hrun : (execOp a.eval o).run P w = .ok (.value v) w1) (hS : S w1)
    (h : S w1 → wpS P l Q S n (listed.setIfInBounds i true) (a.put o.dst v) w1) : goS P l Q S n listed a w i o :=
  fun K' hK => event_step hw hrun (hK.out _ _ hS (h hS))
theorem g_call {i : Nat} (hw : Region.wanted o (yielded l.toArray a.tmps) = true)
    (f : Nat) (fn : Func) (c : Code) (hf : P.funcs[f]? = some fn) (hname : (fn.name == "runtime.NumGoroutine") = false) (hb : fn.body = some c) (as : Array Operand) (ts : Array TypeId) (vs : Array Value) (ho : o.op = .call { callee := .value (.func f), args := as, argTypes := ts }) (hv : as.map a.eval = vs)
    {R : Ending → World → Prop} (hC : Calls P f vs w R) (h : ∀ e w', R e w' → ∃ v, e = .returned v ∧ S w' ∧ wpS P l Q S n (listed.setIfInBounds i true) (a.put o.dst v) w') : goS P l Q S n listed a w i o := by
  intro K' hK
  rw [if_pos hw]
  have hr : (execOp a.eval o).run P w = .ok (.enter f vs) w := by
    unfold execOp
    simp only [ho]
    have h1 : fn.name ≠ "runtime.NumGoroutine" := by simpa using hname
    simp [resolve, Deferred.ofValue, invoke, hv, Act.eval, callFunc, go_sem, hf, h1, hb, mark]
  unfold Oper.wp
  rw [hr]
  refine hC.mono (fun e w hR => ?_)
  obtain ⟨v, rfl, hE, hw'⟩ := h e w hR
  exact hK.out _ _ hE hw'
theorem run_load_row (T : TypeId) (x : Operand) (ho : o.op = .load T x) (g : Nat) (hx : a.eval x = .pointer (some ⟨g, 0, none⟩)) (k : IntKind) (T' : Nat) (d : TypeDesc) (xs : List Int) {w : World} (hA : Arr k T' w g xs)
    (hu : P.underlying T = some d) (hd : d.isRow = true) (hi : (P.info? T).map (·.size) = some xs.length) : (execOp a.eval o).run P w = .ok (.value (.agg (nums k xs).toArray)) w := by
  unfold execOp
  simp only [ho, hx, Instr.loadAt, Instr.sureAddr, Sem.run_bind, Sem.run_pure, Result.andThen_ok, run_loadVar_mid w g 0 T (nums k xs) _ hA.range hu hd (by rw [hi]; simp [nums])]
theorem load_row {ops : Array Oper} {rest : List Oper} (hgd : o.guard = none) (T : TypeId) (x : Operand) (ho : o.op = .load T x) (g : Nat) (hx : a.eval x = .pointer (some ⟨g, 0, none⟩)) (k : IntKind) (T' : Nat) (d : TypeDesc) (xs : List Int) (hA : Arr k T' w g xs)
    (hu : P.underlying T = some d) (hd : d.isRow = true) (hi : (P.info? T).map (·.size) = some xs.length) (h : wpList P ops Q rest (a.put o.dst (.agg (nums k xs).toArray)) w) : wpList P ops Q (o :: rest) a w :=
  wpList_load_mid hgd T x ho g 0 hx (nums k xs) d hA.range hu hd (by rw [hi]; simp [nums]) h
theorem s_done (hr : Region.ready .any l.toArray listed = []) (h : Q .normal a w) : wpS P l Q S n listed a w := wpAnyH_done hr h n
end
end Go.Proofs.Ytoiiacbbfhlocaa.Kit
