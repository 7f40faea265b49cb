/- A region that draws its order, walked once, over a class S of worlds: the last operation of all (one that waits for all others) may leave S. -/
import Derived.Test.YtoiiacbbfhlocaaChs
set_option linter.unusedVariables false
set_option linter.unusedSimpArgs false
namespace Go.Proofs.Ytoiiacbbfhlocaa.Kit
open Go.RowKit Go.Proofs.YtoiiacbbfhlocaaW.PrintWords Go.Proofs.YtoiiacbbfhlocaaW.PrintLast Go.Proofs.YtoiiacbbfhlocaaW.PrintMore
section
variable {P : Program} {ops : Array Oper} {Q : Exit → Act → World → Prop} {md : Region.Mode} {S : World → Prop} {X : List Nat}
/-- operation number i waits for all others, but for those of X (which are never taken ahead) -/
def LastOp (X : List Nat) (md : Region.Mode) (ops : Array Oper) (i : Nat) : Bool :=
  match ops[i]? with
  | none => false
  | some o => (List.range ops.size).all fun k => k == i || X.contains k || o.after.any fun e => Region.binds md e && e.on == k
theorem LastOp.waits {X : List Nat} {i j : Nat} {oj : Oper} (h : LastOp X md ops j = true) (hj : ops[j]? = some oj) (hi : i < ops.size) (hne : i ≠ j) (hx : X.contains i = false) : ∃ e ∈ oj.after, Region.binds md e = true ∧ e.on = i := by
  unfold LastOp at h
  rw [hj] at h
  simp only [List.all_eq_true, List.mem_range, Bool.or_eq_true, beq_iff_eq] at h
  rcases h i hi with (h | h) | h
  · exact absurd h hne
  · rw [hx] at h; cases h
  · obtain ⟨e, he, h1⟩ := Array.any_eq_true'.1 h
    simp only [Bool.and_eq_true, beq_iff_eq] at h1
    exact ⟨e, he, h1.1, h1.2⟩
def wpAnyL (X : List Nat) (P : Program) (md : Region.Mode) (ops : Array Oper) (Q : Exit → Act → World → Prop) (S : World → Prop) : Nat → Array Bool → Act → World → Prop
  | 0, listed, a, w => Region.ready md ops listed = [] ∧ Q .normal a w
  | fuel + 1, listed, a, w =>
    (Region.ready md ops listed = [] → Q .normal a w) ∧
    ∀ i ∈ Region.ready md ops listed, wpOp P ops Q i (fun a' w' => (LastOp X md ops i = true ∨ S w') ∧ wpAnyL X P md ops Q S fuel (listed.setIfInBounds i true) a' w') a w
theorem wpAny_of_L : ∀ (fuel : Nat) (listed : Array Bool) (a : Act) (w : World), wpAnyL X P md ops Q S fuel listed a w → wpAny P md ops Q fuel listed a w
  | 0, _, _, _, h => h
  | fuel + 1, _, _, _, h => ⟨h.1, fun i hi => wpOp_mono (fun a' w' h' => wpAny_of_L fuel _ a' w' h'.2) (h.2 i hi)⟩
theorem wpAnyL_first {i : Nat} {oi : Oper} {v : Value} (hx : X.contains i = false) (hi : ops[i]? = some oi) (hsel : ∀ (j : Nat) (o : Oper) cs b, ops[j]? = some o → o.op ≠ .select cs b)
    (hQ : ∀ c a w, Q (.panic c) (a.put oi.dst v) w → Q (.panic c) a w) :
    ∀ (fuel : Nat) (listed : Array Bool) (a : Act) (w : World),
      (∀ j oj, ops[j]? = some oj → j ≠ i → listed.getD j true = false → (∀ e ∈ oj.after, Region.binds md e = true → e.on ≠ i) → oi.apart ops oj = true) →
      i ∈ Region.ready md ops listed → YieldsIf P ops S oi v a → S w →
      wpAnyL X P md ops Q S fuel (listed.setIfInBounds i true) (a.put oi.dst v) w → wpAnyL X P md ops Q S (fuel + 1) listed a w := by
  intro fuel
  induction fuel with
  | zero =>
    intro listed a w _ hr hy hS H
    refine ⟨fun h => (by rw [h] at hr; cases hr), fun j hj => ?_⟩
    by_cases hji : j = i
    · subst hji; exact hy.wpOp hi hS ⟨.inr hS, H⟩
    · have := ready_mono hj hji
      rw [H.1] at this
      cases this
  | succ fuel ih =>
    intro listed a w hfree hr hy hS H
    refine ⟨fun h => (by rw [h] at hr; cases hr), fun j hj => ?_⟩
    by_cases hji : j = i
    · subst hji; exact hy.wpOp hi hS ⟨.inr hS, H⟩
    · have h1 := H.2 j (ready_mono hj hji)
      obtain ⟨hjun, oj, hoj, hall⟩ := mem_ready.1 hj
      have hnot : ∀ e ∈ oj.after, Region.binds md e = true → e.on ≠ i := fun e he hb heq => by
        have h1 := hall e he hb
        have h0 := (mem_ready.1 hr).1
        rw [heq] at h1
        rcases Nat.lt_or_ge i listed.size with h' | h'
        · simp [h'] at h0 h1; rw [h0] at h1; cases h1
        · simp [Array.getElem?_eq_none h'] at h1
      have hlast : LastOp X md ops j = true → False := fun hl => by
        obtain ⟨e, he, hb, heq⟩ := LastOp.waits hl hoj (Array.getElem?_eq_some_iff.1 hi).1 (Ne.symm hji) hx
        exact hnot e he hb heq
      have h2 := wpOp_putIf hoj (hfree j oj hoj hji hjun hnot) (fun cs b => hsel i oi cs b hi) (fun cs b => hsel j oj cs b hoj) hQ hy h1
      have hfree' : ∀ k ok, ops[k]? = some ok → k ≠ i → (listed.setIfInBounds j true).getD k true = false →
          (∀ e ∈ ok.after, Region.binds md e = true → e.on ≠ i) → oi.apart ops ok = true := fun k ok hk hki hun hno => by
        refine hfree k ok hk hki ?_ hno
        by_cases hjk : j = k
        · subst hjk; exact hjun
        · rw [getD_set_ne true hjk] at hun; exact hun
      refine wpOp_mono (fun a' w' h3 => ?_) h2
      have hS' : S w' := h3.2.1.resolve_left (fun h => hlast h)
      refine ⟨.inr hS', ih (listed.setIfInBounds j true) a' w' hfree' (ready_mono hr (Ne.symm hji)) h3.1 hS' ?_⟩
      rw [Array.setIfInBounds_comm _ _ hji]
      exact h3.2.2
end
section
variable {P : Program} {Q : Exit → Act → World → Prop} {l : List Oper} {S : World → Prop} {X : List Nat}
def wpL (X : List Nat) (P : Program) (l : List Oper) (Q : Exit → Act → World → Prop) (S : World → Prop) (n : Nat) (listed : Array Bool) (a : Act) (w : World) : Prop := wpAnyL X P .any l.toArray Q S n listed a w
theorem l_region (X : List Nat) {id : Nat} {a : Act} {w : World} (S : World → Prop) (hm : P.follows .mixedOrders = true) (n : Nat) (hn : l.length = n) (hS : S w.drew) (h : S w.drew → wpL X P l Q S n (Array.replicate n false) a w.drew) : (Code.region id l.toArray true).wp P Q a w := by
  subst hn
  exact wp_region_any hm (wpAny_of_L _ _ _ _ (by simpa [wpL] using h hS))
variable {n : Nat} {listed : Array Bool} {a : Act} {w : World} {o : Oper}
theorem l_take (i : Nat) (v : Value) (hS : S w) (hx : X.contains i = false) (hi : l[i]? = some o) (hs : Region.noSelect l.toArray = true) (hf : Region.free .any l.toArray listed i = true) (hr : (Region.ready .any l.toArray listed).contains i = true)
    (hQ : ∀ c a w, Q (.panic c) (a.put o.dst v) w → Q (.panic c) a w) (hw : Region.wanted o (yielded l.toArray a.tmps) = true) (hrun : ∀ u, S u → (execOp a.eval o).run P u = .ok (.value v) u)
    (h : wpL X P l Q S n (listed.setIfInBounds i true) (a.put o.dst v) w) : wpL X P l Q S (n + 1) listed a w :=
  wpAnyL_first hx (by simpa using hi) (Region.noSelect_spec hs) hQ n listed a w (Region.free_spec (by simpa using hi) hf) (by simpa using hr) (.inl ⟨hw, hrun⟩) hS h
theorem l_skip (i : Nat) (hS : S w) (hx : X.contains i = false) (hi : l[i]? = some o) (hs : Region.noSelect l.toArray = true) (hf : Region.free .any l.toArray listed i = true) (hr : (Region.ready .any l.toArray listed).contains i = true)
    (hQ : ∀ c a w, Q (.panic c) (a.put o.dst undef) w → Q (.panic c) a w) (hw : Region.wanted o (yielded l.toArray a.tmps) = false)
    (h : wpL X P l Q S n (listed.setIfInBounds i true) (a.put o.dst undef) w) : wpL X P l Q S (n + 1) listed a w :=
  wpAnyL_first hx (by simpa using hi) (Region.noSelect_spec hs) hQ n listed a w (Region.free_spec (by simpa using hi) hf) (by simpa using hr) (.inr ⟨hw, rfl⟩) hS h
/-- one of those that may come up -/
def goL (X : List Nat) (P : Program) (l : List Oper) (Q : Exit → Act → World → Prop) (S : World → Prop) (n : Nat) (listed : Array Bool) (a : Act) (w : World) (i : Nat) (o : Oper) : Prop :=
  ∀ K' : Act → World → Prop, Shut (∀ a w, (LastOp X .any l.toArray i = true ∨ S w) → wpL X P l Q S n (listed.setIfInBounds i true) a w → K' a w) → if Region.wanted o (yielded l.toArray a.tmps) = true then Oper.wp P o a w K' Q else K' (a.put o.dst undef) w
theorem l_all {rs : List Nat} (hr : Region.ready .any l.toArray listed = rs) (hne : rs ≠ []) (h : ∀ i ∈ rs, ∃ o, l[i]? = some o ∧ goL X P l Q S n listed a w i o) : wpL X P l Q S (n + 1) listed a w := by
  refine ⟨fun h0 => absurd (hr ▸ h0) hne, fun i hi => ?_⟩
  obtain ⟨o, ho, hg⟩ := h i (hr ▸ hi)
  exact wpOp_step (by simpa using ho) (fun K' hK => hg K' (fun a w hE hC => hK a w ⟨hE, hC⟩))
theorem l_one (i : Nat) (hi : l[i]? = some o) (hr : Region.ready .any l.toArray listed = [i]) (h : goL X P l Q S n listed a w i o) : wpL X P l Q S (n + 1) listed a w :=
  l_all hr (by simp) (fun j hj => by obtain rfl := List.mem_singleton.1 hj; exact ⟨o, hi, h⟩)
theorem l_two (i j : Nat) {o2 : Oper} (hi : l[i]? = some o) (hj : l[j]? = some o2) (hr : Region.ready .any l.toArray listed = [i, j]) (h1 : goL X P l Q S n listed a w i o) (h2 : goL X P l Q S n listed a w j o2) : wpL X P l Q S (n + 1) listed a w :=
  l_all hr (by simp) (fun k hk => by
    rcases List.mem_cons.1 hk with rfl | hk
    · exact ⟨o, hi, h1⟩
    · obtain rfl := List.mem_singleton.1 hk; exact ⟨o2, hj, h2⟩)
theorem gl_event {i : Nat} (v : Value) (w1 : World) (hw : Region.wanted o (yielded l.toArray a.tmps) = true) (hrun : (execOp a.eval o).run P w = .ok (.value v) w1) (hS : S w1)
    (h : S w1 → wpL X P l Q S n (listed.setIfInBounds i true) (a.put o.dst v) w1) : goL X P l Q S n listed a w i o :=
  fun K' hK => event_step hw hrun (hK.out _ _ (.inr hS) (h hS))
theorem gl_call {i : Nat} (hw : Region.wanted o (yielded l.toArray a.tmps) = true)
    (f : Nat) (fn : Func) (c : Code) (hf : P.funcs[f]? = some fn) (hname : (fn.name == "runtime.NumGoroutine") = false) (hb : fn.body = some c) (as_ : Array Operand) (ts : Array TypeId) (vs : Array Value) (ho : o.op = .call { callee := .value (.func f), args := as_, argTypes := ts }) (hv : as_.map a.eval = vs)
    {R : Ending → World → Prop} (hC : Calls P f vs w R) (h : ∀ e w', R e w' → ∃ v, e = .returned v ∧ S w' ∧ wpL X P l Q S n (listed.setIfInBounds i true) (a.put o.dst v) w') : goL X P l Q S n listed a w i o := by
  intro K' hK
  rw [if_pos hw]
  have hr : (execOp a.eval o).run P w = .ok (.enter f vs) w := by
    unfold execOp
    simp only [ho]
    have h1 : fn.name ≠ "runtime.NumGoroutine" := by simpa using hname
    simp [resolve, Deferred.ofValue, invoke, hv, Act.eval, callFunc, go_sem, hf, h1, hb, mark]
  unfold Oper.wp
  rw [hr]
  refine hC.mono (fun e w hR => ?_)
  obtain ⟨v, rfl, hE, hw'⟩ := h e w hR
  exact hK.out _ _ (.inr hE) hw'
/-- a store, by its run -/
theorem gl_skip {i : Nat} (w1 : World) (hw : Region.wanted o (yielded l.toArray a.tmps) = true) (hrun : (execOp a.eval o).run P w = .ok .skip w1) (hS : S w1)
    (h : S w1 → wpL X P l Q S n (listed.setIfInBounds i true) (a.put o.dst undef) w1) : goL X P l Q S n listed a w i o := by
  intro K' hK
  rw [if_pos hw]
  unfold Oper.wp
  rw [hrun]
  exact hK.out _ _ (.inr hS) (h hS)
/-- the last one of all: a store, by its run: S is no more asked for -/
theorem gl_last {i : Nat} (w1 : World) (hl : LastOp X .any l.toArray i = true) (hw : Region.wanted o (yielded l.toArray a.tmps) = true) (hrun : (execOp a.eval o).run P w = .ok .skip w1)
    (h : wpL X P l Q S n (listed.setIfInBounds i true) (a.put o.dst undef) w1) : goL X P l Q S n listed a w i o := by
  intro K' hK
  rw [if_pos hw]
  unfold Oper.wp
  rw [hrun]
  exact hK.out _ _ (.inl hl) h
theorem l_done (hr : Region.ready .any l.toArray listed = []) (h : Q .normal a w) : wpL X P l Q S n listed a w := by
  cases n with
  | zero => exact ⟨hr, h⟩
  | succ n => exact ⟨fun _ => h, by rw [hr]; simp⟩
end
end Go.Proofs.Ytoiiacbbfhlocaa.Kit
