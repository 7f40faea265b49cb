/- In a round of a range over a function: a region that draws its order is walked as anywhere. -/
import Derived.Test.YtoiiacbbfhlocaaRng
import Derived.Test.YtoiiacbbfhlocaaChs
set_option linter.unusedVariables false
set_option linter.unusedSimpArgs false
namespace Go.Proofs.Ytoiiacbbfhlocaa.Kit
open Go.RowKit Go.Shelf
section
variable {P : Program} {Q : Exit → Act → World → Prop} {ops : Array Oper} {md : Region.Mode}
theorem upon_mono' {o : Oper} {a : Act} {K K' : Act → World → Prop} {r : Result Next} (h : o.upon P a K Q r) (hk : ∀ a w, K a w → K' a w) : o.upon P a K' Q r := by
  cases r with
  | ok nx w' =>
    cases nx with
    | value v => exact hk _ _ h
    | skip => exact hk _ _ h
    | defer d => exact hk _ _ h
    | enter f args => exact Calls.mono h (fun e w hR => by cases e <;> first | exact hk _ _ hR | exact hR)
    | row r args => exact Rows.mono h (fun v w hR => hk _ _ hR)
    | _ => exact h.elim
  | halt x w' =>
    cases x with
    | panic v => exact h
    | _ => exact h.elim
theorem upon_in (l n : Nat) (o : Oper) (a : Act) (K : Act → World → Prop) (r : Result Next) (h : o.upon P a K Q r) : o.uponIn (Fence.wide.inRound l) n P a K Q r := by
  cases r with
  | ok nx w' =>
    cases nx with
    | value v => exact h
    | skip => exact h
    | defer d => exact h
    | enter f args => exact ⟨fun h => by simp [Fence.wide] at h, CallsIn.inRound l (callsIn_wide.2 h)⟩
    | row r args => exact ⟨fun h => by simp [Fence.wide] at h, fun c cs _ => let ⟨v, w', r, s⟩ := h c cs; ⟨v, w', r, stepsIn_wide.2 s⟩⟩
    | _ => exact h.elim
  | halt x w' =>
    cases x with
    | panic v => exact h
    | _ => exact h.elim
def noDefer (ops : Array Oper) : Bool := ops.all fun o => match o.op with | .defer _ => false | _ => true
theorem noDefer_spec (h : noDefer ops = true) {i : Nat} {o : Oper} (hi : ops[i]? = some o) : ∀ c, o.op ≠ .defer c := by
  intro c hc
  unfold noDefer at h
  rw [Array.all_eq_true] at h
  obtain ⟨hl, he⟩ := Array.getElem?_eq_some_iff.1 hi
  have := h i hl
  rw [he, hc] at this
  exact absurd this (by simp)
theorem any_in (l n : Nat) (hd : noDefer ops = true) (hq : ¬ LetsOut Q) : ∀ (fuel : Nat) (listed : Array Bool) (a : Act) (w : World), wpAny P md ops Q fuel listed a w → wpAnyIn (Fence.wide.inRound l) n P md ops Q fuel listed a w
  | 0, _, _, _, h => h
  | fuel + 1, listed, a, w, h => ⟨h.1, fun i hi => by
      have h' := h.2 i hi
      unfold wpOp at h'
      unfold wpOpIn
      cases ho : ops[i]? with
      | none =>
        rw [ho] at h'
        exact any_in l n hd hq fuel _ a w h'
      | some o =>
        rw [ho] at h'
        simp only at h' ⊢
        split
        · rename_i hw
          rw [if_pos hw] at h'
          rcases h' with h' | ⟨_, h'⟩
          · refine ⟨fun _ _ => trivial, ?_⟩
            rw [Oper.semAt_eq _ _ _ (noDefer_spec hd ho)]
            exact upon_in l n o a _ _ (upon_mono' h' (fun a w hk => any_in l n hd hq fuel _ a w hk))
          · exact absurd h' hq
        · rename_i hw
          rw [if_neg hw] at h'
          exact ⟨fun _ _ => trivial, any_in l n hd hq fuel _ _ w h'⟩⟩
theorem s_region_in {l : List Oper} {id : Nat} {a : Act} {w : World} (lp nn : Nat) (S : World → Prop) (hm : P.follows .mixedOrders = true) (hd : noDefer l.toArray = true) (hq : ¬ LetsOut Q) (n : Nat) (hn : l.length = n) (hS : S w.drew)
    (h : S w.drew → wpS P l Q S n (Array.replicate n false) a w.drew) : (Code.region id l.toArray true).wpIn (Fence.wide.inRound lp) nn P Q a w := by
  subst hn
  refine wpIn_region_any hm (any_in lp nn hd hq _ _ _ _ (wpAny_of_held (S := S) _ _ _ _ ?_))
  simpa [wpS] using h hS
/-- a store, by its run -/
theorem g_skip {l : List Oper} {S : World → Prop} {n i : Nat} {listed : Array Bool} {a : Act} {w : World} {o : Oper} (w1 : World) (hw : Region.wanted o (yielded l.toArray a.tmps) = true) (hrun : (execOp a.eval o).run P w = .ok .skip w1) (hS : S w1)
    (h : S w1 → wpS P l Q S n (listed.setIfInBounds i true) (a.put o.dst undef) w1) : goS P l Q S n listed a w i o := by
  intro K' hK
  rw [if_pos hw]
  unfold Oper.wp
  rw [hrun]
  exact hK.out _ _ hS (h hS)
/-- where the body's post speaks of panics (marks among the deferred calls): the region's own walk never panics -/
def NoPanic (Q : Exit → Act → World → Prop) : Exit → Act → World → Prop
  | .panic _, _, _ => False
  | e, a, w => Q e a w
theorem wp_noPanic {c : Code} {a : Act} {w : World} (h : c.wp P (NoPanic Q) a w) : c.wp P Q a w := wp_mono h (by intro e a w h; cases e <;> first | exact h | exact h.elim)
theorem chain_regionN {l : List Oper} {id : Nat} {a : Act} {w : World} (hm : P.follows .mixedOrders = true) (n : Nat) (hn : l.length = n) (h : wpC P l (NoPanic Q) n (Array.replicate n false) a w.drew) : (Code.region id l.toArray true).wp P Q a w := wp_noPanic (chain_region hm n hn h)
theorem chain_doneN {l : List Oper} {n : Nat} {listed : Array Bool} {a : Act} {W : World} (hr : Region.ready .any l.toArray listed = []) (h : Q .normal a W) : wpC P l (NoPanic Q) n listed a W := chain_done hr h
end
end Go.Proofs.Ytoiiacbbfhlocaa.Kit
