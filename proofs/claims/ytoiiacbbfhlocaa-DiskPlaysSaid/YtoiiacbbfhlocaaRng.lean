/- A function that ranges over a function, walked as any other: its marks among the deferred calls. -/
import Derived.Test.YtoiiacbbfhlocaaArm
import Derived.RangeFuncNested
import Derived.RangeFuncBound
import Derived.RangeFuncCalls
import Derived.RangeFuncLeaves
import Derived.Shelf.Abstract
import Derived.Shelf.RegionOpen
import Derived.WalkKit
import Derived.OwnWalkIn
import Derived.TacticsInMore
import Derived.LoopNIn
import Derived.LoopIn
import Derived.Maps.AppendAt
import Derived.Test.YtoiiacbbfhlocaaProg
import Derived.Lib.Hide
set_option linter.unusedVariables false
set_option linter.unusedSimpArgs false
namespace Go.Proofs.Ytoiiacbbfhlocaa.Kit
open Go.RowKit Go.Shelf
section
variable {P : Program}
theorem calls_of_marks {f : FuncId} {fn : Func} {c : Code} {args : Array Value} {w : World} {R : Ending → World → Prop} (hf : P.funcs[f]? = some fn) (hb : fn.body = some c)
    (h : c.wp P (bodyPostM Fence.wide 9 P fn R) { tmps := args ++ Array.replicate (fn.ntmps - args.size) undef, defers := [] } w) : Calls P f args w R :=
  (callsIn_wide (n := 9)).1 (callsIn_of_wp_marks hf hb trivial (wpIn_wide.2 h) rfl)
/-- the mark of one range over a function -/
def mark1 (D : Nat) : Deferred := { target := .collected D, args := #[] }
def Marks (Ds : List Nat) (W : World) : Prop := Ds.Nodup ∧ ∀ D ∈ Ds, W.heap[D]? = some (.deferred (some []))
theorem Marks.lt {Ds : List Nat} {W : World} (h : Marks Ds W) {D : Nat} (hD : D ∈ Ds) : D < W.heap.size := (Array.getElem?_eq_some_iff.1 (h.2 D hD)).1
theorem Marks.nil (W : World) : Marks [] W := ⟨List.nodup_nil, fun _ h => by cases h⟩
theorem Marks.cons {Ds : List Nat} {W : World} (h : Marks Ds W) {D : Nat} (hD : W.heap[D]? = some (.deferred (some []))) (hn : ∀ E ∈ Ds, E < D) : Marks (D :: Ds) W :=
  ⟨List.nodup_cons.2 ⟨fun hm => Nat.lt_irrefl _ (hn D hm), h.1⟩, fun E hE => by rcases List.mem_cons.1 hE with rfl | hE; exact hD; exact h.2 E hE⟩
theorem Marks.keep {Ds : List Nat} {W W' : World} (h : Marks Ds W) (hk : KeepsOthers W W') : Marks Ds W' := ⟨h.1, fun D hD => hk.same D _ (h.2 D hD) rfl⟩
theorem Marks.below {Ds : List Nat} {W W' : World} (h : Marks Ds W) (hk : Below W.heap.size W W') : Marks Ds W' := ⟨h.1, fun D hD => (hk.block D (h.lt hD)).trans (h.2 D hD)⟩
theorem Marks.put {Ds : List Nat} {W : World} {D : Nat} (o : Obj) (h : Marks (D :: Ds) W) : Marks Ds (W.putObj D o) := by
  obtain ⟨hn, hm⟩ := h
  obtain ⟨h1, h2⟩ := List.nodup_cons.1 hn
  refine ⟨h2, fun E hE => ?_⟩
  have hne : E ≠ D := fun e => h1 (e ▸ hE)
  have hx := hm E (List.mem_cons_of_mem _ hE)
  have hlt := (Array.getElem?_eq_some_iff.1 hx).1
  exact ((grownBy_putObj' W D o).block E hlt (fun e => hne (by injection e))).trans hx
theorem marks_own {β : Type} (B : Nat) (Ds : List Nat) (hB : ∀ D ∈ Ds, D < B) : OwnFrom (β := β) B (fun _ W => Marks Ds W) := fun s W W' row hs hg hr =>
  ⟨hs.1, fun D hD => (hg.block D (hs.lt hD) (fun e => by have := (hr D e.symm).1; have := hB D hD; omega)).trans (hs.2 D hD)⟩
theorem marks_leave {n : Nat} {fn : Func} {tmps : Array Value} {R : Ending → World → Prop} {X : World → Prop} {base : Nat} (hX : ∀ W D, X W → base ≤ D → W.heap[D]? = some (.deferred (some [])) → X (W.putObj D (.deferred none)))
    {v : Value} (hr : ∀ W, (results fn tmps).run P W = .ok v W) (hR : ∀ W, X W → R (.returned v) W) : ∀ (Ds : List Nat) (W : World), Marks Ds W → (∀ D ∈ Ds, base ≤ D) → X W → LeavesInM Fence.wide n P fn tmps R (Ds.map mark1) .returning W
  | [], W, _, _, hx => ⟨v, hr W, hR W hx⟩
  | D :: Ds, W, hm, hb, hx => ⟨by simp, .inl ⟨D, _, rfl, run_takeDeferred (hm.2 D List.mem_cons_self),
      marks_leave hX hr hR Ds _ (hm.put _) (fun E hE => hb E (List.mem_cons_of_mem _ hE)) (hX W D hx (hb D List.mem_cons_self) (hm.2 D List.mem_cons_self))⟩⟩
/-- the function's return -/
theorem marks_ret {n : Nat} {fn : Func} {R : Ending → World → Prop} {a : Act} {W : World} {v : Value} (Ds : List Nat) (base : Nat) (X : World → Prop) (hd : a.defers = Ds.map mark1) (hr : ∀ W, (results fn a.tmps).run P W = .ok v W) (hm : Marks Ds W) (hb : ∀ D ∈ Ds, base ≤ D)
    (hx : X W) (hX : ∀ W D, X W → base ≤ D → W.heap[D]? = some (.deferred (some [])) → X (W.putObj D (.deferred none))) (hR : ∀ W, X W → R (.returned v) W) : bodyPostM Fence.wide n P fn R .ret a W := by
  show LeavesInM Fence.wide n P fn a.tmps R a.defers .returning W
  rw [hd]
  exact marks_leave hX hr hR Ds W hm hb hx
end
end Go.Proofs.Ytoiiacbbfhlocaa.Kit
