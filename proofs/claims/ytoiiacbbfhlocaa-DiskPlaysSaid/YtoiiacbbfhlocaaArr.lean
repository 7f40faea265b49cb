/- Array variables of whole numbers in blocks of their own: what is read, written, made; whole arrays loaded and stored. -/
import Derived.Test.YtoiiacbbfhlocaaKit
import Derived.Laws.Rows
import Derived.Laws.Tables
import Derived.Deep.MidRow
set_option linter.unusedVariables false
set_option linter.unusedSimpArgs false
namespace Go.Proofs.Ytoiiacbbfhlocaa.Kit
open Go.RowKit Go.Proofs.YtoiiacbbfhlocaaW.PrintWords Go.Proofs.YtoiiacbbfhlocaaW.PrintLast Go.Proofs.YtoiiacbbfhlocaaW.PrintMore

/-- a block that holds an array of whole numbers -/
structure Arr (k : IntKind) (T : TypeId) (w : World) (g : Nat) (xs : List Int) : Prop where
  out : w.heap[g]? = some (.cells (nums k xs).toArray T (0, 0))
namespace Arr
variable {k : IntKind} {T : TypeId} {w w1 : World} {g : Nat} {xs : List Int}
theorem lt (h : Arr k T w g xs) : g < w.heap.size := (Array.getElem?_eq_some_iff.1 h.out).1
theorem cellN (h : Arr k T w g xs) (j : Nat) (hj : j < xs.length) : w.cell? ⟨g, j, none⟩ = some (.int k (xs.getD j 0)) := by
  rw [cell_of_row w g j _ _ _ h.out]
  simp [nums, hj]
theorem cell (h : Arr k T w g xs) (i : Int) (h0 : 0 ≤ i) (h1 : i < xs.length) : w.cell? ⟨g, i.toNat, none⟩ = some (.int k (rd xs i)) := h.cellN i.toNat (by omega)
theorem free (h : Arr k T w g xs) (j : Nat) : w.frozen? ⟨g, j, none⟩ = false := frozen_of_row w g j _ _ h.out
theorem put (h : Arr k T w g xs) (j : Nat) (x : Int) : Arr k T (w.setCell ⟨g, j, none⟩ (.int k x)) g (xs.set j x) := by
  refine ⟨?_⟩
  rw [setCell_eq_setRow w g j _ _ _ _ h.out, setRow_heap w g _ _ _ _ h.out]
  congr 2
  apply Array.ext'
  simp [nums, List.map_set]
theorem below (h : Arr k T w g xs) {B : Nat} (hb : Below B w w1) (hg : g < B) : Arr k T w1 g xs := ⟨(hb.block g hg).trans h.out⟩
theorem next (h : Arr k T w g xs) (hb : Below w.heap.size w w1) : Arr k T w1 g xs := h.below hb h.lt
theorem far (h : Arr k T w g xs) (p : Addr) (hp : g ≠ p.block) (v : Value) : Arr k T (w.setCell p v) g xs := ⟨(Go.heap_setCell_other w p g v hp).trans h.out⟩
theorem drew (h : Arr k T w g xs) : Arr k T w.drew g xs := ⟨h.out⟩
theorem drewN (h : Arr k T w g xs) (n : Nat) : Arr k T (w.drewN n) g xs := h.next (pw_below_drewN (Below.refl _ _) n)
theorem alloc (h : Arr k T w g xs) (o : Obj) : Arr k T (w.alloc o) g xs := h.next (below_alloc (Below.refl _ _) o)
theorem new (w : World) (k : IntKind) (T : TypeId) (xs : List Int) : Arr k T (w.alloc (.cells (nums k xs).toArray T)) w.heap.size xs := ⟨heap_alloc_new w _⟩
theorem range (h : Arr k T w g xs) : w.rangeAt g 0 (nums k xs) := fun j v hv => by
  rw [Nat.zero_add, cell_of_row w g j _ _ _ h.out]
  simpa using hv
theorem setRow (h : Arr k T w g xs) (ys : List Int) : Arr k T (w.setRow g (nums k ys).toArray) g ys := ⟨setRow_heap w g _ _ _ _ h.out⟩
theorem setRow_far (h : Arr k T w g xs) (g' : Nat) (hg : g ≠ g') (cs : Array Value) : Arr k T (w.setRow g' cs) g xs := ⟨(setRow_other w g' g cs hg).trans h.out⟩
theorem cells (h : Arr k T w g xs) : ∀ (cs : List Int) (o : Nat), o + cs.length ≤ xs.length → Arr k T (w.setCells g o (nums k cs)) g (xs.take o ++ cs ++ xs.drop (o + cs.length)) := by
  intro cs
  induction cs generalizing w xs with
  | nil =>
    intro o _
    have e : xs.take o ++ [] ++ xs.drop (o + 0) = xs := by simp
    simp only [List.length_nil]
    rw [e]
    exact h
  | cons c cs ih =>
    intro o ho
    simp only [List.length_cons] at ho
    have h2 := ih (h.put o c) (o + 1) (by simp; omega)
    have e : (xs.set o c).take (o + 1) ++ cs ++ (xs.set o c).drop (o + 1 + cs.length) = xs.take o ++ (c :: cs) ++ xs.drop (o + (c :: cs).length) := by
      rw [List.drop_set_of_lt (by omega), show o + (c :: cs).length = o + 1 + cs.length from by simp; omega]
      have e2 : (xs.set o c).take (o + 1) = xs.take o ++ [c] := by
        rw [List.take_succ_eq_append_getElem (by simp; omega), List.getElem_set_self, List.take_set_of_le (by omega)]
      rw [e2]
      simp
    rw [e] at h2
    exact h2
end Arr
theorem nums_one (k : IntKind) (xs : List Int) : (nums k xs).toArray.all (·.oneCell') = true := all_oneCell_toArray fun v hv => by
  simp only [nums, List.mem_map] at hv
  obtain ⟨x, _, rfl⟩ := hv
  rfl
theorem below_setRow {B : Nat} {w W : World} (h : Below B w W) (g : Nat) (hg : B ≤ g) (cs : Array Value) : Below B w (W.setRow g cs) :=
  ⟨h.os, h.tape, h.output, by simpa using h.size, fun i hi => (setRow_other W g i cs (by omega)).trans (h.block i hi)⟩
theorem below_setCell {B : Nat} {w W : World} (h : Below B w W) (g j : Nat) (hg : B ≤ g) (v : Value) : Below B w (W.setCell ⟨g, j, none⟩ v) := h.setCell hg v

section
variable {P : Program} {ops : Array Oper} {rest : List Oper} {o : Oper} {a : Act} {Q : Exit → Act → World → Prop} {W : World}
/-- a new array variable -/
theorem alloc_arr (hgd : o.guard = none) (T : TypeId) (ho : o.op = .alloc T) (k : IntKind) (xs : List Int) (hz : ∀ w, (zeroValue T).run P w = .ok (.agg (nums k xs).toArray) w)
    (hrun : (execOp a.eval o).run P W = .ok (.value (.pointer (some ⟨W.heap.size, 0, none⟩))) (W.alloc (.cells (nums k xs).toArray T)))
    (h : ∀ w1, Arr k T w1 W.heap.size xs → Below W.heap.size W w1 → wpList P ops Q rest (a.put o.dst (.pointer (some ⟨W.heap.size, 0, none⟩))) w1) : wpList P ops Q (o :: rest) a W :=
  Kd.event_run hgd hrun (h _ (Arr.new W k T xs) (below_alloc (Below.refl _ _) _))
/-- a whole array read -/
theorem load_arr (hgd : o.guard = none) (T : TypeId) (x : Operand) (ho : o.op = .load T x) (g : Nat) (hx : a.eval x = .pointer (some ⟨g, 0, none⟩)) (k : IntKind) (T' e n : Nat) (xs : List Int) (hA : Arr k T' W g xs)
    (hu : P.underlying T = some (.array n e)) (hi : (P.info? T).map (·.size) = some xs.length)
    (h : wpList P ops Q rest (a.put o.dst (.agg (nums k xs).toArray)) W) : wpList P ops Q (o :: rest) a W :=
  wpList_load_row hgd T x ho g hx T' _ _ _ hA.out hu rfl (by rw [hi]; simp [nums]) h
/-- a whole array written -/
theorem store_arr (hgd : o.guard = none) (T : TypeId) (x y : Operand) (ho : o.op = .store T x y) (g : Nat) (k : IntKind) (ys : List Int) (hx : a.eval x = .pointer (some ⟨g, 0, none⟩)) (hy : a.eval y = .agg (nums k ys).toArray)
    (T' : Nat) (xs : List Int) (hA : Arr k T' W g xs) (hl : xs.length = ys.length) (hi : (P.info? T).map (·.size) = some ys.length)
    (h : ∀ w1, Arr k T' w1 g ys → w1 = W.setRow g (nums k ys).toArray → wpList P ops Q rest (a.put o.dst undef) w1) : wpList P ops Q (o :: rest) a W :=
  wpList_store_row hgd T x y ho g _ hx hy T' _ hA.out (by rw [hi]; simp [nums]) (by simp [nums, hl]) (nums_one k ys) (h _ (hA.setRow ys) rfl)
end
/-- the result is an array variable -/
theorem results_arr {P : Program} {fn : Func} {p : Tmp} {T : TypeId} (h : fn.results = #[.cell p T]) (tmps : Array Value) (w : World) (g : Nat) (k : IntKind) (T' e n : Nat) (xs : List Int)
    (hp : tmps.getD p undef = .pointer (some ⟨g, 0, none⟩)) (hA : Arr k T' w g xs) (hu : P.underlying T = some (.array n e)) (hi : (P.info? T).map (·.size) = some xs.length) :
    (results fn tmps).run P w = .ok (.agg (nums k xs).toArray) w :=
  results_cell_row h tmps w g T' _ _ _ hp hA.out hu rfl (by rw [hi]; simp [nums])
end Go.Proofs.Ytoiiacbbfhlocaa.Kit
