/- More small lemmas on array variables: indexes of whole arrays, copies, new arrays, cuts of slices; grown worlds. -/
import Derived.Test.YtoiiacbbfhlocaaArr
import Derived.Deep.RegionHeld3
import Derived.Deep.RegionWith
import Derived.IntWalk
import Derived.Laws.IdiomCopy
set_option linter.unusedVariables false
set_option linter.unusedSimpArgs false
namespace Go.Proofs.Ytoiiacbbfhlocaa.Kit
open Go.RowKit Go.Proofs.YtoiiacbbfhlocaaW.PrintWords Go.Proofs.YtoiiacbbfhlocaaW.PrintLast Go.Proofs.YtoiiacbbfhlocaaW.PrintMore
def TellsV (k : IntKind) (x : Int) (w : World) (e : Ending) (w' : World) : Prop := e = .returned (.int k x) ∧ w' = w
def TellsNothing (w : World) (e : Ending) (w' : World) : Prop := e = .returned (.tuple #[]) ∧ Below w.heap.size w w'
def GivesA (k : IntKind) (xs : List Int) (w : World) (e : Ending) (w' : World) : Prop := e = .returned (.agg (nums k xs).toArray) ∧ Below w.heap.size w w'
/-- the array of block g is told, and nothing else has changed -/
structure Turns (k : IntKind) (T : TypeId) (w : World) (g : Nat) (xs : List Int) (e : Ending) (w' : World) : Prop where
  he : e = .returned (.tuple #[])
  arr : Arr k T w' g xs
  grown : w.grownBy w' (some g)
theorem index_nums {P : Program} (T e n : Nat) (k : IntKind) (xs : List Int) (j : Nat) (hu : P.underlying T = some (.array n e)) (he : P.underlying e = some (.int k)) (hi : (P.info? e).map (·.size) = some 1) (hl : xs.length = n) (hj : j < n) (w : World) :
    (Instr.index T (.agg (nums k xs).toArray) (.int .i64 (j : Int))).run P w = .ok (.int k (xs.getD j 0)) w := by
  cases hq : P.info? e with
  | none => simp [hq] at hi
  | some i =>
    have h1 : i.size = 1 := by simpa [hq] using hi
    have hjx : j < xs.length := by omega
    simp [Instr.index, run_underlying hu, sizeOf, typeInfo, hq, h1, asIntOf, hj, part, isAgg, run_underlying he, nums, hjx]
theorem grown_set {w W : World} {g : Nat} (h : w.grownBy W (some g)) (j : Nat) (v : Value) : w.grownBy (W.setCell ⟨g, j, none⟩ v) (some g) :=
  ⟨h.os, h.tape, h.output, by simpa using h.size, fun i hi hne => (Go.heap_setCell_other W _ i v (fun e => hne (by rw [e]))).trans (h.block i hi hne)⟩
theorem grown_draw {w W : World} {r : Option Nat} (h : w.grownBy W r) : w.grownBy W.drew r := ⟨h.os, h.tape, h.output, h.size, h.block⟩
theorem grown_row {w W : World} {g : Nat} (h : w.grownBy W (some g)) (cs : Array Value) : w.grownBy (W.setRow g cs) (some g) :=
  ⟨h.os, h.tape, h.output, by simpa using h.size, fun i hi hne => (setRow_other W g i cs (fun e => hne (by rw [e]))).trans (h.block i hi hne)⟩
theorem grown_below {w W W1 : World} {r : Option Nat} (h : w.grownBy W r) (h' : Below W.heap.size W W1) : w.grownBy W1 r :=
  ⟨h'.os.trans h.os, h'.tape.trans h.tape, h'.output.trans h.output, Nat.le_trans h.size h'.size, fun i hi hne => (h'.block i (Nat.lt_of_lt_of_le hi h.size)).trans (h.block i hi hne)⟩
theorem grown_then {w W W1 : World} {r : Option Nat} (h : w.grownBy W r) (h' : W.grownBy W1 r) : w.grownBy W1 r :=
  ⟨h'.os.trans h.os, h'.tape.trans h.tape, h'.output.trans h.output, Nat.le_trans h.size h'.size, fun i hi hne => (h'.block i (Nat.lt_of_lt_of_le hi h.size) hne).trans (h.block i hi hne)⟩
theorem below_grown {B : Nat} {w W W1 : World} {g : Nat} (h : Below B w W) (hB : B ≤ W.heap.size) (hg : B ≤ g) (h' : W.grownBy W1 (some g)) : Below B w W1 :=
  pw_below_grown h (some g) hB h' (fun k hk => by cases hk; exact hg)
theorem below_sets {B : Nat} {g : Nat} (hg : B ≤ g) : ∀ (cs : List Value) (o : Nat) {w W : World}, Below B w W → Below B w (W.setCells g o cs)
  | [], _, _, _, h => h
  | c :: cs, o, _, _, h => below_sets hg cs (o + 1) (h.setCell hg c)
theorem Arr.grown_ {k : IntKind} {T : TypeId} {w w1 : World} {g gs : Nat} {xs : List Int} (h : Arr k T w g xs) (hg : w.grownBy w1 (some gs)) (hne : g ≠ gs) : Arr k T w1 g xs := ⟨(hg.block g h.lt (fun e => hne (by injection e))).trans h.out⟩
theorem arr_new {P : Program} {ops : Array Oper} {rest : List Oper} {o : Oper} {a : Act} {Q : Exit → Act → World → Prop} {W : World} (hgd : o.guard = none) (T : TypeId) (k : IntKind) (xs : List Int)
    (hrun : (execOp a.eval o).run P W = .ok (.value (.pointer (some ⟨W.heap.size, 0, none⟩))) (W.alloc (.cells (nums k xs).toArray T)))
    (h : ∀ w1, Arr k T w1 W.heap.size xs → Below W.heap.size W w1 → wpList P ops Q rest (a.put o.dst (.pointer (some ⟨W.heap.size, 0, none⟩))) w1) : wpList P ops Q (o :: rest) a W :=
  Kd.event_run hgd hrun (h _ (Arr.new W k T xs) (below_alloc (Below.refl _ _) _))
theorem Arr.sets_far {k : IntKind} {T : TypeId} {w : World} {g g' : Nat} {xs : List Int} (hne : g ≠ g') : ∀ (cs : List Value) (o : Nat) {w : World}, Arr k T w g xs → Arr k T (w.setCells g' o cs) g xs
  | [], _, _, h => h
  | c :: cs, o, _, h => Arr.sets_far (w := w) hne cs (o + 1) (h.far _ hne c)
theorem Arr.mid {k : IntKind} {T : TypeId} {w : World} {g : Nat} {xs : List Int} (h : Arr k T w g xs) (o n : Nat) (hn : o + n ≤ xs.length) : w.rangeAt g o (nums k ((xs.drop o).take n)) := fun j v hv => by
  have hj : j < n := by
    have h2 := (List.getElem?_eq_some_iff.1 hv).1
    simp [nums] at h2
    omega
  rw [h.cellN (o + j) (by omega), ← hv]
  have h2 : o + j < xs.length := by omega
  simp [nums, List.getElem?_take, hj, h2]
def four (xs : List Int) (o : Nat) : List Int := [xs.getD o 0, xs.getD (o + 1) 0, xs.getD (o + 2) 0, xs.getD (o + 3) 0]
theorem four_eq (xs : List Int) (o : Nat) (h : o + 4 ≤ xs.length) : (xs.drop o).take 4 = four xs o := by
  apply List.ext_getElem
  · simp [four]; omega
  · intro j h1 h2
    have hj : j < 4 := by simpa [four] using h2
    have h3 : o + j < xs.length := by omega
    simp only [List.getElem_take, List.getElem_drop]
    match j, hj with
    | 0, _ => simp [four, show o < xs.length from by omega]
    | 1, _ => simp [four, show o + 1 < xs.length from by omega]
    | 2, _ => simp [four, show o + 2 < xs.length from by omega]
    | 3, _ => simp [four, show o + 3 < xs.length from by omega]
/-- a slice of an array variable reads -/
theorem Arr.reads_part {T : TypeId} {w : World} {k : IntKind} {g : Nat} {xs : List Int} (h : Arr k T w g xs) (o n : Nat) (hn : o + n ≤ xs.length) (h1 : n ≤ 1000000) : Kd.C (Kd.int k) w (some ⟨g, o, none⟩) n ((xs.drop o).take n) := by
  refine Kd.C_of_reads (d := (0 : Int)) (h1 := fun _ => rfl) ⟨by simp; omega, by omega, fun _ => ⟨_, rfl, fun j hj => ?_⟩⟩
  have := h.cellN (o + j) (by omega)
  have e : ((xs.drop o).take n).getD j 0 = xs.getD (o + j) 0 := by simp [List.getD, List.getElem?_take, hj]
  rw [e, show (⟨g, o, none⟩ : Addr).add j = ⟨g, o + j, none⟩ from by unfold Addr.add; split <;> simp_all]
  exact this
theorem Arr.reads {T : TypeId} {w : World} {k : IntKind} {g : Nat} {xs : List Int} (h : Arr k T w g xs) (n : Nat) (hn : xs.length = n) (h1 : n ≤ 1000000) : Kd.C (Kd.int k) w (some ⟨g, 0, none⟩) n xs := by
  have := h.reads_part 0 n (by omega) h1
  rwa [List.drop_zero, List.take_of_length_le (by omega)] at this
theorem copy_arr {P : Program} {k : IntKind} {Td Ts : TypeId} (w : World) (dT sT ty e : TypeId) (gd od dl dc gs os sl sc n : Nat) (xs ys : List Int) (hd : Arr k Td w gd xs) (hs : Arr k Ts w gs ys)
    (hu : P.underlying dT = some (.slice e)) (hi : (P.info? e).map (·.size) = some 1) (hn : n = Nat.min sl dl) (ho : od + n ≤ xs.length) (hos : os + n ≤ ys.length) :
    (Builtin.copy_ #[dT, sT] ty #[.slice (some ⟨gd, od, none⟩) dl dc, .slice (some ⟨gs, os, none⟩) sl sc]).run P w = .ok (goInt n) (w.setCells gd od (nums k ((ys.drop os).take n))) := by
  have hl : (nums k ((ys.drop os).take n)).length = n := by simp [nums]; omega
  have h := run_copy_cells (P := P) w dT sT ty e gd od dl dc ⟨gs, os, none⟩ sl sc (nums k ((ys.drop os).take n)) hu hi (by rw [hl, hn])
    (fun j v hj => by
      have hjn : j < n := by have := (List.getElem?_eq_some_iff.1 hj).1; omega
      rw [show (⟨gs, os, none⟩ : Addr).add j = ⟨gs, os + j, none⟩ from by unfold Addr.add; split <;> simp_all, hs.cellN (os + j) (by omega), ← hj]
      have h2 : os + j < ys.length := by omega
      simp [nums, List.getElem?_take, hjn, h2])
    (fun j hj => by rw [hd.cellN (od + j) (by omega)]; rfl) (fun j hj => hd.free _)
    (fun v hv => by simp only [nums, List.mem_map] at hv; obtain ⟨x, _, rfl⟩ := hv; rfl)
  rwa [hl] at h
theorem nums_get (k : IntKind) (xs : List Int) (j : Nat) : (nums k xs)[j]? = (xs[j]?).map (Value.int k) := by simp [nums]
end Go.Proofs.Ytoiiacbbfhlocaa.Kit
