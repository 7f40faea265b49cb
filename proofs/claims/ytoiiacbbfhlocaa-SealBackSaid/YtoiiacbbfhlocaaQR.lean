/- Texts of this claim, laid together by a program of this session (wip/tools/pack.py); the print's own words among them are those that print.sh OWN=1 lays for the claim, as far as they are named. -/
import Derived.Lib.Hide
import Derived.Deep.QuietTactic
import Derived.BigQuiet
import Derived.RegionTactic
import Derived.ChangeAlike
import Derived.WalkSpells
import Derived.Outline
import Derived.Laws.Rows
import Derived.Laws.Tables
import Derived.Deep.MidRow
import Derived.Deep.RegionHeld3
import Derived.Deep.RegionWith
import Derived.IntWalk
import Derived.Laws.IdiomCopy
import Derived.Laws.BitsLemmas
import Derived.Laws.StructEq
import Derived.Test.YtoiiacbbfhlocaaProg
import Derived.Deep.DrawnRows
import Derived.ChangeKeysEq
import Derived.Lib.SlBytesConst
import Derived.WideKeyArr2
import Derived.ProofKit
import Derived.ChangeSame
import Derived.WideShapes
import Derived.Test.YtoiiacbbfhlocaaQA
section
set_option linter.unusedVariables false
set_option linter.unusedSimpArgs false
namespace Go.Proofs.Ytoiiacbbfhlocaa.Kit
open Go.RowKit Go.Proofs.YtoiiacbbfhlocaaW.PrintWords Go.Proofs.YtoiiacbbfhlocaaW.PrintLast Go.Proofs.YtoiiacbbfhlocaaW.PrintMore
theorem lit_reads (k : IntKind) (xs : List Int) {cs : Array Value} (hcs : cs = (xs.map (Value.int k)).toArray) {n : Nat} (hn : xs.length = n) (h1 : n ≤ 1000000) (w : World) (e : TypeId) :
    Kd.C (Kd.int k) (w.alloc (.cells cs e)) (some ⟨w.heap.size, 0, none⟩) n xs := by
  refine Kd.C_of_reads (d := (0 : Int)) (h1 := fun _ => rfl) ⟨hn, by omega, fun _ => ⟨_, rfl, fun j hj => ?_⟩⟩
  rw [add_plain, World.cell?_alloc_at _ _ _ _ rfl, hcs]
  have : j < xs.length := by omega
  simp [this]
theorem below_next {w w1 w2 : World} (h : Below w.heap.size w w1) (k : Below w1.heap.size w1 w2) : Below w.heap.size w w2 := below_then h h.size k
theorem C_cells {k : IntKind} {w : World} {A : Option Addr} {n : Nat} {l : List Int} (hr : Kd.C (Kd.int k) w A n l) (hn : 0 < n) : ∃ b off, A = some ⟨b, off, none⟩ ∧ ∀ j, j < n → w.cell? ⟨b, off + j, none⟩ = some (.int k (l.getD j 0)) := by
  obtain ⟨⟨b, off, s⟩, e, h⟩ := (Kd.reads_of_C (enc := Value.int k) (d := (0 : Int)) (h1 := fun _ => rfl) hr).2.2 hn
  have h0 := h 0 hn
  cases s with
  | some s =>
    exfalso
    simp only [Addr.add, if_pos] at h0
    unfold World.cell? at h0
    split at h0 <;> simp at h0
  | none =>
    refine ⟨b, off, e, fun j hj => ?_⟩
    have h1 := h j hj
    by_cases c : j = 0
    · subst c; simpa [Addr.add] using h1
    · simpa [Addr.add, c] using h1
end Go.Proofs.Ytoiiacbbfhlocaa.Kit
end
section
set_option linter.unusedVariables false
set_option linter.unusedSimpArgs false
namespace Go.Proofs.Ytoiiacbbfhlocaa.Kit
open Go.RowKit Go.Proofs.YtoiiacbbfhlocaaW.PrintWords Go.Proofs.YtoiiacbbfhlocaaW.PrintLast Go.Proofs.YtoiiacbbfhlocaaW.PrintMore
structure Arr (k : IntKind) (T : TypeId) (w : World) (g : Nat) (xs : List Int) : Prop where
  out : w.heap[g]? = some (.cells (nums k xs).toArray T (0, 0))
namespace Arr
variable {k : IntKind} {T : TypeId} {w w1 : World} {g : Nat} {xs : List Int}
theorem lt (h : Arr k T w g xs) : g < w.heap.size := (Array.getElem?_eq_some_iff.1 h.out).1
theorem cellN (h : Arr k T w g xs) (j : Nat) (hj : j < xs.length) : w.cell? ⟨g, j, none⟩ = some (.int k (xs.getD j 0)) := by
  rw [cell_of_row w g j _ _ _ h.out]
  simp [nums, hj]
theorem cell (h : Arr k T w g xs) (i : Int) (h0 : 0 ≤ i) (h1 : i < xs.length) : w.cell? ⟨g, i.toNat, none⟩ = some (.int k (rd xs i)) := h.cellN i.toNat (by omega)
theorem free (h : Arr k T w g xs) (j : Nat) : w.frozen? ⟨g, j, none⟩ = false := frozen_of_row w g j _ _ h.out
theorem put (h : Arr k T w g xs) (j : Nat) (x : Int) : Arr k T (w.setCell ⟨g, j, none⟩ (.int k x)) g (xs.set j x) := by
  refine ⟨?_⟩
  rw [setCell_eq_setRow w g j _ _ _ _ h.out, setRow_heap w g _ _ _ _ h.out]
  congr 2
  apply Array.ext'
  simp [nums, List.map_set]
theorem below (h : Arr k T w g xs) {B : Nat} (hb : Below B w w1) (hg : g < B) : Arr k T w1 g xs := ⟨(hb.block g hg).trans h.out⟩
theorem next (h : Arr k T w g xs) (hb : Below w.heap.size w w1) : Arr k T w1 g xs := h.below hb h.lt
theorem far (h : Arr k T w g xs) (p : Addr) (hp : g ≠ p.block) (v : Value) : Arr k T (w.setCell p v) g xs := ⟨(Go.heap_setCell_other w p g v hp).trans h.out⟩
theorem drew (h : Arr k T w g xs) : Arr k T w.drew g xs := ⟨h.out⟩
theorem drewN (h : Arr k T w g xs) (n : Nat) : Arr k T (w.drewN n) g xs := h.next (pw_below_drewN (Below.refl _ _) n)
theorem alloc (h : Arr k T w g xs) (o : Obj) : Arr k T (w.alloc o) g xs := h.next (below_alloc (Below.refl _ _) o)
theorem new (w : World) (k : IntKind) (T : TypeId) (xs : List Int) : Arr k T (w.alloc (.cells (nums k xs).toArray T)) w.heap.size xs := ⟨heap_alloc_new w _⟩
theorem range (h : Arr k T w g xs) : w.rangeAt g 0 (nums k xs) := fun j v hv => by
  rw [Nat.zero_add, cell_of_row w g j _ _ _ h.out]
  simpa using hv
theorem setRow (h : Arr k T w g xs) (ys : List Int) : Arr k T (w.setRow g (nums k ys).toArray) g ys := ⟨setRow_heap w g _ _ _ _ h.out⟩
theorem setRow_far (h : Arr k T w g xs) (g' : Nat) (hg : g ≠ g') (cs : Array Value) : Arr k T (w.setRow g' cs) g xs := ⟨(setRow_other w g' g cs hg).trans h.out⟩
theorem cells (h : Arr k T w g xs) : ∀ (cs : List Int) (o : Nat), o + cs.length ≤ xs.length → Arr k T (w.setCells g o (nums k cs)) g (xs.take o ++ cs ++ xs.drop (o + cs.length)) := by
  intro cs
  induction cs generalizing w xs with
  | nil =>
    intro o _
    have e : xs.take o ++ [] ++ xs.drop (o + 0) = xs := by simp
    simp only [List.length_nil]
    rw [e]
    exact h
  | cons c cs ih =>
    intro o ho
    simp only [List.length_cons] at ho
    have h2 := ih (h.put o c) (o + 1) (by simp; omega)
    have e : (xs.set o c).take (o + 1) ++ cs ++ (xs.set o c).drop (o + 1 + cs.length) = xs.take o ++ (c :: cs) ++ xs.drop (o + (c :: cs).length) := by
      rw [List.drop_set_of_lt (by omega), show o + (c :: cs).length = o + 1 + cs.length from by simp; omega]
      have e2 : (xs.set o c).take (o + 1) = xs.take o ++ [c] := by
        rw [List.take_succ_eq_append_getElem (by simp; omega), List.getElem_set_self, List.take_set_of_le (by omega)]
      rw [e2]
      simp
    rw [e] at h2
    exact h2
end Arr
theorem nums_one (k : IntKind) (xs : List Int) : (nums k xs).toArray.all (·.oneCell') = true := all_oneCell_toArray fun v hv => by
  simp only [nums, List.mem_map] at hv
  obtain ⟨x, _, rfl⟩ := hv
  rfl
theorem below_setRow {B : Nat} {w W : World} (h : Below B w W) (g : Nat) (hg : B ≤ g) (cs : Array Value) : Below B w (W.setRow g cs) :=
  ⟨h.os, h.tape, h.output, by simpa using h.size, fun i hi => (setRow_other W g i cs (by omega)).trans (h.block i hi)⟩
theorem below_setCell {B : Nat} {w W : World} (h : Below B w W) (g j : Nat) (hg : B ≤ g) (v : Value) : Below B w (W.setCell ⟨g, j, none⟩ v) := h.setCell hg v
section
variable {P : Program} {ops : Array Oper} {rest : List Oper} {o : Oper} {a : Act} {Q : Exit → Act → World → Prop} {W : World}
theorem alloc_arr (hgd : o.guard = none) (T : TypeId) (ho : o.op = .alloc T) (k : IntKind) (xs : List Int) (hz : ∀ w, (zeroValue T).run P w = .ok (.agg (nums k xs).toArray) w)
    (hrun : (execOp a.eval o).run P W = .ok (.value (.pointer (some ⟨W.heap.size, 0, none⟩))) (W.alloc (.cells (nums k xs).toArray T)))
    (h : ∀ w1, Arr k T w1 W.heap.size xs → Below W.heap.size W w1 → wpList P ops Q rest (a.put o.dst (.pointer (some ⟨W.heap.size, 0, none⟩))) w1) : wpList P ops Q (o :: rest) a W :=
  Kd.event_run hgd hrun (h _ (Arr.new W k T xs) (below_alloc (Below.refl _ _) _))
theorem load_arr (hgd : o.guard = none) (T : TypeId) (x : Operand) (ho : o.op = .load T x) (g : Nat) (hx : a.eval x = .pointer (some ⟨g, 0, none⟩)) (k : IntKind) (T' e n : Nat) (xs : List Int) (hA : Arr k T' W g xs)
    (hu : P.underlying T = some (.array n e)) (hi : (P.info? T).map (·.size) = some xs.length)
    (h : wpList P ops Q rest (a.put o.dst (.agg (nums k xs).toArray)) W) : wpList P ops Q (o :: rest) a W :=
  wpList_load_row hgd T x ho g hx T' _ _ _ hA.out hu rfl (by rw [hi]; simp [nums]) h
theorem store_arr (hgd : o.guard = none) (T : TypeId) (x y : Operand) (ho : o.op = .store T x y) (g : Nat) (k : IntKind) (ys : List Int) (hx : a.eval x = .pointer (some ⟨g, 0, none⟩)) (hy : a.eval y = .agg (nums k ys).toArray)
    (T' : Nat) (xs : List Int) (hA : Arr k T' W g xs) (hl : xs.length = ys.length) (hi : (P.info? T).map (·.size) = some ys.length)
    (h : ∀ w1, Arr k T' w1 g ys → w1 = W.setRow g (nums k ys).toArray → wpList P ops Q rest (a.put o.dst undef) w1) : wpList P ops Q (o :: rest) a W :=
  wpList_store_row hgd T x y ho g _ hx hy T' _ hA.out (by rw [hi]; simp [nums]) (by simp [nums, hl]) (nums_one k ys) (h _ (hA.setRow ys) rfl)
end
theorem results_arr {P : Program} {fn : Func} {p : Tmp} {T : TypeId} (h : fn.results = #[.cell p T]) (tmps : Array Value) (w : World) (g : Nat) (k : IntKind) (T' e n : Nat) (xs : List Int)
    (hp : tmps.getD p undef = .pointer (some ⟨g, 0, none⟩)) (hA : Arr k T' w g xs) (hu : P.underlying T = some (.array n e)) (hi : (P.info? T).map (·.size) = some xs.length) :
    (results fn tmps).run P w = .ok (.agg (nums k xs).toArray) w :=
  results_cell_row h tmps w g T' _ _ _ hp hA.out hu rfl (by rw [hi]; simp [nums])
end Go.Proofs.Ytoiiacbbfhlocaa.Kit
end
section
set_option linter.unusedVariables false
set_option linter.unusedSimpArgs false
namespace Go.Proofs.Ytoiiacbbfhlocaa.Kit
open Go.RowKit Go.Proofs.YtoiiacbbfhlocaaW.PrintWords Go.Proofs.YtoiiacbbfhlocaaW.PrintLast Go.Proofs.YtoiiacbbfhlocaaW.PrintMore
def TellsV (k : IntKind) (x : Int) (w : World) (e : Ending) (w' : World) : Prop := e = .returned (.int k x) ∧ w' = w
def GivesA (k : IntKind) (xs : List Int) (w : World) (e : Ending) (w' : World) : Prop := e = .returned (.agg (nums k xs).toArray) ∧ Below w.heap.size w w'
structure Turns (k : IntKind) (T : TypeId) (w : World) (g : Nat) (xs : List Int) (e : Ending) (w' : World) : Prop where
  he : e = .returned (.tuple #[])
  arr : Arr k T w' g xs
  grown : w.grownBy w' (some g)
theorem index_nums {P : Program} (T e n : Nat) (k : IntKind) (xs : List Int) (j : Nat) (hu : P.underlying T = some (.array n e)) (he : P.underlying e = some (.int k)) (hi : (P.info? e).map (·.size) = some 1) (hl : xs.length = n) (hj : j < n) (w : World) :
    (Instr.index T (.agg (nums k xs).toArray) (.int .i64 (j : Int))).run P w = .ok (.int k (xs.getD j 0)) w := by
  cases hq : P.info? e with
  | none => simp [hq] at hi
  | some i =>
    have h1 : i.size = 1 := by simpa [hq] using hi
    have hjx : j < xs.length := by omega
    simp [Instr.index, run_underlying hu, sizeOf, typeInfo, hq, h1, asIntOf, hj, part, isAgg, run_underlying he, nums, hjx]
theorem grown_set {w W : World} {g : Nat} (h : w.grownBy W (some g)) (j : Nat) (v : Value) : w.grownBy (W.setCell ⟨g, j, none⟩ v) (some g) :=
  ⟨h.os, h.tape, h.output, by simpa using h.size, fun i hi hne => (Go.heap_setCell_other W _ i v (fun e => hne (by rw [e]))).trans (h.block i hi hne)⟩
theorem grown_draw {w W : World} {r : Option Nat} (h : w.grownBy W r) : w.grownBy W.drew r := ⟨h.os, h.tape, h.output, h.size, h.block⟩
theorem grown_row {w W : World} {g : Nat} (h : w.grownBy W (some g)) (cs : Array Value) : w.grownBy (W.setRow g cs) (some g) :=
  ⟨h.os, h.tape, h.output, by simpa using h.size, fun i hi hne => (setRow_other W g i cs (fun e => hne (by rw [e]))).trans (h.block i hi hne)⟩
theorem grown_below {w W W1 : World} {r : Option Nat} (h : w.grownBy W r) (h' : Below W.heap.size W W1) : w.grownBy W1 r :=
  ⟨h'.os.trans h.os, h'.tape.trans h.tape, h'.output.trans h.output, Nat.le_trans h.size h'.size, fun i hi hne => (h'.block i (Nat.lt_of_lt_of_le hi h.size)).trans (h.block i hi hne)⟩
theorem grown_then {w W W1 : World} {r : Option Nat} (h : w.grownBy W r) (h' : W.grownBy W1 r) : w.grownBy W1 r :=
  ⟨h'.os.trans h.os, h'.tape.trans h.tape, h'.output.trans h.output, Nat.le_trans h.size h'.size, fun i hi hne => (h'.block i (Nat.lt_of_lt_of_le hi h.size) hne).trans (h.block i hi hne)⟩
theorem below_grown {B : Nat} {w W W1 : World} {g : Nat} (h : Below B w W) (hB : B ≤ W.heap.size) (hg : B ≤ g) (h' : W.grownBy W1 (some g)) : Below B w W1 :=
  pw_below_grown h (some g) hB h' (fun k hk => by cases hk; exact hg)
theorem below_sets {B : Nat} {g : Nat} (hg : B ≤ g) : ∀ (cs : List Value) (o : Nat) {w W : World}, Below B w W → Below B w (W.setCells g o cs)
  | [], _, _, _, h => h
  | c :: cs, o, _, _, h => below_sets hg cs (o + 1) (h.setCell hg c)
theorem Arr.grown_ {k : IntKind} {T : TypeId} {w w1 : World} {g gs : Nat} {xs : List Int} (h : Arr k T w g xs) (hg : w.grownBy w1 (some gs)) (hne : g ≠ gs) : Arr k T w1 g xs := ⟨(hg.block g h.lt (fun e => hne (by injection e))).trans h.out⟩
theorem arr_new {P : Program} {ops : Array Oper} {rest : List Oper} {o : Oper} {a : Act} {Q : Exit → Act → World → Prop} {W : World} (hgd : o.guard = none) (T : TypeId) (k : IntKind) (xs : List Int)
    (hrun : (execOp a.eval o).run P W = .ok (.value (.pointer (some ⟨W.heap.size, 0, none⟩))) (W.alloc (.cells (nums k xs).toArray T)))
    (h : ∀ w1, Arr k T w1 W.heap.size xs → Below W.heap.size W w1 → wpList P ops Q rest (a.put o.dst (.pointer (some ⟨W.heap.size, 0, none⟩))) w1) : wpList P ops Q (o :: rest) a W :=
  Kd.event_run hgd hrun (h _ (Arr.new W k T xs) (below_alloc (Below.refl _ _) _))
theorem Arr.sets_far {k : IntKind} {T : TypeId} {w : World} {g g' : Nat} {xs : List Int} (hne : g ≠ g') : ∀ (cs : List Value) (o : Nat) {w : World}, Arr k T w g xs → Arr k T (w.setCells g' o cs) g xs
  | [], _, _, h => h
  | c :: cs, o, _, h => Arr.sets_far (w := w) hne cs (o + 1) (h.far _ hne c)
theorem Arr.mid {k : IntKind} {T : TypeId} {w : World} {g : Nat} {xs : List Int} (h : Arr k T w g xs) (o n : Nat) (hn : o + n ≤ xs.length) : w.rangeAt g o (nums k ((xs.drop o).take n)) := fun j v hv => by
  have hj : j < n := by
    have h2 := (List.getElem?_eq_some_iff.1 hv).1
    simp [nums] at h2
    omega
  rw [h.cellN (o + j) (by omega), ← hv]
  have h2 : o + j < xs.length := by omega
  simp [nums, List.getElem?_take, hj, h2]
def four (xs : List Int) (o : Nat) : List Int := [xs.getD o 0, xs.getD (o + 1) 0, xs.getD (o + 2) 0, xs.getD (o + 3) 0]
theorem four_eq (xs : List Int) (o : Nat) (h : o + 4 ≤ xs.length) : (xs.drop o).take 4 = four xs o := by
  apply List.ext_getElem
  · simp [four]; omega
  · intro j h1 h2
    have hj : j < 4 := by simpa [four] using h2
    have h3 : o + j < xs.length := by omega
    simp only [List.getElem_take, List.getElem_drop]
    match j, hj with
    | 0, _ => simp [four, show o < xs.length from by omega]
    | 1, _ => simp [four, show o + 1 < xs.length from by omega]
    | 2, _ => simp [four, show o + 2 < xs.length from by omega]
    | 3, _ => simp [four, show o + 3 < xs.length from by omega]
theorem Arr.reads_part {T : TypeId} {w : World} {k : IntKind} {g : Nat} {xs : List Int} (h : Arr k T w g xs) (o n : Nat) (hn : o + n ≤ xs.length) (h1 : n ≤ 1000000) : Kd.C (Kd.int k) w (some ⟨g, o, none⟩) n ((xs.drop o).take n) := by
  refine Kd.C_of_reads (d := (0 : Int)) (h1 := fun _ => rfl) ⟨by simp; omega, by omega, fun _ => ⟨_, rfl, fun j hj => ?_⟩⟩
  have := h.cellN (o + j) (by omega)
  have e : ((xs.drop o).take n).getD j 0 = xs.getD (o + j) 0 := by simp [List.getD, List.getElem?_take, hj]
  rw [e, show (⟨g, o, none⟩ : Addr).add j = ⟨g, o + j, none⟩ from by unfold Addr.add; split <;> simp_all]
  exact this
theorem Arr.reads {T : TypeId} {w : World} {k : IntKind} {g : Nat} {xs : List Int} (h : Arr k T w g xs) (n : Nat) (hn : xs.length = n) (h1 : n ≤ 1000000) : Kd.C (Kd.int k) w (some ⟨g, 0, none⟩) n xs := by
  have := h.reads_part 0 n (by omega) h1
  rwa [List.drop_zero, List.take_of_length_le (by omega)] at this
theorem copy_arr {P : Program} {k : IntKind} {Td Ts : TypeId} (w : World) (dT sT ty e : TypeId) (gd od dl dc gs os sl sc n : Nat) (xs ys : List Int) (hd : Arr k Td w gd xs) (hs : Arr k Ts w gs ys)
    (hu : P.underlying dT = some (.slice e)) (hi : (P.info? e).map (·.size) = some 1) (hn : n = Nat.min sl dl) (ho : od + n ≤ xs.length) (hos : os + n ≤ ys.length) :
    (Builtin.copy_ #[dT, sT] ty #[.slice (some ⟨gd, od, none⟩) dl dc, .slice (some ⟨gs, os, none⟩) sl sc]).run P w = .ok (goInt n) (w.setCells gd od (nums k ((ys.drop os).take n))) := by
  have hl : (nums k ((ys.drop os).take n)).length = n := by simp [nums]; omega
  have h := run_copy_cells (P := P) w dT sT ty e gd od dl dc ⟨gs, os, none⟩ sl sc (nums k ((ys.drop os).take n)) hu hi (by rw [hl, hn])
    (fun j v hj => by
      have hjn : j < n := by have := (List.getElem?_eq_some_iff.1 hj).1; omega
      rw [show (⟨gs, os, none⟩ : Addr).add j = ⟨gs, os + j, none⟩ from by unfold Addr.add; split <;> simp_all, hs.cellN (os + j) (by omega), ← hj]
      have h2 : os + j < ys.length := by omega
      simp [nums, List.getElem?_take, hjn, h2])
    (fun j hj => by rw [hd.cellN (od + j) (by omega)]; rfl) (fun j hj => hd.free _)
    (fun v hv => by simp only [nums, List.mem_map] at hv; obtain ⟨x, _, rfl⟩ := hv; rfl)
  rwa [hl] at h
end Go.Proofs.Ytoiiacbbfhlocaa.Kit
end
section
namespace Go.Proofs.Ytoiiacbbfhlocaa.Kit
open Go.RowKit Go.Proofs.YtoiiacbbfhlocaaW.PrintWords
theorem bits_xor_nat (k : IntKind) (j : Nat) (hj : j ≤ k.bits) (hk : ∀ n : Int, 0 ≤ n → n < 2 ^ j → k.wrap n = n) (a b : Nat) (ha : a < 2 ^ j) (hb : b < 2 ^ j) :
    bits .xor k a b = ((a ^^^ b : Nat) : Int) := by
  have hp : 2 ^ j ≤ 2 ^ k.bits := Nat.pow_le_pow_right (by decide) hj
  have ha' : a % 2 ^ k.bits = a := Nat.mod_eq_of_lt (Nat.lt_of_lt_of_le ha hp)
  have hb' : b % 2 ^ k.bits = b := Nat.mod_eq_of_lt (Nat.lt_of_lt_of_le hb hp)
  have cast : ∀ n : Nat, n < 2 ^ j → ((n : Nat) : Int) < 2 ^ j := fun n h => by exact_mod_cast h
  simp only [bits, BitVec.ofInt_natCast, BitVec.toNat_xor, BitVec.toNat_ofNat, ha', hb']
  exact hk _ (Int.natCast_nonneg _) (cast _ (Nat.xor_lt_two_pow ha hb))
theorem bxor8 (a b : Nat) (ha : a < 256) (hb : b < 256) : bits .xor .u8 a b = ((a ^^^ b : Nat) : Int) := bits_xor_nat .u8 8 (by decide) wraps_u8 a b ha hb
def Bytes (l : List Int) : Prop := ∀ x ∈ l, 0 ≤ x ∧ x < 256
theorem bytes_of_wf {l : List Int} (h : ∀ x ∈ l, (Lit.int .u8 x).wf = true) : Bytes l := fun x hx => by
  have := h x hx
  simp only [Lit.wf, Bool.and_eq_true, decide_eq_true_eq] at this
  rw [show IntKind.u8.min = 0 from rfl, show IntKind.u8.max = 255 from rfl] at this
  omega
theorem Bytes.at_ {l : List Int} (h : Bytes l) (i : Int) : 0 ≤ rd l i ∧ rd l i < 256 := by
  unfold rd
  rcases Nat.lt_or_ge i.toNat l.length with hl | hl
  · rw [List.getD_eq_getElem?_getD, List.getElem?_eq_getElem hl]
    exact h _ (List.getElem_mem hl)
  · rw [List.getD_eq_getElem?_getD, List.getElem?_eq_none hl]
    simp
end Go.Proofs.Ytoiiacbbfhlocaa.Kit
end
section
set_option linter.unusedVariables false
set_option linter.unusedSimpArgs false
namespace Go.Proofs.Ytoiiacbbfhlocaa.Kit
open Go.RowKit Go.Proofs.YtoiiacbbfhlocaaW.PrintWords Go.Proofs.YtoiiacbbfhlocaaW.PrintLast Go.Proofs.YtoiiacbbfhlocaaW.PrintMore
section
variable {P : Program} {ops : Array Oper} {C : World → Prop} {Q : Act → Prop} {a : Act} {o : Oper} {rest : List Oper}
end
end Go.Proofs.Ytoiiacbbfhlocaa.Kit
end
section
set_option linter.unusedVariables false
set_option linter.unusedSimpArgs false
namespace Go.Proofs.Ytoiiacbbfhlocaa.Kit
open Go.RowKit Go.Proofs.YtoiiacbbfhlocaaW.PrintWords Go.Proofs.YtoiiacbbfhlocaaW.PrintLast Go.Proofs.YtoiiacbbfhlocaaW.PrintMore
section
variable {P : Program} {Q : Exit → Act → World → Prop} {l : List Oper} {md : Region.Mode} {ops : Array Oper}
def Ext (W w : World) : Prop := Below W.heap.size W w
def wpC (P : Program) (l : List Oper) (Q : Exit → Act → World → Prop) (n : Nat) (listed : Array Bool) (a : Act) (W : World) : Prop := wpAnyH P .any l.toArray Q (Ext W) n listed a W
theorem sharpen {S S' : World → Prop} (h : ∀ w, S' w → S w) : ∀ (fuel : Nat) (listed : Array Bool) (a : Act) (w : World), wpAnyH P md ops Q S' fuel listed a w → wpAnyH P md ops Q S fuel listed a w
  | 0, _, _, _, h0 => h0
  | n + 1, listed, a, w, h0 => ⟨h0.1, fun i hi => wpOp_mono (fun a w ⟨hs, hw⟩ => ⟨h w hs, sharpen h n _ a w hw⟩) (h0.2 i hi)⟩
theorem chain_region {id : Nat} {a : Act} {w : World} (hm : P.follows .mixedOrders = true) (n : Nat) (hn : l.length = n) (h : wpC P l Q n (Array.replicate n false) a w.drew) : (Code.region id l.toArray true).wp P Q a w := by
  subst hn
  refine wp_region_held_drew (S := Ext w.drew) hm (Below.refl _ _) (fun _ => ?_)
  simpa [wpC] using h
variable {n i : Nat} {listed : Array Bool} {a : Act} {W : World} {o : Oper}
theorem chain_take (i : Nat) (v : Value) (hi : l[i]? = some o) (hs : Region.noSelect l.toArray = true) (hf : Region.free .any l.toArray listed i = true) (hr : (Region.ready .any l.toArray listed).contains i = true)
    (hQ : ∀ c a w, Q (.panic c) (a.put o.dst v) w → Q (.panic c) a w) (hw : Region.wanted o (yielded l.toArray a.tmps) = true) (hrun : ∀ w, Ext W w → (execOp a.eval o).run P w = .ok (.value v) w)
    (h : wpC P l Q n (listed.setIfInBounds i true) (a.put o.dst v) W) : wpC P l Q (n + 1) listed a W :=
  wpAnyH_take (by simpa using hi) hs hf hr hQ (.inl ⟨hw, hrun⟩) (Below.refl _ _) h
theorem chain_go (i : Nat) (hi : l[i]? = some o) (hr : Region.ready .any l.toArray listed = [i])
    (h : ∀ K' : Act → World → Prop, Shut (∀ a w, Ext W w → wpC P l Q n (listed.setIfInBounds i true) a w → K' a w) → if Region.wanted o (yielded l.toArray a.tmps) = true then Oper.wp P o a W K' Q else K' (a.put o.dst undef) W) : wpC P l Q (n + 1) listed a W :=
  wpAnyH_ready hr (by simp) (AllReadyH.cons (by simpa using hi) (fun K' hK => h K' (fun a w hE hC => hK.out a w hE (fun _ => sharpen (fun w'' h'' => below_next hE h'') _ _ _ _ hC))) AllReadyH.nil)
theorem chain_call (i : Nat) (hi : l[i]? = some o) (hr : Region.ready .any l.toArray listed = [i]) (hw : Region.wanted o (yielded l.toArray a.tmps) = true)
    (f : Nat) (fn : Func) (c : Code) (hf : P.funcs[f]? = some fn) (hname : (fn.name == "runtime.NumGoroutine") = false) (hb : fn.body = some c) (as_ : Array Operand) (ts : Array TypeId) (vs : Array Value) (ho : o.op = .call { callee := .value (.func f), args := as_, argTypes := ts }) (hv : as_.map a.eval = vs)
    {R : Ending → World → Prop} (hC : Calls P f vs W R) (h : ∀ e w, R e w → ∃ v, e = .returned v ∧ Ext W w ∧ wpC P l Q n (listed.setIfInBounds i true) (a.put o.dst v) w) : wpC P l Q (n + 1) listed a W := by
  refine chain_go i hi hr (fun K' hK => ?_)
  rw [if_pos hw]
  have hr : (execOp a.eval o).run P W = .ok (.enter f vs) W := by
    unfold execOp
    simp only [ho]
    have h1 : fn.name ≠ "runtime.NumGoroutine" := by simpa using hname
    simp [resolve, Deferred.ofValue, invoke, hv, Act.eval, callFunc, go_sem, hf, h1, hb, mark]
  unfold Oper.wp
  rw [hr]
  refine hC.mono (fun e w hR => ?_)
  obtain ⟨v, rfl, hE, hw'⟩ := h e w hR
  exact hK.out _ _ hE hw'
theorem chain_done (hr : Region.ready .any l.toArray listed = []) (h : Q .normal a W) : wpC P l Q n listed a W := wpAnyH_done hr h n
theorem run_move_at (x : Operand) (ho : o.op = .move x) (w : World) : (execOp a.eval o).run P w = .ok (.value (a.eval x)) w := BigFrame.run_move x ho w
end
end Go.Proofs.Ytoiiacbbfhlocaa.Kit
end
section
set_option linter.unusedVariables false
set_option linter.unusedSimpArgs false
namespace Go.Proofs.Ytoiiacbbfhlocaa.Kit
open Go.RowKit Go.Proofs.YtoiiacbbfhlocaaW.PrintWords Go.Proofs.YtoiiacbbfhlocaaW.PrintLast Go.Proofs.YtoiiacbbfhlocaaW.PrintMore
section
variable {P : Program} {Q : Exit → Act → World → Prop} {l : List Oper} {S : World → Prop}
def wpS (P : Program) (l : List Oper) (Q : Exit → Act → World → Prop) (S : World → Prop) (n : Nat) (listed : Array Bool) (a : Act) (w : World) : Prop := wpAnyH P .any l.toArray Q S n listed a w
theorem s_region {id : Nat} {a : Act} {w : World} (S : World → Prop) (hm : P.follows .mixedOrders = true) (n : Nat) (hn : l.length = n) (hS : S w.drew) (h : S w.drew → wpS P l Q S n (Array.replicate n false) a w.drew) : (Code.region id l.toArray true).wp P Q a w := by
  subst hn
  refine wp_region_held_drew (S := S) hm hS (fun hS => ?_)
  simpa [wpS] using h hS
variable {n : Nat} {listed : Array Bool} {a : Act} {w : World} {o : Oper}
theorem s_take (i : Nat) (v : Value) (hS : S w) (hi : l[i]? = some o) (hs : Region.noSelect l.toArray = true) (hf : Region.free .any l.toArray listed i = true) (hr : (Region.ready .any l.toArray listed).contains i = true)
    (hQ : ∀ c a w, Q (.panic c) (a.put o.dst v) w → Q (.panic c) a w) (hw : Region.wanted o (yielded l.toArray a.tmps) = true) (hrun : ∀ u, S u → (execOp a.eval o).run P u = .ok (.value v) u)
    (h : wpS P l Q S n (listed.setIfInBounds i true) (a.put o.dst v) w) : wpS P l Q S (n + 1) listed a w :=
  wpAnyH_take (by simpa using hi) hs hf hr hQ (.inl ⟨hw, hrun⟩) hS h
theorem s_go (i : Nat) (hi : l[i]? = some o) (hr : Region.ready .any l.toArray listed = [i])
    (h : ∀ K' : Act → World → Prop, Shut (∀ a w, S w → wpS P l Q S n (listed.setIfInBounds i true) a w → K' a w) → if Region.wanted o (yielded l.toArray a.tmps) = true then Oper.wp P o a w K' Q else K' (a.put o.dst undef) w) : wpS P l Q S (n + 1) listed a w :=
  wpAnyH_ready hr (by simp) (AllReadyH.cons (by simpa using hi) (fun K' hK => h K' (fun a w hE hC => hK.out a w hE (fun _ => hC))) AllReadyH.nil)
theorem s_event (i : Nat) (v : Value) (w1 : World) (hi : l[i]? = some o) (hr : Region.ready .any l.toArray listed = [i]) (hw : Region.wanted o (yielded l.toArray a.tmps) = true) (hrun : (execOp a.eval o).run P w = .ok (.value v) w1) (hS : S w1)
    (h : S w1 → wpS P l Q S n (listed.setIfInBounds i true) (a.put o.dst v) w1) : wpS P l Q S (n + 1) listed a w :=
  s_go i hi hr (fun K' hK => event_step hw hrun (hK.out _ _ hS (h hS)))
theorem s_call (i : Nat) (hi : l[i]? = some o) (hr : Region.ready .any l.toArray listed = [i]) (hw : Region.wanted o (yielded l.toArray a.tmps) = true)
    (f : Nat) (fn : Func) (c : Code) (hf : P.funcs[f]? = some fn) (hname : (fn.name == "runtime.NumGoroutine") = false) (hb : fn.body = some c) (as_ : Array Operand) (ts : Array TypeId) (vs : Array Value) (ho : o.op = .call { callee := .value (.func f), args := as_, argTypes := ts }) (hv : as_.map a.eval = vs)
    {R : Ending → World → Prop} (hC : Calls P f vs w R) (h : ∀ e w', R e w' → ∃ v, e = .returned v ∧ S w' ∧ wpS P l Q S n (listed.setIfInBounds i true) (a.put o.dst v) w') : wpS P l Q S (n + 1) listed a w := by
  refine s_go i hi hr (fun K' hK => ?_)
  rw [if_pos hw]
  have hr : (execOp a.eval o).run P w = .ok (.enter f vs) w := by
    unfold execOp
    simp only [ho]
    have h1 : fn.name ≠ "runtime.NumGoroutine" := by simpa using hname
    simp [resolve, Deferred.ofValue, invoke, hv, Act.eval, callFunc, go_sem, hf, h1, hb, mark]
  unfold Oper.wp
  rw [hr]
  refine hC.mono (fun e w' hR => ?_)
  obtain ⟨v, rfl, hE, hw'⟩ := h e w' hR
  exact hK.out _ _ hE hw'
theorem s_store_arr (i : Nat) (hi : l[i]? = some o) (hr : Region.ready .any l.toArray listed = [i]) (hw : Region.wanted o (yielded l.toArray a.tmps) = true) (T : TypeId) (x y : Operand) (ho : o.op = .store T x y) (g : Nat) (k : IntKind) (ys : List Int)
    (hx : a.eval x = .pointer (some ⟨g, 0, none⟩)) (hy : a.eval y = .agg (nums k ys).toArray) (T' : Nat) (xs : List Int) (hA : Arr k T' w g xs) (hl : xs.length = ys.length) (hz : (P.info? T).map (·.size) = some ys.length)
    (hS : S (w.setRow g (nums k ys).toArray)) (h : Arr k T' (w.setRow g (nums k ys).toArray) g ys → wpS P l Q S n (listed.setIfInBounds i true) (a.put o.dst undef) (w.setRow g (nums k ys).toArray)) : wpS P l Q S (n + 1) listed a w :=
  s_go i hi hr (fun K' hK => by
    rw [if_pos hw]
    exact wp_store_row T x y ho g _ hx hy T' _ hA.out (by rw [hz]; simp [nums]) (by simp [nums, hl]) (nums_one k ys) (hK.out _ _ hS (h (hA.setRow ys))))
theorem run_load_part (T : TypeId) (x : Operand) (ho : o.op = .load T x) (g off m : Nat) (hx : a.eval x = .pointer (some ⟨g, off, none⟩)) (k : IntKind) (T' : Nat) (d : TypeDesc) (xs : List Int) {w : World} (hA : Arr k T' w g xs) (hm : off + m ≤ xs.length)
    (hu : P.underlying T = some d) (hd : d.isRow = true) (hi : (P.info? T).map (·.size) = some m) : (execOp a.eval o).run P w = .ok (.value (.agg (nums k ((xs.drop off).take m)).toArray)) w := by
  unfold execOp
  simp only [ho, hx, Instr.loadAt, Instr.sureAddr, Sem.run_bind, Sem.run_pure, Result.andThen_ok, run_loadVar_mid w g off T (nums k ((xs.drop off).take m)) _ (hA.mid off m hm) hu hd (by rw [hi]; simp [nums]; omega)]
theorem results_row {fn : Func} {p : Tmp} {T : TypeId} (h : fn.results = #[.cell p T]) (tmps : Array Value) (w : World) (g : Nat) (k : IntKind) (T' : Nat) (d : TypeDesc) (xs : List Int)
    (hp : tmps.getD p undef = .pointer (some ⟨g, 0, none⟩)) (hA : Arr k T' w g xs) (hu : P.underlying T = some d) (hd : d.isRow = true) (hi : (P.info? T).map (·.size) = some xs.length) :
    (results fn tmps).run P w = .ok (.agg (nums k xs).toArray) w :=
  results_cell_row h tmps w g T' _ _ d hp hA.out hu (by cases d <;> first | rfl | exact hd) (by rw [hi]; simp [nums])
theorem run_build_at (t : TypeId) (parts : Array (Nat × Operand)) (ho : o.op = .build t parts) (vs : Array (Nat × Value)) (hv : parts.map (fun p => (p.1, a.eval p.2)) = vs) (v : Value) (h : (Instr.build t vs).run P w = .ok v w) : (execOp a.eval o).run P w = .ok (.value v) w := by
  unfold execOp
  simp only [ho, hv]
  simp [Sem.run_bind, h, Result.andThen]
def goS (P : Program) (l : List Oper) (Q : Exit → Act → World → Prop) (S : World → Prop) (n : Nat) (listed : Array Bool) (a : Act) (w : World) (i : Nat) (o : Oper) : Prop :=
  ∀ K' : Act → World → Prop, Shut (∀ a w, S w → wpS P l Q S n (listed.setIfInBounds i true) a w → K' a w) → if Region.wanted o (yielded l.toArray a.tmps) = true then Oper.wp P o a w K' Q else K' (a.put o.dst undef) w
theorem s_one (i : Nat) (hi : l[i]? = some o) (hr : Region.ready .any l.toArray listed = [i]) (h : goS P l Q S n listed a w i o) : wpS P l Q S (n + 1) listed a w := s_go i hi hr h
theorem s_two (i j : Nat) {o2 : Oper} (hi : l[i]? = some o) (hj : l[j]? = some o2) (hr : Region.ready .any l.toArray listed = [i, j]) (h1 : goS P l Q S n listed a w i o) (h2 : goS P l Q S n listed a w j o2) : wpS P l Q S (n + 1) listed a w :=
  wpAnyH_ready hr (by simp) (AllReadyH.cons (by simpa using hi) (fun K' hK => h1 K' (fun a w hE hC => hK.out a w hE (fun _ => hC))) (AllReadyH.cons (by simpa using hj) (fun K' hK => h2 K' (fun a w hE hC => hK.out a w hE (fun _ => hC))) AllReadyH.nil))
theorem g_event {i : Nat} (v : Value) (w1 : World) (hw : Region.wanted o (yielded l.toArray a.tmps) = true) (hrun : (execOp a.eval o).run P w = .ok (.value v) w1) (hS : S w1)
    (h : S w1 → wpS P l Q S n (listed.setIfInBounds i true) (a.put o.dst v) w1) : goS P l Q S n listed a w i o :=
  fun K' hK => event_step hw hrun (hK.out _ _ hS (h hS))
theorem g_call {i : Nat} (hw : Region.wanted o (yielded l.toArray a.tmps) = true)
    (f : Nat) (fn : Func) (c : Code) (hf : P.funcs[f]? = some fn) (hname : (fn.name == "runtime.NumGoroutine") = false) (hb : fn.body = some c) (as_ : Array Operand) (ts : Array TypeId) (vs : Array Value) (ho : o.op = .call { callee := .value (.func f), args := as_, argTypes := ts }) (hv : as_.map a.eval = vs)
    {R : Ending → World → Prop} (hC : Calls P f vs w R) (h : ∀ e w', R e w' → ∃ v, e = .returned v ∧ S w' ∧ wpS P l Q S n (listed.setIfInBounds i true) (a.put o.dst v) w') : goS P l Q S n listed a w i o := by
  intro K' hK
  rw [if_pos hw]
  have hr : (execOp a.eval o).run P w = .ok (.enter f vs) w := by
    unfold execOp
    simp only [ho]
    have h1 : fn.name ≠ "runtime.NumGoroutine" := by simpa using hname
    simp [resolve, Deferred.ofValue, invoke, hv, Act.eval, callFunc, go_sem, hf, h1, hb, mark]
  unfold Oper.wp
  rw [hr]
  refine hC.mono (fun e w hR => ?_)
  obtain ⟨v, rfl, hE, hw'⟩ := h e w hR
  exact hK.out _ _ hE hw'
theorem run_load_row (T : TypeId) (x : Operand) (ho : o.op = .load T x) (g : Nat) (hx : a.eval x = .pointer (some ⟨g, 0, none⟩)) (k : IntKind) (T' : Nat) (d : TypeDesc) (xs : List Int) {w : World} (hA : Arr k T' w g xs)
    (hu : P.underlying T = some d) (hd : d.isRow = true) (hi : (P.info? T).map (·.size) = some xs.length) : (execOp a.eval o).run P w = .ok (.value (.agg (nums k xs).toArray)) w := by
  unfold execOp
  simp only [ho, hx, Instr.loadAt, Instr.sureAddr, Sem.run_bind, Sem.run_pure, Result.andThen_ok, run_loadVar_mid w g 0 T (nums k xs) _ hA.range hu hd (by rw [hi]; simp [nums])]
theorem load_row {ops : Array Oper} {rest : List Oper} (hgd : o.guard = none) (T : TypeId) (x : Operand) (ho : o.op = .load T x) (g : Nat) (hx : a.eval x = .pointer (some ⟨g, 0, none⟩)) (k : IntKind) (T' : Nat) (d : TypeDesc) (xs : List Int) (hA : Arr k T' w g xs)
    (hu : P.underlying T = some d) (hd : d.isRow = true) (hi : (P.info? T).map (·.size) = some xs.length) (h : wpList P ops Q rest (a.put o.dst (.agg (nums k xs).toArray)) w) : wpList P ops Q (o :: rest) a w :=
  wpList_load_mid hgd T x ho g 0 hx (nums k xs) d hA.range hu hd (by rw [hi]; simp [nums]) h
theorem s_done (hr : Region.ready .any l.toArray listed = []) (h : Q .normal a w) : wpS P l Q S n listed a w := wpAnyH_done hr h n
end
end Go.Proofs.Ytoiiacbbfhlocaa.Kit
end
section
set_option linter.unusedVariables false
set_option linter.unusedSimpArgs false
namespace Go.Proofs.Ytoiiacbbfhlocaa.Kit
open Go.RowKit Go.Proofs.YtoiiacbbfhlocaaW.PrintWords Go.Proofs.YtoiiacbbfhlocaaW.PrintLast Go.Proofs.YtoiiacbbfhlocaaW.PrintMore
theorem Arr.row {k : IntKind} {e : TypeId} {w : World} {g : Nat} {xs : List Int} (h : Arr k e w g xs) (base n : Nat) (hn : xs.length = n) (hb : base ≤ g) (h1 : n ≤ 1000000) (ok : Nat → Prop) (hok : ok g) : Kd.R (Kd.int k) e w base ok (.slice (some ⟨g, 0, none⟩) n n) xs := by
  subst hn
  refine ⟨fun k hk => ?_, nums k xs, ⟨?_, .inr ⟨g, xs.length, (nums k xs).toArray, rfl, hb, h.out, Nat.le_refl _, by unfold maxLen; omega, ?_, ?_⟩⟩, ?_⟩
  · simp only [Value.ownBlock] at hk
    injection hk with hk
    subst hk
    exact hok
  · show (nums _ xs).length = xs.length * 1
    simp [nums]
  · show _ = xs.length * 1
    simp [nums]
  · show List.take (xs.length * 1) (nums k xs) = nums k xs
    exact List.take_of_length_le (by simp [nums])
  · refine ⟨by simp [nums, Kd.int, Kd.scalar], fun j p hp => ?_⟩
    have hj : j < xs.length := (List.getElem?_eq_some_iff.1 hp).1
    have e1 : ((nums k xs).drop (j * (Kd.int k).sz)).take (Kd.int k).sz = [Value.int k p] := by
      show ((nums k xs).drop (j * 1)).take 1 = _
      rw [Nat.mul_one]
      apply List.ext_getElem?
      intro i
      cases i with
      | zero => simp [nums, hp]
      | succ i => simp; omega
    rw [e1]
    rfl
section
variable {P : Program} {ops : Array Oper} {rest : List Oper} {o : Oper} {a : Act} {Q : Exit → Act → World → Prop} {W : World}
theorem make_arr (hgd : o.guard = none) (T : TypeId) (x y : Operand) (ho : o.op = .makeSlice T x y) (e : TypeId) (k : IntKind) (n : Nat) (hx : a.eval x = .int .i64 n) (hy : a.eval y = .int .i64 n)
    (hmk : ∀ w : World, (Instr.makeSlice T (.int .i64 (n : Int)) (.int .i64 (n : Int))).run P w = .ok (.slice (some ⟨w.heap.size, 0, none⟩) n n) (w.alloc (.cells (nums k (List.replicate n 0)).toArray e)))
    (h : ∀ w1, Arr k e w1 W.heap.size (List.replicate n 0) → Below W.heap.size W w1 → wpList P ops Q rest (a.put o.dst (.slice (some ⟨W.heap.size, 0, none⟩) n n)) w1) : wpList P ops Q (o :: rest) a W := by
  refine Kd.event_run hgd ?_ (h _ (Arr.new W k e _) (below_alloc (Below.refl _ _) _))
  unfold execOp
  simp only [ho, hx, hy, Sem.run_bind, hmk W, Result.andThen_ok, Sem.run_pure]
theorem copy_wp {k : IntKind} {Td : TypeId} (hgd : o.guard = none) (d s : Operand) (dT sT e : TypeId) (ho : o.op = .call { callee := .builtin .copy, args := #[d, s], argTypes := #[dT, sT] })
    (gd dl dc : Nat) (A : Option Addr) (sl sc : Nat) (xs ys : List Int) (hd : a.eval d = .slice (some ⟨gd, 0, none⟩) dl dc) (hs : a.eval s = .slice A sl sc) (hA : Arr k Td W gd xs) (hC : Kd.C (Kd.int k) W A sl ys)
    (hu : P.underlying dT = some (.slice e)) (hi : (P.info? e).map (·.size) = some 1) (hxl : xs.length = dl) (hle : sl ≤ dl)
    (h : ∀ w1, Arr k Td w1 gd (ys ++ xs.drop sl) → w1 = W.setCells gd 0 (nums k ys) → wpList P ops Q rest (a.put o.dst (goInt sl)) w1) : wpList P ops Q (o :: rest) a W := by
  have hyl : ys.length = sl := hC.1
  have hw : Arr k Td (W.setCells gd 0 (nums k ys)) gd (ys ++ xs.drop sl) := by
    have := hA.cells ys 0 (by omega)
    rwa [List.take_zero, List.nil_append, Nat.zero_add, hyl] at this
  have hrun : (Builtin.copy_ #[dT, sT] o.type #[.slice (some ⟨gd, 0, none⟩) dl dc, .slice A sl sc]).run P W = .ok (goInt sl) (W.setCells gd 0 (nums k ys)) := by
    by_cases h0 : sl = 0
    · subst h0
      have hy : ys = [] := List.length_eq_zero_iff.1 hyl
      subst hy
      have := run_copy_none (P := P) W dT sT o.type e (some ⟨gd, 0, none⟩) A dl dc 0 sc hu hi (by simp)
      simpa [nums, World.setCells] using this
    · obtain ⟨b, off, rfl, hc⟩ := C_cells hC (by omega)
      have hl : (nums k ys).length = sl := by simp [nums, hyl]
      have := run_copy_cells (P := P) W dT sT o.type e gd 0 dl dc ⟨b, off, none⟩ sl sc (nums k ys) hu hi (by rw [hl]; exact (Nat.min_eq_left hle).symm)
        (fun j v hj => by
          have hjn : j < sl := by have := (List.getElem?_eq_some_iff.1 hj).1; omega
          rw [show (⟨b, off, none⟩ : Addr).add j = ⟨b, off + j, none⟩ from by unfold Addr.add; split <;> simp_all, hc j hjn, ← hj]
          simp [nums, show j < ys.length from by omega])
        (fun j hj => by rw [Nat.zero_add, hA.cellN j (by omega)]; rfl) (fun j hj => hA.free _)
        (fun v hv => by simp only [nums, List.mem_map] at hv; obtain ⟨x, _, rfl⟩ := hv; rfl)
      rwa [hl] at this
  refine Kd.event_run hgd ?_ (h _ hw rfl)
  simp [execOp, ho, resolve, invoke, builtin, hd, hs, hrun, Result.andThen]
end
end Go.Proofs.Ytoiiacbbfhlocaa.Kit
end
section
set_option linter.unusedVariables false
set_option linter.unusedSimpArgs false
namespace Go.Proofs.Ytoiiacbbfhlocaa.Com
open Go.RowKit Go.Proofs.YtoiiacbbfhlocaaW.PrintWords Go.Proofs.YtoiiacbbfhlocaaW.PrintLast Go.Proofs.YtoiiacbbfhlocaaW.PrintMore Go.Proofs.Ytoiiacbbfhlocaa.Kit
theorem info5 : (Try.prog.info? 5).map (fun i => (i.zero, i.size, i.bytes)) = some (some (.int .u8 0), 1, 1) := by kernel_rfl
def GivesArr (k : IntKind) (xs : List Int) (w : World) (e : Ending) (w' : World) : Prop := e = .returned (.agg (nums k xs).toArray) ∧ Below w.heap.size w w'
def OutB (w : World) (r : List Int) (e : Ending) (w' : World) : Prop :=
  ∃ v0_ : Value, e = .returned (v0_) ∧ Kd.R (Kd.int .u8) 5 w' w.heap.size (fun _ => True) v0_ r ∧ Below w.heap.size w w'
theorem rangeu64 {x : Int} (h : (Lit.int .u64 x).wf = true) : 0 ≤ x ∧ x < 18446744073709551616 := by
  simp only [Lit.wf, Bool.and_eq_true, decide_eq_true_eq] at h
  rw [show IntKind.u64.min = 0 from rfl, show IntKind.u64.max = 18446744073709551615 from rfl] at h
  omega
end Go.Proofs.Ytoiiacbbfhlocaa.Com
end
section
set_option linter.unusedVariables false
set_option linter.unusedSimpArgs false
namespace Go.Proofs.Ytoiiacbbfhlocaa.Kit
open Go.RowKit Go.Proofs.YtoiiacbbfhlocaaW.PrintWords Go.Proofs.YtoiiacbbfhlocaaW.PrintLast Go.Proofs.YtoiiacbbfhlocaaW.PrintMore
theorem part_nums {P : Program} (e n : Nat) (k : IntKind) (xs : List Int) (j : Nat) (he : P.underlying e = some (.int k)) (hx : xs.length = n) (hj : j < n) (w : World) :
    (part e (nums k xs).toArray (j * 1)).run P w = .ok (.int k (xs.getD j 0)) w := by
  have hjx : j < xs.length := by omega
  simp [part, isAgg, run_underlying he, nums, hjx]
theorem items_nums {P : Program} (d e n : Nat) (k : IntKind) (xs ys : List Int) (he : P.underlying e = some (.int k)) (hx : xs.length = n) (hy : ys.length = n) (w : World) : ∀ is : List Nat, (∀ i ∈ is, i < n) →
    (Op.eqItems (d + 1) e 1 (nums k xs).toArray (nums k ys).toArray is).run P w = .ok (is.all fun i => xs.getD i 0 == ys.getD i 0) w
  | [], _ => by simp [Op.eqItems]
  | i :: is, h => by
    have hi := h i (List.mem_cons_self)
    simp only [Op.eqItems, Sem.run_bind, part_nums e n k xs i he hx hi w, part_nums e n k ys i he hy hi w, Result.andThen_ok, run_equalIn_int w d e k k _ _ he, List.all_cons]
    cases hq : (xs.getD i 0 == ys.getD i 0)
    · simp
    · simp only [Bool.not_true, Bool.false_eq_true, if_false, Bool.true_and]
      exact items_nums d e n k xs ys he hx hy w is (fun j hj => h j (List.mem_cons_of_mem _ hj))
theorem all_same (xs ys : List Int) (n : Nat) (hx : xs.length = n) (hy : ys.length = n) : ((List.range n).all fun i => xs.getD i 0 == ys.getD i 0) = decide (xs = ys) := by
  rw [Bool.eq_iff_iff]
  simp only [List.all_eq_true, List.mem_range, beq_iff_eq, decide_eq_true_eq]
  constructor
  · intro h
    apply List.ext_getElem (by omega)
    intro i h1 h2
    have := h i (by omega)
    simpa [List.getD_eq_getElem?_getD, List.getElem?_eq_getElem h1, List.getElem?_eq_getElem h2] using this
  · rintro rfl i _
    rfl
theorem equal_nums {P : Program} (T e n : Nat) (k : IntKind) (xs ys : List Int) (hu : P.underlying T = some (.array n e)) (he : P.underlying e = some (.int k)) (hi : (P.info? e).map (·.size) = some 1) (hx : xs.length = n) (hy : ys.length = n) (d : Nat) (w : World) :
    (Op.equalIn (d + 2) T (.agg (nums k xs).toArray) (.agg (nums k ys).toArray)).run P w = .ok (decide (xs = ys)) w := by
  cases hq : P.info? e with
  | none => simp [hq] at hi
  | some i =>
    have h1 : i.size = 1 := by simpa [hq] using hi
    have hc : P.cellsOf e = 1 := by simp [Program.cellsOf, hq, h1]
    rw [run_equalIn_array w (d + 1) _ _ hu hq, hc, items_nums d e n k xs ys he hx hy w _ (fun i hi => List.mem_range.1 hi), all_same xs ys n hx hy]
theorem eql_arrs {P : Program} (T e n : Nat) (k : IntKind) (xs ys : List Int) (hu : P.underlying T = some (.array n e)) (he : P.underlying e = some (.int k)) (hi : (P.info? e).map (·.size) = some 1) (hx : xs.length = n) (hy : ys.length = n) (w : World) :
    (Op.equalIn 10000 T (.agg (nums k xs).toArray) (.agg (nums k ys).toArray)).run P w = .ok (decide (xs = ys)) w := equal_nums T e n k xs ys hu he hi hx hy 9998 w
end Go.Proofs.Ytoiiacbbfhlocaa.Kit
end
section
set_option linter.unusedVariables false
set_option linter.unusedSimpArgs false
namespace Go.Proofs.Ytoiiacbbfhlocaa.Kit
open Go.RowKit Go.Proofs.YtoiiacbbfhlocaaW.PrintWords
end Go.Proofs.Ytoiiacbbfhlocaa.Kit
end
section
set_option linter.unusedVariables false
set_option linter.unusedSimpArgs false
namespace Go.Proofs.Ytoiiacbbfhlocaa.Kit
open Go.RowKit Go.Proofs.YtoiiacbbfhlocaaW.PrintWords Go.Proofs.YtoiiacbbfhlocaaW.PrintLast Go.Proofs.YtoiiacbbfhlocaaW.PrintMore
theorem rows_at {e : Nat} {k : IntKind} {w : World} {A : Option Addr} {n : Nat} {ps : List (List Int)} (h : Kd.C (Kd.slice e (Kd.int k)) w A n ps) (hn : 0 < n) :
    ∃ b off, A = some ⟨b, off, none⟩ ∧ ∀ j, j < n → ∃ A' c', w.cell? ⟨b, off + j, none⟩ = some (.slice A' (ps.getD j []).length c') ∧ (ps.getD j []).length ≤ c' ∧ Kd.C (Kd.int k) w A' (ps.getD j []).length (ps.getD j []) := by
  obtain ⟨hl, _, hc⟩ := h
  obtain ⟨⟨b, off, s⟩, e1, hcell⟩ := hc hn
  have key : ∀ j, j < n → ∃ A' c', w.cell? ((⟨b, off, s⟩ : Addr).add j) = some (.slice A' (ps.getD j []).length c') ∧ (ps.getD j []).length ≤ c' ∧ Kd.C (Kd.int k) w A' (ps.getD j []).length (ps.getD j []) := fun j hj => by
    obtain ⟨cs, hl2, ⟨A', c', rfl, hle, hr⟩, hcc⟩ := hcell j (ps.getD j []) (by rw [List.getD_eq_getElem?_getD, List.getElem?_eq_getElem (by omega)]; rfl)
    refine ⟨A', c', ?_, hle, hr⟩
    have := hcc 0 _ rfl
    simpa [Kd.slice] using this
  cases s with
  | some s =>
    exfalso
    obtain ⟨A', c', h0, _⟩ := key 0 hn
    simp only [Addr.add] at h0
    unfold World.cell? at h0
    split at h0 <;> simp at h0
  | none =>
    refine ⟨b, off, e1, fun j hj => ?_⟩
    obtain ⟨A', c', h0, h1⟩ := key j hj
    refine ⟨A', c', ?_, h1⟩
    rw [← h0]
    congr 1
    unfold Addr.add
    split <;> simp_all
end Go.Proofs.Ytoiiacbbfhlocaa.Kit
end
section
set_option linter.unusedVariables false
set_option linter.unusedSimpArgs false
namespace Go.Proofs.Ytoiiacbbfhlocaa.Kit
open Go.RowKit Go.Proofs.YtoiiacbbfhlocaaW.PrintWords Go.WideMaps
section
variable {H : Type} {enc : TypeId × Value → H} {P : Program} {k e : TypeId} {n : Nat} {q : IntKind} {W : World} {base : Nat} {sp : Nat → Bool} {held : Bool}
theorem cells_nums (he : P.underlying e = some (.int q)) {m : Nat} {cs : List Value} : ∀ (L : List Nat) (xs : List (DataW H × List MemPlace)),
    L.mapM (fun i => DataW.trod enc P W base sp held m e ((cs.drop (i * 1)).take 1)) = some xs → ∃ zs : List Int, zs.length = L.length ∧ (∀ (j i : Nat), L[j]? = some i → cs[i]? = some (Value.int q (zs.getD j 0))) ∧ ∀ z ∈ zs, (Lit.int q z).wf = true
  | [], xs, h => ⟨[], rfl, fun j i hj => by simp at hj, fun z hz => by simp at hz⟩
  | i :: L, xs, h => by
    rw [List.mapM_cons] at h
    simp only [bind, Option.bind_eq_some_iff, pure, Option.some.injEq] at h
    obtain ⟨y, hy, ys, hys, rfl⟩ := h
    obtain ⟨zs, hl, hc, hw⟩ := cells_nums he L ys hys
    obtain ⟨a, ea, rfl, wa⟩ := DataW.trod_int he hy
    refine ⟨a :: zs, by simp [hl], fun j i' hj => ?_, fun z hz => ?_⟩
    · cases j with
      | zero =>
        simp at hj
        subst hj
        have e1 : (cs.drop i)[0]? = some (.int q a) := by
          have h2 := congrArg (fun l : List Value => l[0]?) ea
          simpa [List.getElem?_take] using h2
        simpa using e1
      | succ j => exact hc j i' (by simpa using hj)
    · rcases List.mem_cons.1 hz with rfl | hz
      · exact wa
      · exact hw z hz
theorem open_nums (A : ArrKey P k e n) (he : P.underlying e = some (.int q)) {r : Reach} {b0 : Nat} {v : Value} (hval : Value.okWide P W r b0 k v) {d : DataW H} {ps : List MemPlace} (hd : DataW.Trod enc P W base sp held k v d ps) :
    ∃ zs : List Int, v = .agg (nums q zs).toArray ∧ zs.length = n ∧ ∀ z ∈ zs, (Lit.int q z).wf = true := by
  obtain ⟨xs, rfl, hn⟩ := okWide_arr A hval
  obtain ⟨fuel, hf⟩ := hd
  cases fuel with
  | zero => simp [DataW.trod] at hf
  | succ m =>
    rw [DataW.trod_step] at hf
    unfold DataW.trodStep at hf
    simp only [A.hu, Value.cells] at hf
    rw [if_pos (by rw [A.size]; simpa using hn)] at hf
    simp only [Option.map_eq_some_iff, A.one] at hf
    obtain ⟨ys, hy, e1⟩ := hf
    obtain ⟨zs, hl, hc, hw⟩ := cells_nums he _ ys hy
    have hzl : zs.length = n := by simpa using hl
    refine ⟨zs, ?_, hzl, hw⟩
    congr 1
    apply Array.ext'
    simp only [nums]
    apply List.ext_getElem?
    intro j
    by_cases hj : j < n
    · have := hc j j (by simp [hj])
      rw [this]
      simp [hzl, hj]
    · rw [List.getElem?_eq_none (by simp; omega), List.getElem?_eq_none (by simp; omega)]
end
end Go.Proofs.Ytoiiacbbfhlocaa.Kit
end
section
set_option linter.unusedVariables false
set_option linter.unusedSimpArgs false
namespace Go.Proofs.Ytoiiacbbfhlocaa.Kit
open Go.RowKit Go.Proofs.YtoiiacbbfhlocaaW.PrintWords Go.WideMaps
section
variable {H : Type} {enc : TypeId × Value → H} {P : Program} {k e : TypeId} {n : Nat} {q : IntKind} {W : World} {base : Nat} {sp : Nat → Bool} {held : Bool}
theorem row_part_nums (A : ArrKey P k e n) (he : P.underlying e = some (.int q)) {fuel : Nat} {cs : List Value} {x : DataW H × List MemPlace} (hf : DataW.trod enc P W base sp held fuel k cs = some x) :
    ∃ zs : List Int, cs = nums q zs ∧ zs.length = n ∧ ∀ z ∈ zs, (Lit.int q z).wf = true := by
  cases fuel with
  | zero => simp [DataW.trod] at hf
  | succ m =>
    rw [DataW.trod_step] at hf
    unfold DataW.trodStep at hf
    simp only [A.hu] at hf
    split at hf
    · rename_i hl
      rw [A.size] at hl
      simp only [Option.map_eq_some_iff, A.one] at hf
      obtain ⟨ys, hy, e1⟩ := hf
      obtain ⟨zs, hzl, hc, hw⟩ := cells_nums he _ ys hy
      have hzl' : zs.length = n := by simpa using hzl
      refine ⟨zs, ?_, hzl', hw⟩
      simp only [nums]
      apply List.ext_getElem?
      intro j
      by_cases hj : j < n
      · have := hc j j (by simp [hj])
        rw [this]
        simp [hzl', hj]
      · rw [List.getElem?_eq_none (by omega), List.getElem?_eq_none (by simp; omega)]
    · cases hf
theorem open_two {t : TypeId} {f0 f1 : Field} {n0 n1 : Nat} (ht : P.underlying t = some (.struct #[f0, f1])) (A0 : ArrKey P f0.type e n0) (A1 : ArrKey P f1.type e n1) (he : P.underlying e = some (.int q)) (h0 : f0.offset = 0) (h1 : f1.offset = n0) (hz : P.cellsOf t = n0 + n1)
    {r : Reach} {b0 : Nat} {v : Value} (hval : Value.okWide P W r b0 t v) {d : DataW H} {ps : List MemPlace} (hd : DataW.Trod enc P W base sp held t v d ps) :
    ∃ zs : List Int, v = .agg (nums q zs).toArray ∧ zs.length = n0 + n1 ∧ ∀ z ∈ zs, (Lit.int q z).wf = true := by
  obtain ⟨cs, rfl, hcs⟩ := Go.WideShapes.okWide_struct ht hval
  obtain ⟨fuel, hf⟩ := hd
  obtain ⟨y0, y1, m, -, hl, ha, hb⟩ := Go.ChangeShapes.trod_struct2 ht hf
  simp only [Value.cells] at hl ha hb
  rw [h0, A0.size] at ha
  rw [h1, A1.size] at hb
  obtain ⟨z0, e0, l0, w0⟩ := row_part_nums A0 he ha
  obtain ⟨z1, e1, l1, w1⟩ := row_part_nums A1 he hb
  rw [hz] at hl
  refine ⟨z0 ++ z1, ?_, by rw [List.length_append, l0, l1], fun z hz => ?_⟩
  · congr 1
    apply Array.ext'
    have h2 : cs.toList = cs.toList.take n0 ++ (cs.toList.drop n0).take n1 := by
      rw [List.take_of_length_le (l := cs.toList.drop n0) (by rw [List.length_drop]; omega), List.take_append_drop]
    rw [h2, show cs.toList.take n0 = nums q z0 from by simpa using e0, e1]
    simp [nums]
  · rcases List.mem_append.1 hz with h | h
    · exact w0 z h
    · exact w1 z h
end
end Go.Proofs.Ytoiiacbbfhlocaa.Kit
end
