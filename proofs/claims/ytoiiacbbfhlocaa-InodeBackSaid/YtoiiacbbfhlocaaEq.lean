/- Whole arrays of numbers, compared. -/
import Derived.Test.YtoiiacbbfhlocaaArm
import Derived.ChangeKeysEq
set_option linter.unusedVariables false
set_option linter.unusedSimpArgs false
namespace Go.Proofs.Ytoiiacbbfhlocaa.Kit
open Go.RowKit Go.Proofs.YtoiiacbbfhlocaaW.PrintWords Go.Proofs.YtoiiacbbfhlocaaW.PrintLast Go.Proofs.YtoiiacbbfhlocaaW.PrintMore
theorem part_nums {P : Program} (e n : Nat) (k : IntKind) (xs : List Int) (j : Nat) (he : P.underlying e = some (.int k)) (hx : xs.length = n) (hj : j < n) (w : World) :
    (part e (nums k xs).toArray (j * 1)).run P w = .ok (.int k (xs.getD j 0)) w := by
  have hjx : j < xs.length := by omega
  simp [part, isAgg, run_underlying he, nums, hjx]
theorem items_nums {P : Program} (d e n : Nat) (k : IntKind) (xs ys : List Int) (he : P.underlying e = some (.int k)) (hx : xs.length = n) (hy : ys.length = n) (w : World) : ∀ is : List Nat, (∀ i ∈ is, i < n) →
    (Op.eqItems (d + 1) e 1 (nums k xs).toArray (nums k ys).toArray is).run P w = .ok (is.all fun i => xs.getD i 0 == ys.getD i 0) w
  | [], _ => by simp [Op.eqItems]
  | i :: is, h => by
    have hi := h i (List.mem_cons_self)
    simp only [Op.eqItems, Sem.run_bind, part_nums e n k xs i he hx hi w, part_nums e n k ys i he hy hi w, Result.andThen_ok, run_equalIn_int w d e k k _ _ he, List.all_cons]
    cases hq : (xs.getD i 0 == ys.getD i 0)
    · simp
    · simp only [Bool.not_true, Bool.false_eq_true, if_false, Bool.true_and]
      exact items_nums d e n k xs ys he hx hy w is (fun j hj => h j (List.mem_cons_of_mem _ hj))
theorem all_same (xs ys : List Int) (n : Nat) (hx : xs.length = n) (hy : ys.length = n) : ((List.range n).all fun i => xs.getD i 0 == ys.getD i 0) = decide (xs = ys) := by
  rw [Bool.eq_iff_iff]
  simp only [List.all_eq_true, List.mem_range, beq_iff_eq, decide_eq_true_eq]
  constructor
  · intro h
    apply List.ext_getElem (by omega)
    intro i h1 h2
    have := h i (by omega)
    simpa [List.getD_eq_getElem?_getD, List.getElem?_eq_getElem h1, List.getElem?_eq_getElem h2] using this
  · rintro rfl i _
    rfl
theorem equal_nums {P : Program} (T e n : Nat) (k : IntKind) (xs ys : List Int) (hu : P.underlying T = some (.array n e)) (he : P.underlying e = some (.int k)) (hi : (P.info? e).map (·.size) = some 1) (hx : xs.length = n) (hy : ys.length = n) (d : Nat) (w : World) :
    (Op.equalIn (d + 2) T (.agg (nums k xs).toArray) (.agg (nums k ys).toArray)).run P w = .ok (decide (xs = ys)) w := by
  cases hq : P.info? e with
  | none => simp [hq] at hi
  | some i =>
    have h1 : i.size = 1 := by simpa [hq] using hi
    have hc : P.cellsOf e = 1 := by simp [Program.cellsOf, hq, h1]
    rw [run_equalIn_array w (d + 1) _ _ hu hq, hc, items_nums d e n k xs ys he hx hy w _ (fun i hi => List.mem_range.1 hi), all_same xs ys n hx hy]
/-- as the walk asks it -/
theorem eql_arrs {P : Program} (T e n : Nat) (k : IntKind) (xs ys : List Int) (hu : P.underlying T = some (.array n e)) (he : P.underlying e = some (.int k)) (hi : (P.info? e).map (·.size) = some 1) (hx : xs.length = n) (hy : ys.length = n) (w : World) :
    (Op.equalIn 10000 T (.agg (nums k xs).toArray) (.agg (nums k ys).toArray)).run P w = .ok (decide (xs = ys)) w := equal_nums T e n k xs ys hu he hi hx hy 9998 w
end Go.Proofs.Ytoiiacbbfhlocaa.Kit
