/- A parameter that is a struct of two arrays of whole numbers, by value. -/
import Derived.Test.YtoiiacbbfhlocaaRow
import Derived.ChangeSame
import Derived.WideShapes
set_option linter.unusedVariables false
set_option linter.unusedSimpArgs false
namespace Go.Proofs.Ytoiiacbbfhlocaa.Kit
open Go.RowKit Go.Proofs.YtoiiacbbfhlocaaW.PrintWords Go.WideMaps
section
variable {H : Type} {enc : TypeId × Value → H} {P : Program} {k e : TypeId} {n : Nat} {q : IntKind} {W : World} {base : Nat} {sp : Nat → Bool} {held : Bool}
theorem row_part_nums (A : ArrKey P k e n) (he : P.underlying e = some (.int q)) {fuel : Nat} {cs : List Value} {x : DataW H × List MemPlace} (hf : DataW.trod enc P W base sp held fuel k cs = some x) :
    ∃ zs : List Int, cs = nums q zs ∧ zs.length = n ∧ ∀ z ∈ zs, (Lit.int q z).wf = true := by
  cases fuel with
  | zero => simp [DataW.trod] at hf
  | succ m =>
    rw [DataW.trod_step] at hf
    unfold DataW.trodStep at hf
    simp only [A.hu] at hf
    split at hf
    · rename_i hl
      rw [A.size] at hl
      simp only [Option.map_eq_some_iff, A.one] at hf
      obtain ⟨ys, hy, e1⟩ := hf
      obtain ⟨zs, hzl, hc, hw⟩ := cells_nums he _ ys hy
      have hzl' : zs.length = n := by simpa using hzl
      refine ⟨zs, ?_, hzl', hw⟩
      simp only [nums]
      apply List.ext_getElem?
      intro j
      by_cases hj : j < n
      · have := hc j j (by simp [hj])
        rw [this]
        simp [hzl', hj]
      · rw [List.getElem?_eq_none (by omega), List.getElem?_eq_none (by simp; omega)]
    · cases hf
theorem open_two {t : TypeId} {f0 f1 : Field} {n0 n1 : Nat} (ht : P.underlying t = some (.struct #[f0, f1])) (A0 : ArrKey P f0.type e n0) (A1 : ArrKey P f1.type e n1) (he : P.underlying e = some (.int q)) (h0 : f0.offset = 0) (h1 : f1.offset = n0) (hz : P.cellsOf t = n0 + n1)
    {r : Reach} {b0 : Nat} {v : Value} (hval : Value.okWide P W r b0 t v) {d : DataW H} {ps : List MemPlace} (hd : DataW.Trod enc P W base sp held t v d ps) :
    ∃ zs : List Int, v = .agg (nums q zs).toArray ∧ zs.length = n0 + n1 ∧ ∀ z ∈ zs, (Lit.int q z).wf = true := by
  obtain ⟨cs, rfl, hcs⟩ := Go.WideShapes.okWide_struct ht hval
  obtain ⟨fuel, hf⟩ := hd
  obtain ⟨y0, y1, m, -, hl, ha, hb⟩ := Go.ChangeShapes.trod_struct2 ht hf
  simp only [Value.cells] at hl ha hb
  rw [h0, A0.size] at ha
  rw [h1, A1.size] at hb
  obtain ⟨z0, e0, l0, w0⟩ := row_part_nums A0 he ha
  obtain ⟨z1, e1, l1, w1⟩ := row_part_nums A1 he hb
  rw [hz] at hl
  refine ⟨z0 ++ z1, ?_, by rw [List.length_append, l0, l1], fun z hz => ?_⟩
  · congr 1
    apply Array.ext'
    have h2 : cs.toList = cs.toList.take n0 ++ (cs.toList.drop n0).take n1 := by
      rw [List.take_of_length_le (l := cs.toList.drop n0) (by rw [List.length_drop]; omega), List.take_append_drop]
    rw [h2, show cs.toList.take n0 = nums q z0 from by simpa using e0, e1]
    simp [nums]
  · rcases List.mem_append.1 hz with h | h
    · exact w0 z h
    · exact w1 z h
end
end Go.Proofs.Ytoiiacbbfhlocaa.Kit
