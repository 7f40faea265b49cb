/- A parameter that is a struct of two whole numbers, an array of them, and one more, by value. -/
import Derived.Test.YtoiiacbbfhlocaaRow
import Derived.Test.YtoiiacbbfhlocaaRowS
import Derived.ChangeArms
set_option linter.unusedVariables false
set_option linter.unusedSimpArgs false
namespace Go.Proofs.Ytoiiacbbfhlocaa.Kit
open Go.RowKit Go.Proofs.YtoiiacbbfhlocaaW.PrintWords Go.WideMaps
section
variable {H : Type} {enc : TypeId × Value → H} {P : Program} {e : TypeId} {q : IntKind} {W : World} {base : Nat} {sp : Nat → Bool} {held : Bool}
theorem open_ino {t : TypeId} {f0 f1 f2 f3 : Field} {n : Nat} (ht : P.underlying t = some (.struct #[f0, f1, f2, f3])) (t0 : P.underlying f0.type = some (.int q)) (t1 : P.underlying f1.type = some (.int q)) (A2 : ArrKey P f2.type e n) (he : P.underlying e = some (.int q)) (t3 : P.underlying f3.type = some (.int q))
    (c0 : P.cellsOf f0.type = 1) (c1 : P.cellsOf f1.type = 1) (c3 : P.cellsOf f3.type = 1) (h0 : f0.offset = 0) (h1 : f1.offset = 1) (h2 : f2.offset = 2) (h3 : f3.offset = 2 + n) (hz : P.cellsOf t = n + 3)
    {r : Reach} {b0 : Nat} {v : Value} (hval : Value.okWide P W r b0 t v) {d : DataW H} {ps : List MemPlace} (hd : DataW.Trod enc P W base sp held t v d ps) :
    ∃ zs : List Int, v = .agg (nums q zs).toArray ∧ zs.length = n + 3 ∧ ∀ z ∈ zs, (Lit.int q z).wf = true := by
  obtain ⟨cs, rfl, hcs⟩ := Go.WideShapes.okWide_struct ht hval
  obtain ⟨fuel, hf⟩ := hd
  obtain ⟨xs, m, _, -, hl, hlen, hf⟩ := DataW.trod_struct ht hf
  simp only [Value.cells] at hl hf
  match xs, hlen with
  | [y0, y1, y2, y3], _ =>
    have g0 := hf 0 f0 rfl
    have g1 := hf 1 f1 rfl
    have g2 := hf 2 f2 rfl
    have g3 := hf 3 f3 rfl
    rw [h0, c0] at g0
    rw [h1, c1] at g1
    rw [h2, A2.size] at g2
    rw [h3, c3] at g3
    obtain ⟨a, ea, -, wa⟩ := DataW.trod_int t0 g0
    obtain ⟨b, eb, -, wb⟩ := DataW.trod_int t1 g1
    obtain ⟨z2, e2, l2, w2⟩ := row_part_nums A2 he g2
    obtain ⟨c, ec, -, wc⟩ := DataW.trod_int t3 g3
    rw [hz] at hl
    refine ⟨a :: b :: (z2 ++ [c]), ?_, by simp [l2], fun z hz => ?_⟩
    · congr 1
      apply Array.ext'
      have hlist : cs.toList = cs.toList.take 1 ++ ((cs.toList.drop 1).take 1 ++ ((cs.toList.drop 2).take n ++ (cs.toList.drop (2 + n)).take 1)) := by
        have k3 : (cs.toList.drop (2 + n)).take 1 = cs.toList.drop (2 + n) := List.take_of_length_le (by rw [List.length_drop]; omega)
        have k2 : (cs.toList.drop 2).take n ++ cs.toList.drop (2 + n) = cs.toList.drop 2 := by rw [← List.drop_drop, List.take_append_drop]
        have k1 : (cs.toList.drop 1).take 1 ++ cs.toList.drop 2 = cs.toList.drop 1 := by rw [show (2 : Nat) = 1 + 1 from rfl, ← List.drop_drop, List.take_append_drop]
        rw [k3, k2, k1, List.take_append_drop]
      rw [hlist, show cs.toList.take 1 = [Value.int q a] from by simpa using ea, eb, e2, ec]
      simp [nums]
    · rcases List.mem_cons.1 hz with rfl | hz
      · exact wa
      · rcases List.mem_cons.1 hz with rfl | hz
        · exact wb
        · rcases List.mem_append.1 hz with hz | hz
          · exact w2 z hz
          · rw [List.mem_singleton.1 hz]; exact wc
end
end Go.Proofs.Ytoiiacbbfhlocaa.Kit
