/- The plain law of CodecBack. -/
import Derived.Test.YtoiiacbbfhlocaaPureCodecRows
set_option linter.unusedVariables false
set_option linter.unusedSimpArgs false
namespace Go.Proofs.Ytoiiacbbfhlocaa.Pure
open Go.RowKit Go.Proofs.Ytoiiacbbfhlocaa.Kw Go.Proofs.YtoiiacbbfhlocaaW.PrintWords Go.Proofs.YtoiiacbbfhlocaaW.PrintLast Go.Proofs.Ytoiiacbbfhlocaa.Kit Go.Proofs.Ytoiiacbbfhlocaa.Rc Go.Proofs.Ytoiiacbbfhlocaa.Kx Go.Proofs.Ytoiiacbbfhlocaa.HKa
theorem CodecBack : padlocklaw05_CodecBack.Pure := by
  intro l0 l1 l2 _ _ w0 _ _ w1 _ _ w2
  have hn : ∀ n ∈ l1, 0 ≤ n ∧ n < 18446744073709551616 := fun n hx => Com.rangeu64 (w1 n hx)
  have hb : Bytes l2 := bytes_of_wf w2
  obtain ⟨K, hK⟩ : ∃ K, K = 1000 := ⟨_, rfl⟩
  refine ⟨K + 2, ?_⟩
  unfold padlocklaw05_CodecBack.f
  by_cases h0 : (l0.length : Int) > 50
  · rw [if_pos h0, padlocklaw05_CodecBack.j0, if_pos rfl]; rfl
  by_cases h1 : (l1.length : Int) > 50
  · rw [if_neg h0, if_pos h1, padlocklaw05_CodecBack.j0, if_pos rfl]; rfl
  rw [if_neg h0, if_neg h1]
  by_cases h2 : (l2.length : Int) > 400
  · rw [decide_eq_true h2, padlocklaw05_CodecBack.j0, if_pos rfl]; rfl
  have hj : padlocklaw05_CodecBack.j1 (K + 1) l0 l2 = some true := by
    rw [padlocklaw05_CodecBack.j1, getK l0 l2 (by omega) hb]
    simp only [Option.bind_some]
    by_cases hz : (getF l0 l2).2 = 0
    · obtain ⟨hp, hr⟩ := put_get l0 l2 hb hz
      rw [if_pos hz, putK l0 _ (by omega) hr, hp]
      simp only [Option.bind_some, if_true]
      rfl
    · rw [if_neg hz]
      rfl
  rw [decide_eq_false h2, padlocklaw05_CodecBack.j0, if_neg (by decide), putK l0 l1 (by omega) hn]
  simp only [Option.bind_some]
  by_cases hz : (putF l0 l1).2 = 0
  · obtain ⟨hg, hbb⟩ := get_put l0 l1 (fun n hx => (hn n hx).1) hz
    rw [if_pos hz, getK l0 _ (by omega) hbb, hg]
    simp only [Option.bind_some, if_true]
    rw [same_tells l1 l1 (K + 1) (by omega) (by omega)]
    simp only [Option.bind_some, decide_true, if_true]
    exact hj
  · rw [if_neg hz]
    exact hj
end Go.Proofs.Ytoiiacbbfhlocaa.Pure
