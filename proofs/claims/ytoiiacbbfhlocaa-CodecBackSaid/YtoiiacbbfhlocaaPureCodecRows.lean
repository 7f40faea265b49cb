/- The plain law of CodecRows. -/
import Derived.Test.YtoiiacbbfhlocaaKw1
import Derived.Test.YtoiiacbbfhlocaaPKb
set_option linter.unusedVariables false
set_option linter.unusedSimpArgs false
namespace Go.Proofs.Ytoiiacbbfhlocaa.Pure
open Go.RowKit Go.Proofs.Ytoiiacbbfhlocaa.Kw Go.Proofs.YtoiiacbbfhlocaaW.PrintWords Go.Proofs.YtoiiacbbfhlocaaW.PrintLast Go.Proofs.Ytoiiacbbfhlocaa.Kit Go.Proofs.Ytoiiacbbfhlocaa.Rc Go.Proofs.Ytoiiacbbfhlocaa.Kx Go.Proofs.Ytoiiacbbfhlocaa.HKa
theorem putK (l0 l1 : List Int) (h0 : l0.length ≤ 1000) (h1 : ∀ n ∈ l1, 0 ≤ n ∧ n < 18446744073709551616) : codec_Put.f l0 l1 = some (putF l0 l1) := by
  unfold codec_Put.f
  rw [if_pos (by simp only [Bool.and_eq_true, decide_eq_true_eq, List.all_eq_true]; exact ⟨h0, h1⟩)]
theorem getK (l0 l1 : List Int) (h0 : l0.length ≤ 1000) (h1 : Bytes l1) : codec_Get.f l0 l1 = some (getF l0 l1) := by
  unfold codec_Get.f
  rw [if_pos (by simp only [Bool.and_eq_true, decide_eq_true_eq, List.all_eq_true]; exact ⟨h0, h1⟩)]
theorem CodecRows : padlocklaw05_CodecRows.Pure := by
  intro l0 l1 l2 _ _ w0 _ _ w1 _ _ w2
  have hn : ∀ n ∈ l1, 0 ≤ n ∧ n < 18446744073709551616 := fun n hx => Com.rangeu64 (w1 n hx)
  have hb : Bytes l2 := bytes_of_wf w2
  obtain ⟨K, hK⟩ : ∃ K, K = 1000 := ⟨_, rfl⟩
  refine ⟨K + 2, ?_⟩
  unfold padlocklaw05_CodecRows.f
  by_cases h0 : (l0.length : Int) > 50
  · rw [if_pos h0, padlocklaw05_CodecRows.j0, if_pos rfl]; rfl
  by_cases h1 : (l1.length : Int) > 50
  · rw [if_neg h0, if_pos h1, padlocklaw05_CodecRows.j0, if_pos rfl]; rfl
  rw [if_neg h0, if_neg h1]
  by_cases h2 : (l2.length : Int) > 400
  · rw [decide_eq_true h2, padlocklaw05_CodecRows.j0, if_pos rfl]; rfl
  have hwd : codec_Wide.f (K + 1) l0 = some (wideG l0 0) := by
    have h := wide_tells l0 (by omega) (K - l0.length)
    rw [show K - l0.length + l0.length + 1 = K + 1 from by omega] at h
    exact h
  rw [decide_eq_false h2, padlocklaw05_CodecRows.j0, if_neg (by decide), putK l0 l1 (by omega) hn, getK l0 l2 (by omega) hb, rput_tells l0 l1 (K + 1) (by omega) hn (by omega), rget_tells l0 l2 (K + 1) (by omega) hb (by omega), hwd, rwide_tells l0 (by omega) (K + 1) (by omega)]
  simp only [Option.bind_some]
  have hlen : (getF l0 l2).1.length ≤ 10000 ∧ (getF l0 l2).1.length < K := by
    rcases getF_two l0 l2 with h | h
    · have hp := put_get l0 l2 hb h
      have ho := putF_ok l0 (getF l0 l2).1 (by rw [hp.1])
      rw [ho.2.1]
      omega
    · rw [h, hK]
      decide
  have hj : ∀ b, b = false → padlocklaw05_CodecRows.j1 (K + 1) (getF l0 l2).1 (getF l0 l2).2 (getF l0 l2).1 (decide ((getF l0 l2).2 = 0)) b = some true := by
    intro b hb'
    subst hb'
    rw [padlocklaw05_CodecRows.j1, if_neg (by decide)]
    rw [if_pos (by by_cases h : (getF l0 l2).2 = 0 <;> simp [h]), same_tells _ _ _ hlen.1 hlen.2]
    simp only [Option.bind_some, decide_true, if_true]
    rcases getF_two l0 l2 with h | h
    · rw [if_pos (by simp [h])]; rfl
    · rw [h]
      rfl
  rcases putF_two l0 l1 with h | h
  · rw [if_neg (by simp [h]), if_pos (by simp [h])]
    simp only [h, decide_true]
    exact hj _ (by simp)
  · rw [h]
    simp only [show decide ((1 : Int) = 0) = false from rfl, show ((1 : Int) == 0) = false from rfl, bne_self_eq_false]
    simp only [Bool.false_eq_true, if_false, if_true]
    exact hj _ (by simp)
end Go.Proofs.Ytoiiacbbfhlocaa.Pure
