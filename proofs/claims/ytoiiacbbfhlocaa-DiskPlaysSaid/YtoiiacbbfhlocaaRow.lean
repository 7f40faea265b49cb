/- A parameter that is an array of whole numbers, by value: what its datum says. -/
import Derived.Test.YtoiiacbbfhlocaaArm
import Derived.WideKeyArr2
import Derived.ProofKit
set_option linter.unusedVariables false
set_option linter.unusedSimpArgs false
namespace Go.Proofs.Ytoiiacbbfhlocaa.Kit
open Go.RowKit Go.Proofs.YtoiiacbbfhlocaaW.PrintWords Go.WideMaps
section
variable {H : Type} {enc : TypeId × Value → H} {P : Program} {k e : TypeId} {n : Nat} {q : IntKind} {W : World} {base : Nat} {sp : Nat → Bool} {held : Bool}
theorem cells_nums (he : P.underlying e = some (.int q)) {m : Nat} {cs : List Value} : ∀ (L : List Nat) (xs : List (DataW H × List MemPlace)),
    L.mapM (fun i => DataW.trod enc P W base sp held m e ((cs.drop (i * 1)).take 1)) = some xs → ∃ zs : List Int, zs.length = L.length ∧ (∀ (j i : Nat), L[j]? = some i → cs[i]? = some (Value.int q (zs.getD j 0))) ∧ ∀ z ∈ zs, (Lit.int q z).wf = true
  | [], xs, h => ⟨[], rfl, fun j i hj => by simp at hj, fun z hz => by simp at hz⟩
  | i :: L, xs, h => by
    rw [List.mapM_cons] at h
    simp only [bind, Option.bind_eq_some_iff, pure, Option.some.injEq] at h
    obtain ⟨y, hy, ys, hys, rfl⟩ := h
    obtain ⟨zs, hl, hc, hw⟩ := cells_nums he L ys hys
    obtain ⟨a, ea, rfl, wa⟩ := DataW.trod_int he hy
    refine ⟨a :: zs, by simp [hl], fun j i' hj => ?_, fun z hz => ?_⟩
    · cases j with
      | zero =>
        simp at hj
        subst hj
        have e1 : (cs.drop i)[0]? = some (.int q a) := by
          have h2 := congrArg (fun l : List Value => l[0]?) ea
          simpa [List.getElem?_take] using h2
        simpa using e1
      | succ j => exact hc j i' (by simpa using hj)
    · rcases List.mem_cons.1 hz with rfl | hz
      · exact wa
      · exact hw z hz
theorem open_nums (A : ArrKey P k e n) (he : P.underlying e = some (.int q)) {r : Reach} {b0 : Nat} {v : Value} (hval : Value.okWide P W r b0 k v) {d : DataW H} {ps : List MemPlace} (hd : DataW.Trod enc P W base sp held k v d ps) :
    ∃ zs : List Int, v = .agg (nums q zs).toArray ∧ zs.length = n ∧ ∀ z ∈ zs, (Lit.int q z).wf = true := by
  obtain ⟨xs, rfl, hn⟩ := okWide_arr A hval
  obtain ⟨fuel, hf⟩ := hd
  cases fuel with
  | zero => simp [DataW.trod] at hf
  | succ m =>
    rw [DataW.trod_step] at hf
    unfold DataW.trodStep at hf
    simp only [A.hu, Value.cells] at hf
    rw [if_pos (by rw [A.size]; simpa using hn)] at hf
    simp only [Option.map_eq_some_iff, A.one] at hf
    obtain ⟨ys, hy, e1⟩ := hf
    obtain ⟨zs, hl, hc, hw⟩ := cells_nums he _ ys hy
    have hzl : zs.length = n := by simpa using hl
    refine ⟨zs, ?_, hzl, hw⟩
    congr 1
    apply Array.ext'
    simp only [nums]
    apply List.ext_getElem?
    intro j
    by_cases hj : j < n
    · have := hc j j (by simp [hj])
      rw [this]
      simp [hzl, hj]
    · rw [List.getElem?_eq_none (by simp; omega), List.getElem?_eq_none (by simp; omega)]
end
end Go.Proofs.Ytoiiacbbfhlocaa.Kit
