/- A parameter that is a slice of slices of bytes: what its datum says. -/
import Derived.Test.YtljmjeaocojnmaaArm
import Derived.Test.YtljmjeaocojnmaaBits
import Derived.Deep.Matrix
set_option linter.unusedVariables false
set_option linter.unusedSimpArgs false
namespace Go.Proofs.Ytljmjeaocojnmaa.Kit
open Go.RowKit Go.Proofs.YtljmjeaocojnmaaW.PrintWords
theorem open_parts {H : Type} {enc : TypeId × Value → H} {P : Program} {t e q : TypeId} {W : World} {base : Nat} {held : Bool} {a : Option Addr} {len cap : Nat} {d : DataW H} {pl : List MemPlace}
    (ht : P.underlying t = some (.slice e)) (he : P.underlying e = some (.slice q)) (hq : P.underlying q = some (.int .u8)) (ce : P.cellsOf e = 1) (cq : P.cellsOf q = 1)
    (h : DataW.Trod enc P W base (fun _ => true) held t (.slice a len cap) d pl) :
    ∃ z : List (List Int), z.length = len ∧ len ≤ cap ∧ Kd.C (Kd.slice q (Kd.int .u8)) W a len z ∧ ∀ p ∈ z, Bytes p := by
  obtain ⟨fuel, hf⟩ := h
  rcases Go.Deep.open_int_rows ht he hq ce cq hf with ⟨hcs, _⟩ | ⟨x, l, c, A, L, C, Z, hcs, _, hl, hm, _, hr⟩
  · simp [Value.cells] at hcs
    obtain ⟨rfl, rfl, rfl⟩ := hcs
    exact ⟨[], rfl, Nat.le_refl _, Kd.C_nil _ _, by simp⟩
  · simp [Value.cells] at hcs
    obtain ⟨rfl, rfl, rfl⟩ := hcs
    refine ⟨(List.range len).map fun r => (Z r).take (L r), by simp, hl, ⟨by simp, by unfold maxLen at hm; omega, fun _ => ⟨x, rfl, fun j p hj => ?_⟩⟩, fun p hp => ?_⟩
    · have hjl : j < len := by
        have := (List.getElem?_eq_some_iff.1 hj).1
        simpa using this
      have hp : (Z j).take (L j) = p := by simpa [hjl] using hj
      obtain ⟨h1, h2, h3, h4, h5, h6, h7⟩ := hr j (by omega)
      have hpl : p.length = L j := by rw [← hp, List.length_take]; omega
      refine ⟨[.slice (A j) (L j) (C j)], rfl, ⟨A j, C j, by rw [hpl], by omega, ?_⟩, fun i u hu => ?_⟩
      · refine Kd.C_of_reads (d := (0 : Int)) (h1 := fun _ => rfl) ⟨rfl, by unfold maxLen at h3; omega, fun h0 => ?_⟩
        cases hA : A j with
        | none => exact absurd (h6 hA) (by omega)
        | some ad =>
          refine ⟨ad, rfl, fun i hi => ?_⟩
          rw [(h7 ad hA).2 i (by omega), ← hp]
          have hi' : i < L j := by omega
          simp [List.getD, List.getElem?_take, hi']
      · cases i with
        | zero =>
          have : Value.slice (A j) (L j) (C j) = u := by simpa using hu
          subst this
          simpa [Kd.slice] using h1
        | succ i => simp at hu
    · simp only [List.mem_map, List.mem_range] at hp
      obtain ⟨r, hr1, rfl⟩ := hp
      exact bytes_of_wf (fun y hy => (hr r (by omega)).2.2.2.2.1 y (List.mem_of_mem_take hy))
end Go.Proofs.Ytljmjeaocojnmaa.Kit
