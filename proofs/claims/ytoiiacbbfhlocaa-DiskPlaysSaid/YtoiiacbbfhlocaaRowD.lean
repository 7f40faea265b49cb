/- A parameter that is a slice of structs: the cells of each, and what each field says. -/
import Derived.Test.YtoiiacbbfhlocaaRow
import Derived.Deep.Slices
import Derived.ChangeArms
set_option linter.unusedVariables false
set_option linter.unusedSimpArgs false
namespace Go.Proofs.Ytoiiacbbfhlocaa.Kit
open Go.RowKit Go.Proofs.YtoiiacbbfhlocaaW.PrintWords Go.WideMaps
section
variable {H : Type} {enc : TypeId × Value → H} {P : Program} {t e : TypeId} {W : World} {base : Nat} {sp : Nat → Bool} {held : Bool}
theorem choose_list {α : Type} {p : Nat → α → Prop} : ∀ (n : Nat), (∀ i, i < n → ∃ x, p i x) → ∃ l : List α, l.length = n ∧ ∀ (i : Nat) (x : α), l[i]? = some x → p i x
  | 0, _ => ⟨[], rfl, fun i x h => by simp at h⟩
  | n + 1, h => by
    obtain ⟨l, hl, hp⟩ := choose_list n (fun i hi => h i (by omega))
    obtain ⟨x, hx⟩ := h n (by omega)
    refine ⟨l ++ [x], by simp [hl], fun i y hy => ?_⟩
    rcases Nat.lt_or_ge i n with hi | hi
    · rw [List.getElem?_append_left (by omega)] at hy
      exact hp i y hy
    · rw [List.getElem?_append_right (by omega)] at hy
      have : i - l.length = 0 := by
        rcases Nat.eq_zero_or_pos (i - l.length) with h0 | h0
        · exact h0
        · rw [List.getElem?_eq_none (by simp; omega)] at hy; cases hy
      rw [this] at hy
      obtain rfl : i = n := by omega
      simp only [List.getElem?_cons_zero, Option.some.injEq] at hy
      rw [← hy]; exact hx
theorem open_recs {fs : Array Field} {n : Nat} (ht : P.underlying t = some (.slice e)) (he : P.underlying e = some (.struct fs)) (hC : P.cellsOf e = n) {a : Option Addr} {len cap : Nat} {d : DataW H} {pl : List MemPlace}
    (h : DataW.Trod enc P W base sp held t (.slice a len cap) d pl) :
    ∃ C : List (List Value), C.length = len ∧ len ≤ cap ∧ (∀ (i : Nat) (cs : List Value), C[i]? = some cs → ∃ ad, a = some ad ∧ cs.length = n ∧ (∀ (j : Nat) (v : Value), cs[j]? = some v → W.cell? (ad.add (i * n + j)) = some v) ∧
      ∀ (j : Nat) (f : Field), fs[j]? = some f → ∃ m y, DataW.trod enc P W base sp held m f.type ((cs.drop f.offset).take (P.cellsOf f.type)) = some y) := by
  obtain ⟨fuel, hf⟩ := h
  rcases Go.Deep.open_slice ht hf with ⟨hcs, -⟩ | ⟨ad, l, c, m, k, D, Pl, hcs, -, hl, hm, hmm, -, hi⟩
  · simp [Value.cells] at hcs
    obtain ⟨rfl, rfl, rfl⟩ := hcs
    exact ⟨[], rfl, Nat.le_refl _, fun i cs h => by simp at h⟩
  · simp [Value.cells] at hcs
    obtain ⟨rfl, rfl, rfl⟩ := hcs
    rw [hC] at hi
    have hle : len ≤ m := by rw [hmm]; split <;> omega
    obtain ⟨C, hCl, hCp⟩ := choose_list (α := List Value) (p := fun i cs => W.cells? base (ad.add (i * n)) n = some cs ∧ DataW.trod enc P W base sp held k e cs = some (D i, Pl i)) len (fun i h => hi i (by omega))
    refine ⟨C, hCl, hl, fun i cs hcs => ?_⟩
    obtain ⟨h1, h2⟩ := hCp i cs hcs
    obtain ⟨-, hlen, hat⟩ := World.cells?_some h1
    refine ⟨ad, rfl, hlen, fun j v hj => ?_, fun j f hj => ?_⟩
    · rw [← add_add, hat j (by have := (List.getElem?_eq_some_iff.1 hj).1; omega)]
      exact hj
    · obtain ⟨xs, m', -, -, -, hxl, hg⟩ := DataW.trod_struct he h2
      have hjl : j < xs.length := by rw [hxl]; exact (Array.getElem?_eq_some_iff.1 hj).1
      exact ⟨m', xs[j], (hg j f hj).trans (List.getElem?_eq_getElem hjl)⟩
/-- a deed: what, two numbers, and whether -/
abbrev Deed4 := Bool × Int × Int × Bool
def d4C (x : Deed4) : List Value := [.bool x.1, .int .i64 x.2.1, .int .i64 x.2.2.1, .bool x.2.2.2]
theorem open_deeds {f0 f1 f2 f3 : Field} (ht : P.underlying t = some (.slice e)) (he : P.underlying e = some (.struct #[f0, f1, f2, f3])) (hC : P.cellsOf e = 4)
    (t0 : P.underlying f0.type = some .bool) (t1 : P.underlying f1.type = some (.int .i64)) (t2 : P.underlying f2.type = some (.int .i64)) (t3 : P.underlying f3.type = some .bool)
    (c0 : P.cellsOf f0.type = 1) (c1 : P.cellsOf f1.type = 1) (c2 : P.cellsOf f2.type = 1) (c3 : P.cellsOf f3.type = 1) (o0 : f0.offset = 0) (o1 : f1.offset = 1) (o2 : f2.offset = 2) (o3 : f3.offset = 3)
    {a : Option Addr} {len cap : Nat} {d : DataW H} {pl : List MemPlace} (h : DataW.Trod enc P W base sp held t (.slice a len cap) d pl) :
    ∃ z : List Deed4, z.length = len ∧ len ≤ cap ∧ (∀ (i : Nat) (x : Deed4), z[i]? = some x → (∃ ad, a = some ad ∧ ∀ (j : Nat) (v : Value), (d4C x)[j]? = some v → W.cell? (ad.add (i * 4 + j)) = some v) ∧ (Lit.int .i64 x.2.1).wf = true ∧ (Lit.int .i64 x.2.2.1).wf = true) := by
  obtain ⟨C, hCl, hcap, hC⟩ := open_recs ht he hC h
  obtain ⟨z, hz, hp⟩ := choose_list (α := Deed4) (p := fun i x => ∃ cs, C[i]? = some cs ∧ cs = d4C x ∧ (Lit.int .i64 x.2.1).wf = true ∧ (Lit.int .i64 x.2.2.1).wf = true) len (fun i hi => by
    have hiC : i < C.length := by omega
    obtain ⟨ad, -, hlen, -, hf⟩ := hC i C[i] (List.getElem?_eq_getElem hiC)
    obtain ⟨m0, y0, g0⟩ := hf 0 f0 rfl
    obtain ⟨m1, y1, g1⟩ := hf 1 f1 rfl
    obtain ⟨m2, y2, g2⟩ := hf 2 f2 rfl
    obtain ⟨m3, y3, g3⟩ := hf 3 f3 rfl
    rw [o0, c0] at g0
    rw [o1, c1] at g1
    rw [o2, c2] at g2
    rw [o3, c3] at g3
    obtain ⟨b0, e0, -⟩ := DataW.trod_bool t0 g0
    obtain ⟨b1, e1, -, w1⟩ := DataW.trod_int t1 g1
    obtain ⟨b2, e2, -, w2⟩ := DataW.trod_int t2 g2
    obtain ⟨b3, e3, -⟩ := DataW.trod_bool t3 g3
    refine ⟨(b0, b1, b2, b3), C[i], List.getElem?_eq_getElem hiC, ?_, w1, w2⟩
    generalize C[i] = cs at hlen e0 e1 e2 e3
    match cs, hlen with
    | [x0, x1, x2, x3], _ =>
      simp at e0 e1 e2 e3
      rw [e0, e1, e2, e3]
      rfl)
  refine ⟨z, hz, hcap, fun i x hx => ?_⟩
  obtain ⟨cs, h1, rfl, h2, h3⟩ := hp i x hx
  obtain ⟨ad, ha, -, hc, -⟩ := hC i _ h1
  exact ⟨⟨ad, ha, hc⟩, h2, h3⟩
end
end Go.Proofs.Ytoiiacbbfhlocaa.Kit
