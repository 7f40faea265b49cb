/- A parameter that is a slice of structs of three numbers, a byte, bytes, and truth values; a parameter of truth values. -/
import Derived.Test.YtoiiacbbfhlocaaRowD
import Derived.Test.YtoiiacbbfhlocaaBits
import Derived.Deep.Grids
import Derived.ChangeSlices
set_option linter.unusedVariables false
set_option linter.unusedSimpArgs false
namespace Go.Proofs.Ytoiiacbbfhlocaa.Kit
open Go.RowKit Go.Proofs.YtoiiacbbfhlocaaW.PrintWords Go.WideMaps
section
variable {H : Type} {enc : TypeId × Value → H} {P : Program} {t e : TypeId} {W : World} {base : Nat} {held : Bool}
theorem plain_cells {w : World} {ad : Addr} {n : Nat} {B : Nat → Bool} (hn : 0 < n) (h : ∀ j, j < n → w.cell? (ad.add j) = some (.bool (B j))) : ∃ b o, ad = ⟨b, o, none⟩ ∧ ∀ j, j < n → w.cell? ⟨b, o + j, none⟩ = some (.bool (B j)) := by
  obtain ⟨b, o, s⟩ := ad
  have h0 := h 0 hn
  cases s with
  | some s =>
    exfalso
    simp only [Addr.add, if_pos] at h0
    unfold World.cell? at h0
    split at h0 <;> simp at h0
  | none =>
    refine ⟨b, o, rfl, fun j hj => ?_⟩
    have h1 := h j hj
    by_cases c : j = 0
    · subst c; simpa [Addr.add] using h1
    · simpa [Addr.add, c] using h1
/-- truth values that lie there -/
def BoolRow (w : World) (A : Option Addr) (n c : Nat) (B : Nat → Bool) : Prop := n ≤ c ∧ ∀ j, j < n → ∃ b o, A = some ⟨b, o, none⟩ ∧ w.cell? ⟨b, o + j, none⟩ = some (.bool (B j))
theorem bool_row {r : TypeId} {fuel : Nat} {cs : List Value} {y : DataW H × List MemPlace} (ht : P.underlying t = some (.slice r)) (hr : P.underlying r = some .bool) (hc : P.cellsOf r = 1) (h : DataW.trod enc P W base (fun _ => true) held fuel t cs = some y) :
    ∃ A n c B, cs = [.slice A n c] ∧ BoolRow W A n c B := by
  rcases Go.Deep.open_bools ht hr hc h with ⟨rfl, -⟩ | ⟨a, len, cap, B, rfl, -, hl, -, -, hcell⟩
  · exact ⟨none, 0, 0, fun _ => false, rfl, Nat.le_refl _, fun j hj => absurd hj (Nat.not_lt_zero _)⟩
  · refine ⟨some a, len, cap, B, rfl, hl, fun j hj => ?_⟩
    obtain ⟨b, o, rfl, hcc⟩ := plain_cells (n := cap) (by omega) hcell
    exact ⟨b, o, rfl, hcc j (by omega)⟩
theorem byte_row {r : TypeId} {fuel : Nat} {cs : List Value} {y : DataW H × List MemPlace} (ht : P.underlying t = some (.slice r)) (hr : P.underlying r = some (.int .u8)) (hc : P.cellsOf r = 1) (h : DataW.trod enc P W base (fun _ => true) held fuel t cs = some y) :
    ∃ A n c l, cs = [.slice A n c] ∧ n ≤ c ∧ Kd.C (Kd.int .u8) W A n l ∧ Bytes l := by
  rcases Go.ChangeShapes.open_ints ht hr hc h with ⟨rfl, -⟩ | ⟨a, len, cap, zs, rfl, -, hl, hm, hz, -, hcell, hw⟩
  · exact ⟨none, 0, 0, [], rfl, Nat.le_refl _, Kd.C_nil _ _, by intro x hx; cases hx⟩
  · simp only [if_true] at hz
    refine ⟨some a, len, cap, zs.take len, rfl, hl, Kd.C_of_reads (d := (0 : Int)) (h1 := fun _ => rfl) ⟨by rw [List.length_take]; omega, by unfold maxLen at hm; omega, fun _ => ⟨a, rfl, fun j hj => ?_⟩⟩, ?_⟩
    · rw [hcell j (by omega)]
      simp [List.getD, List.getElem?_take, hj]
    · exact bytes_of_wf (fun y hy => hw y (List.mem_of_mem_take hy))
theorem open_bool_row {r : TypeId} (ht : P.underlying t = some (.slice r)) (hr : P.underlying r = some .bool) (hc : P.cellsOf r = 1) {a : Option Addr} {len cap : Nat} {d : DataW H} {pl : List MemPlace} (h : DataW.Trod enc P W base (fun _ => true) held t (.slice a len cap) d pl) : ∃ B, BoolRow W a len cap B := by
  obtain ⟨fuel, hf⟩ := h
  obtain ⟨A, n, c, B, e, hB⟩ := bool_row ht hr hc hf
  simp [Value.cells] at e
  obtain ⟨rfl, rfl, rfl⟩ := e
  exact ⟨B, hB⟩
/-- a deed: three numbers, a byte, bytes, and truth values -/
structure D6 where
  what : Int
  i : Int
  k : Int
  x : Int
  A : Option Addr
  n : Nat
  c : Nat
  bs : List Int
  kA : Option Addr
  kn : Nat
  kc : Nat
  ks : Nat → Bool
def d6C (x : D6) : List Value := [.int .i64 x.what, .int .i64 x.i, .int .i64 x.k, .int .u8 x.x, .slice x.A x.n x.c, .slice x.kA x.kn x.kc]
structure D6At (W : World) (a : Option Addr) (i : Nat) (x : D6) : Prop where
  cells : ∃ ad, a = some ad ∧ ∀ (j : Nat) (v : Value), (d6C x)[j]? = some v → W.cell? (ad.add (i * 6 + j)) = some v
  w0 : (Lit.int .i64 x.what).wf = true
  w1 : (Lit.int .i64 x.i).wf = true
  w2 : (Lit.int .i64 x.k).wf = true
  w3 : (Lit.int .u8 x.x).wf = true
  nc : x.n ≤ x.c
  bytes : Kd.C (Kd.int .u8) W x.A x.n x.bs
  ok : Bytes x.bs
  keep : BoolRow W x.kA x.kn x.kc x.ks
theorem open_disks {f0 f1 f2 f3 f4 f5 : Field} {q r : TypeId} (ht : P.underlying t = some (.slice e)) (he : P.underlying e = some (.struct #[f0, f1, f2, f3, f4, f5])) (hC : P.cellsOf e = 6)
    (t0 : P.underlying f0.type = some (.int .i64)) (t1 : P.underlying f1.type = some (.int .i64)) (t2 : P.underlying f2.type = some (.int .i64)) (t3 : P.underlying f3.type = some (.int .u8)) (t4 : P.underlying f4.type = some (.slice q)) (t5 : P.underlying f5.type = some (.slice r))
    (hq : P.underlying q = some (.int .u8)) (hr : P.underlying r = some .bool) (cq : P.cellsOf q = 1) (cr : P.cellsOf r = 1)
    (c0 : P.cellsOf f0.type = 1) (c1 : P.cellsOf f1.type = 1) (c2 : P.cellsOf f2.type = 1) (c3 : P.cellsOf f3.type = 1) (c4 : P.cellsOf f4.type = 1) (c5 : P.cellsOf f5.type = 1)
    (o0 : f0.offset = 0) (o1 : f1.offset = 1) (o2 : f2.offset = 2) (o3 : f3.offset = 3) (o4 : f4.offset = 4) (o5 : f5.offset = 5)
    {a : Option Addr} {len cap : Nat} {d : DataW H} {pl : List MemPlace} (h : DataW.Trod enc P W base (fun _ => true) held t (.slice a len cap) d pl) :
    ∃ z : List D6, z.length = len ∧ len ≤ cap ∧ (∀ (i : Nat) (x : D6), z[i]? = some x → D6At W a i x) := by
  obtain ⟨C, hCl, hcap, hC⟩ := open_recs ht he hC h
  obtain ⟨z, hz, hp⟩ := choose_list (α := D6) (p := fun i x => D6At W a i x) len (fun i hi => by
    have hiC : i < C.length := by omega
    obtain ⟨ad, ha, hlen, hcell, hf⟩ := hC i C[i] (List.getElem?_eq_getElem hiC)
    obtain ⟨m0, y0, g0⟩ := hf 0 f0 rfl
    obtain ⟨m1, y1, g1⟩ := hf 1 f1 rfl
    obtain ⟨m2, y2, g2⟩ := hf 2 f2 rfl
    obtain ⟨m3, y3, g3⟩ := hf 3 f3 rfl
    obtain ⟨m4, y4, g4⟩ := hf 4 f4 rfl
    obtain ⟨m5, y5, g5⟩ := hf 5 f5 rfl
    rw [o0, c0] at g0
    rw [o1, c1] at g1
    rw [o2, c2] at g2
    rw [o3, c3] at g3
    rw [o4, c4] at g4
    rw [o5, c5] at g5
    obtain ⟨b0, e0, -, w0⟩ := DataW.trod_int t0 g0
    obtain ⟨b1, e1, -, w1⟩ := DataW.trod_int t1 g1
    obtain ⟨b2, e2, -, w2⟩ := DataW.trod_int t2 g2
    obtain ⟨b3, e3, -, w3⟩ := DataW.trod_int t3 g3
    obtain ⟨A4, n4, k4, l4, e4, h4, hc4, hb4⟩ := byte_row t4 hq cq g4
    obtain ⟨A5, n5, k5, B5, e5, h5⟩ := bool_row t5 hr cr g5
    refine ⟨⟨b0, b1, b2, b3, A4, n4, k4, l4, A5, n5, k5, B5⟩, ⟨ad, ha, ?_⟩, w0, w1, w2, w3, h4, hc4, hb4, h5⟩
    have e : C[i] = d6C ⟨b0, b1, b2, b3, A4, n4, k4, l4, A5, n5, k5, B5⟩ := by
      generalize C[i] = cs at hlen e0 e1 e2 e3 e4 e5
      match cs, hlen with
      | [x0, x1, x2, x3, x4, x5], _ =>
        simp at e0 e1 e2 e3 e4 e5
        rw [e0, e1, e2, e3, e4, e5]
        rfl
    rw [← e]
    exact hcell)
  exact ⟨z, hz, hcap, hp⟩
end
end Go.Proofs.Ytoiiacbbfhlocaa.Kit
