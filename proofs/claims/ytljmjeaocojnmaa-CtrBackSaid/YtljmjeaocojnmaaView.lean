/- Rows of slices that lie anywhere and are only read: a kind for the printer's words. -/
import Derived.Test.YtljmjeaocojnmaaArm
set_option linter.unusedVariables false
set_option linter.unusedSimpArgs false
namespace Go.Proofs.Ytljmjeaocojnmaa.Kit
open Go.RowKit Go.Proofs.YtljmjeaocojnmaaW.PrintWords Go.Proofs.YtljmjeaocojnmaaW.PrintLast Go.Proofs.YtljmjeaocojnmaaW.PrintMore
/-- what is read of a slice hangs on its block alone -/
theorem C_move {k : IntKind} {w w1 : World} {A : Option Addr} {n : Nat} {xs : List Int} (h : Kd.C (Kd.int k) w A n xs) (hm : ∀ a, A = some a → w1.heap[a.block]? = w.heap[a.block]?) : Kd.C (Kd.int k) w1 A n xs := by
  have hr := Kd.reads_of_C (enc := Value.int k) (d := (0 : Int)) (h1 := fun _ => rfl) h
  refine Kd.C_of_reads (d := (0 : Int)) (h1 := fun _ => rfl) ⟨hr.1, hr.2.1, fun hn => ?_⟩
  obtain ⟨ad, e, hc⟩ := hr.2.2 hn
  refine ⟨ad, e, fun j hj => ?_⟩
  rw [← hc j hj]
  unfold World.cell?
  rw [show (ad.add j).block = ad.block from by unfold Addr.add; split <;> rfl, hm ad e]
def Seen (E : List Nat) (k : IntKind) (w : World) (base : Nat) (ok : Nat → Prop) (x : List Int) (cs : List Value) : Prop :=
  ∃ a c, cs = [.slice (some a) x.length c] ∧ x.length ≤ c ∧ Kd.C (Kd.int k) w (some a) x.length x ∧ ok a.block ∧ base ≤ a.block ∧ a.block < w.heap.size ∧ ∃ q, q ∈ E ∧ ∃ cells, w.heap[a.block]? = some (.cells cells q (0, 0))
def viewKd (E : List Nat) (k : IntKind) : Kd (List Int) where
  sz := 1
  E := E
  K := fun w x cs => ∃ A c, cs = [.slice A x.length c] ∧ x.length ≤ c ∧ Kd.C (Kd.int k) w A x.length x
  M := fun w base ok x cs => Seen E k w base ok x cs
  K_len := by
    rintro w x cs ⟨A, c, rfl, _⟩
    rfl
  K_one := by
    rintro w x cs ⟨A, c, rfl, _⟩ u hu
    rw [List.mem_singleton.1 hu]
    rfl
  K_below := by
    rintro w w1 x cs hb ⟨A, c, rfl, hl, hr⟩
    exact ⟨A, c, rfl, hl, Kd.C_below hr hb⟩
  K_of_M := by
    rintro w base ok x cs ⟨a, c, rfl, hl, hr, _⟩
    exact ⟨some a, c, rfl, hl, hr⟩
  M_mono := by
    rintro w base ok ok' x cs h ⟨a, c, rfl, hl, hr, ho, ht⟩
    exact ⟨a, c, rfl, hl, hr, h _ ho, ht⟩
  M_bound := by
    rintro w base ok x cs ⟨a, c, rfl, hl, hr, ho, hb, hs, q, hq, hc⟩
    exact ⟨a, c, rfl, hl, hr, ⟨ho, hb, hs, q, hq, hc⟩, hb, hs, q, hq, hc⟩
  M_move := by
    rintro w w1 base ok x cs hm ⟨a, c, rfl, hl, hr, ho, hb, hs, q, hq, cells, hc⟩
    have hc1 := (hm _ ho).trans hc
    exact ⟨a, c, rfl, hl, C_move hr (fun a' e => by cases e; exact hm _ ho), ho, hb, (Array.getElem?_eq_some_iff.1 hc1).1, q, hq, cells, hc1⟩
  M_lower := by
    rintro w base base' ok x cs hbb ⟨a, c, rfl, hl, hr, ho, hb, ht⟩
    exact ⟨a, c, rfl, hl, hr, ho, by omega, ht⟩
/-- a row of such slices is read as a row of slices -/
theorem view_C {E : List Nat} {k : IntKind} {w : World} {A : Option Addr} {n : Nat} {xs : List (List Int)} (e : Nat) (h : Kd.C (viewKd E k) w A n xs) : Kd.C (Kd.slice e (Kd.int k)) w A n xs := h
/-- one of them -/
theorem view_at {E : List Nat} {k : IntKind} {e : Nat} {w : World} {base : Nat} {ok : Nat → Prop} {A : Option Addr} {n c : Nat} {xs : List (List Int)} (h : (viewKd E k).R e w base ok (.slice A n c) xs) (j : Nat) (hj : j < n) :
    ∃ g A' c', A = some ⟨g, 0, none⟩ ∧ w.cell? ⟨g, j, none⟩ = some (.slice A' (xs.getD j []).length c') ∧ (xs.getD j []).length ≤ c' ∧ Kd.C (Kd.int k) w A' (xs.getD j []).length (xs.getD j []) := by
  obtain ⟨hn, hc, hC⟩ := Kd.R_reads' h
  obtain ⟨inner, ho⟩ := Kd.R_own h
  obtain ⟨ad, e1, hcell⟩ := hC.2.2 (by omega)
  rcases ho.2 with ⟨hv, _⟩ | ⟨g, cap, cur, hv, _, hh, _⟩
  · injection hv with h1 h2
    omega
  · injection hv with h1 h2
    subst h1
    injection e1 with e1
    subst e1
    obtain ⟨cs, hl, ⟨A', c', rfl, hle, hr⟩, hcc⟩ := hcell j (xs.getD j []) (by rw [List.getD_eq_getElem?_getD, List.getElem?_eq_getElem (by omega)]; rfl)
    refine ⟨g, A', c', rfl, ?_, hle, hr⟩
    have := hcc 0 _ rfl
    rw [show (⟨g, 0, none⟩ : Addr).add (j * (viewKd E k).sz + 0) = ⟨g, j, none⟩ from by rw [add_plain]; simp [viewKd]] at this
    exact this
/-- a row of slices that is read: one of them -/
theorem rows_at {e : Nat} {k : IntKind} {w : World} {A : Option Addr} {n : Nat} {ps : List (List Int)} (h : Kd.C (Kd.slice e (Kd.int k)) w A n ps) (hn : 0 < n) :
    ∃ b off, A = some ⟨b, off, none⟩ ∧ ∀ j, j < n → ∃ A' c', w.cell? ⟨b, off + j, none⟩ = some (.slice A' (ps.getD j []).length c') ∧ (ps.getD j []).length ≤ c' ∧ Kd.C (Kd.int k) w A' (ps.getD j []).length (ps.getD j []) := by
  obtain ⟨hl, _, hc⟩ := h
  obtain ⟨⟨b, off, s⟩, e1, hcell⟩ := hc hn
  have key : ∀ j, j < n → ∃ A' c', w.cell? ((⟨b, off, s⟩ : Addr).add j) = some (.slice A' (ps.getD j []).length c') ∧ (ps.getD j []).length ≤ c' ∧ Kd.C (Kd.int k) w A' (ps.getD j []).length (ps.getD j []) := fun j hj => by
    obtain ⟨cs, hl2, ⟨A', c', rfl, hle, hr⟩, hcc⟩ := hcell j (ps.getD j []) (by rw [List.getD_eq_getElem?_getD, List.getElem?_eq_getElem (by omega)]; rfl)
    refine ⟨A', c', ?_, hle, hr⟩
    have := hcc 0 _ rfl
    simpa [Kd.slice] using this
  cases s with
  | some s =>
    exfalso
    obtain ⟨A', c', h0, _⟩ := key 0 hn
    simp only [Addr.add] at h0
    unfold World.cell? at h0
    split at h0 <;> simp at h0
  | none =>
    refine ⟨b, off, e1, fun j hj => ?_⟩
    obtain ⟨A', c', h0, h1⟩ := key j hj
    refine ⟨A', c', ?_, h1⟩
    rw [← h0]
    congr 1
    unfold Addr.add
    split <;> simp_all
/-- a slice's part, its address told -/
theorem slice_mid {P : Program} (t e : TypeId) (hu : P.underlying t = some (.slice e)) (hi : (P.info? e).map (·.size) = some 1) (g o n c : Nat) (l h : Int) (p q : Nat) (hl : l = p) (hh : h = q) (hpq : p ≤ q) (hqc : q ≤ c) (hpc : p < c) (w : World) :
    (Instr.slice t (.slice (some ⟨g, o, none⟩) n c) (some (.int .i64 l)) (some (.int .i64 h)) none).run P w = .ok (.slice (some ⟨g, o + p, none⟩) (q - p) (c - p)) w := by
  have hel : P.elem t = e := by simp [Program.elem, hu]
  have hut : P.underlying t = some (.slice (P.elem t)) := by rw [hel]; exact hu
  subst hl hh
  rw [run_slice_lh w t (some ⟨g, o, none⟩) n c hut .i64 .i64 (p : Int) (q : Int) (by omega) (by omega) (by omega), hel]
  cases hz : P.info? e with
  | none => simp [hz] at hi
  | some i =>
    have h1 : i.size = 1 := by simpa [hz] using hi
    simp [sizeOf, typeInfo, hz, h1, sliced, Result.andThen, show ¬ c = p from by omega, Addr.add]
end Go.Proofs.Ytljmjeaocojnmaa.Kit
