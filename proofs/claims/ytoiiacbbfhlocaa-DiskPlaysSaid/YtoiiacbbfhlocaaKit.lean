/- Small lemmas over the printer's words that the hand contracts of every layer use. -/
import Derived.Test.YtoiiacbbfhlocaaWMore
import Derived.Lib.Hide
import Derived.Deep.QuietTactic
import Derived.BigQuiet
import Derived.RegionTactic
import Derived.ChangeAlike
import Derived.WalkSpells
import Derived.Outline
set_option linter.unusedVariables false
set_option linter.unusedSimpArgs false
namespace Go.Proofs.Ytoiiacbbfhlocaa.Kit
open Go.RowKit Go.Proofs.YtoiiacbbfhlocaaW.PrintWords Go.Proofs.YtoiiacbbfhlocaaW.PrintLast Go.Proofs.YtoiiacbbfhlocaaW.PrintMore

theorem lit_reads (k : IntKind) (xs : List Int) {cs : Array Value} (hcs : cs = (xs.map (Value.int k)).toArray) {n : Nat} (hn : xs.length = n) (h1 : n ≤ 1000000) (w : World) (e : TypeId) :
    Kd.C (Kd.int k) (w.alloc (.cells cs e)) (some ⟨w.heap.size, 0, none⟩) n xs := by
  refine Kd.C_of_reads (d := (0 : Int)) (h1 := fun _ => rfl) ⟨hn, by omega, fun _ => ⟨_, rfl, fun j hj => ?_⟩⟩
  rw [add_plain, World.cell?_alloc_at _ _ _ _ rfl, hcs]
  have : j < xs.length := by omega
  simp [this]
theorem bcell {W w1 : World} (hb : Below W.heap.size W w1) : (∀ b o, b < W.heap.size → w1.cell? ⟨b, o, none⟩ = W.cell? ⟨b, o, none⟩) ∧ (∀ b o, b < W.heap.size → w1.frozen? ⟨b, o, none⟩ = W.frozen? ⟨b, o, none⟩) :=
  ⟨fun b o h => hb.cell (p := ⟨b, o, none⟩) h, fun b o h => hb.frozen (p := ⟨b, o, none⟩) h⟩
theorem below_next {w w1 w2 : World} (h : Below w.heap.size w w1) (k : Below w1.heap.size w1 w2) : Below w.heap.size w w2 := below_then h h.size k
theorem C_cells {k : IntKind} {w : World} {A : Option Addr} {n : Nat} {l : List Int} (hr : Kd.C (Kd.int k) w A n l) (hn : 0 < n) : ∃ b off, A = some ⟨b, off, none⟩ ∧ ∀ j, j < n → w.cell? ⟨b, off + j, none⟩ = some (.int k (l.getD j 0)) := by
  obtain ⟨⟨b, off, s⟩, e, h⟩ := (Kd.reads_of_C (enc := Value.int k) (d := (0 : Int)) (h1 := fun _ => rfl) hr).2.2 hn
  have h0 := h 0 hn
  cases s with
  | some s =>
    exfalso
    simp only [Addr.add, if_pos] at h0
    unfold World.cell? at h0
    split at h0 <;> simp at h0
  | none =>
    refine ⟨b, off, e, fun j hj => ?_⟩
    have h1 := h j hj
    by_cases c : j = 0
    · subst c; simpa [Addr.add] using h1
    · simpa [Addr.add, c] using h1
end Go.Proofs.Ytoiiacbbfhlocaa.Kit
