/- Shared: what calls give (arrays, own slices of bytes); an input's slice of bytes; ranges. -/
import Derived.Test.YtoiiacbbfhlocaaProg
import Derived.Test.YtoiiacbbfhlocaaMake
import Derived.Test.YtoiiacbbfhlocaaBits
import Derived.Deep.DrawnRows
import Derived.IntWalk
set_option linter.unusedVariables false
set_option linter.unusedSimpArgs false
namespace Go.Proofs.Ytoiiacbbfhlocaa.Com
open Go.RowKit Go.Proofs.YtoiiacbbfhlocaaW.PrintWords Go.Proofs.YtoiiacbbfhlocaaW.PrintLast Go.Proofs.YtoiiacbbfhlocaaW.PrintMore Go.Proofs.Ytoiiacbbfhlocaa.Kit
theorem info5 : (Try.prog.info? 5).map (fun i => (i.zero, i.size, i.bytes)) = some (some (.int .u8 0), 1, 1) := by kernel_rfl
def GivesArr (k : IntKind) (xs : List Int) (w : World) (e : Ending) (w' : World) : Prop := e = .returned (.agg (nums k xs).toArray) ∧ Below w.heap.size w w'
def OutB (w : World) (r : List Int) (e : Ending) (w' : World) : Prop :=
  ∃ v0_ : Value, e = .returned (v0_) ∧ Kd.R (Kd.int .u8) 5 w' w.heap.size (fun _ => True) v0_ r ∧ Below w.heap.size w w'
theorem reads_of_row {w : World} {a0 : Option Addr} {len0 cap0 : Nat} {z0 : List Int} (w0 : (a0 = none ∧ len0 = 0 ∧ cap0 = 0 ∧ z0 = []) ∨ ∃ x, a0 = some x ∧ len0 ≤ cap0 ∧ cap0 ≤ maxLen ∧ z0.length = cap0 ∧ (∀ i, i < z0.length → w.cell? (x.add i) = some (.int .u8 (z0.getD i 0))) ∧ ∀ n ∈ z0, (Lit.int .u8 n).wf = true) :
    ∃ l : List Int, l.length = len0 ∧ Kd.C (Kd.int .u8) w a0 l.length l ∧ len0 ≤ cap0 ∧ Bytes l := by
  obtain ⟨l0, hl, hr, hm, hw, hc⟩ := ReadsInt.ofRowC w0
  exact ⟨l0, hl.symm, Kd.C_of_reads (d := (0 : Int)) (h1 := fun _ => rfl) hr, by omega, bytes_of_wf hw⟩
theorem range64 {x : Int} (h : (Lit.int .i64 x).wf = true) : -9223372036854775808 ≤ x ∧ x < 9223372036854775808 := by
  simp only [Lit.wf, Bool.and_eq_true, decide_eq_true_eq] at h
  rw [show IntKind.i64.min = -9223372036854775808 from rfl, show IntKind.i64.max = 9223372036854775807 from rfl] at h
  omega
theorem rangeu64 {x : Int} (h : (Lit.int .u64 x).wf = true) : 0 ≤ x ∧ x < 18446744073709551616 := by
  simp only [Lit.wf, Bool.and_eq_true, decide_eq_true_eq] at h
  rw [show IntKind.u64.min = 0 from rfl, show IntKind.u64.max = 18446744073709551615 from rfl] at h
  omega
theorem rangeu16 {x : Int} (h : (Lit.int .u16 x).wf = true) : 0 ≤ x ∧ x < 65536 := by
  simp only [Lit.wf, Bool.and_eq_true, decide_eq_true_eq] at h
  rw [show IntKind.u16.min = 0 from rfl, show IntKind.u16.max = 65535 from rfl] at h
  omega
end Go.Proofs.Ytoiiacbbfhlocaa.Com
