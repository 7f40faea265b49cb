/- Layer 1: the walk of Sha256Sums in the row's form. -/
import Derived.Test.YthnmbeooohgccaaHSg
set_option linter.unusedVariables false
namespace Go.Proofs.Ythnmbeooohgccaa.HSa
open Go.RowKit Go.Proofs.YthnmbeooohgccaaW.PrintWords Go.Proofs.Ythnmbeooohgccaa.Kit
theorem reads_of_row {w : World} {a0 : Option Addr} {len0 cap0 : Nat} {z0 : List Int} (w0 : (a0 = none ∧ len0 = 0 ∧ cap0 = 0 ∧ z0 = []) ∨ ∃ x, a0 = some x ∧ len0 ≤ cap0 ∧ cap0 ≤ maxLen ∧ z0.length = cap0 ∧ (∀ i, i < z0.length → w.cell? (x.add i) = some (.int .u8 (z0.getD i 0))) ∧ ∀ n ∈ z0, (Lit.int .u8 n).wf = true) :
    ∃ l : List Int, l.length = len0 ∧ Kd.C (Kd.int .u8) w a0 l.length l ∧ len0 ≤ cap0 ∧ Bytes l := by
  obtain ⟨l0, hl, hr, hm, hw, hc⟩ := ReadsInt.ofRowC w0
  exact ⟨l0, hl.symm, Kd.C_of_reads (d := (0 : Int)) (h1 := fun _ => rfl) hr, by omega, bytes_of_wf hw⟩
theorem sha256Sums_walk (a0 : Option Addr) (len0 cap0 : Nat) (z0 : List Int) (w : World)
    (w0 : (a0 = none ∧ len0 = 0 ∧ cap0 = 0 ∧ z0 = []) ∨ ∃ x, a0 = some x ∧ len0 ≤ cap0 ∧ cap0 ≤ maxLen ∧ z0.length = cap0 ∧ (∀ i, i < z0.length → w.cell? (x.add i) = some (.int .u8 (z0.getD i 0))) ∧ ∀ n ∈ z0, (Lit.int .u8 n).wf = true)
    (y0 : len0 * 1 ≤ 140737488351232) :
    Calls Try.prog 9 #[.slice a0 len0 cap0] w fun e w' => e = .returned (.bool true) ∧ Below w.heap.size w w' := by
  obtain ⟨l, hlen, hr, hc, hb⟩ := reads_of_row w0
  clear w0
  subst hlen
  by_cases hbig : 400 < l.length
  · exact sums_big a0 cap0 l w hbig (by omega)
  · exact sums_few a0 cap0 l w hr hc hb (by omega)
end Go.Proofs.Ythnmbeooohgccaa.HSa
