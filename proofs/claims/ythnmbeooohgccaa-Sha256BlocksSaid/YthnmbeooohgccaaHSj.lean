/- Layer 1: the walk of Sha256Blocks in the row's form. -/
import Derived.Test.YthnmbeooohgccaaHSi
set_option linter.unusedVariables false
set_option linter.unusedSimpArgs false
namespace Go.Proofs.Ythnmbeooohgccaa.HSa
open Go.RowKit Go.Proofs.YthnmbeooohgccaaW.PrintWords Go.Proofs.Ythnmbeooohgccaa.Kit
set_option maxHeartbeats 1000000 in
set_option maxRecDepth 100000 in
theorem blocks_big (A0 : Option Addr) (c0 n0 : Nat) (A1 : Option Addr) (c1 n1 : Nat) (w : World) (h : 200 < n0) (h0 : n0 ≤ 9223372036854775807) :
    Calls Try.prog 10 #[.slice A0 n0 c0, .slice A1 n1 c1] w (TellsT w) := by
  have HK := Lib.hid (knows_any w)
  go_enter Try.func10, Try.ntmps10
  go_wp2_with fail
  refine HK.out.mono ?_
  rintro e w1 ⟨rfl, hB⟩
  have HB := Lib.hid hB
  clear hB
  go_wp2
  go_ret
  exact ⟨rfl, HB.out⟩
set_option maxHeartbeats 1000000 in
set_option maxRecDepth 100000 in
theorem blocks_big2 (A0 : Option Addr) (c0 n0 : Nat) (A1 : Option Addr) (c1 n1 : Nat) (w : World) (h0 : n0 ≤ 200) (h : 200 < n1) (h1 : n1 ≤ 9223372036854775807) :
    Calls Try.prog 10 #[.slice A0 n0 c0, .slice A1 n1 c1] w (TellsT w) := by
  have HK := Lib.hid (knows_any w)
  go_enter Try.func10, Try.ntmps10
  go_wp2_with fail
  refine HK.out.mono ?_
  rintro e w1 ⟨rfl, hB⟩
  have HB := Lib.hid hB
  clear hB
  go_wp2
  go_ret
  exact ⟨rfl, HB.out⟩
theorem sha256Blocks_walk (a0 : Option Addr) (len0 cap0 : Nat) (z0 : List Int) (a1 : Option Addr) (len1 cap1 : Nat) (z1 : List Int) (w : World)
    (w0 : (a0 = none ∧ len0 = 0 ∧ cap0 = 0 ∧ z0 = []) ∨ ∃ x, a0 = some x ∧ len0 ≤ cap0 ∧ cap0 ≤ maxLen ∧ z0.length = cap0 ∧ (∀ i, i < z0.length → w.cell? (x.add i) = some (.int .u8 (z0.getD i 0))) ∧ ∀ n ∈ z0, (Lit.int .u8 n).wf = true)
    (y0 : len0 * 1 ≤ 140737488351232)
    (w1 : (a1 = none ∧ len1 = 0 ∧ cap1 = 0 ∧ z1 = []) ∨ ∃ x, a1 = some x ∧ len1 ≤ cap1 ∧ cap1 ≤ maxLen ∧ z1.length = cap1 ∧ (∀ i, i < z1.length → w.cell? (x.add i) = some (.int .u8 (z1.getD i 0))) ∧ ∀ n ∈ z1, (Lit.int .u8 n).wf = true)
    (y1 : len1 * 1 ≤ 140737488351232) :
    Calls Try.prog 10 #[.slice a0 len0 cap0, .slice a1 len1 cap1] w fun e w' => e = .returned (.bool true) ∧ Below w.heap.size w w' := by
  obtain ⟨l, hlen, hr, hc, hb⟩ := reads_of_row w0
  obtain ⟨l', hlen', hr', hc', hb'⟩ := reads_of_row w1
  clear w0 w1
  subst hlen hlen'
  by_cases hbig : 200 < l.length
  · exact blocks_big a0 cap0 l.length a1 cap1 l'.length w hbig (by omega)
  · by_cases hbig' : 200 < l'.length
    · exact blocks_big2 a0 cap0 l.length a1 cap1 l'.length w (by omega) hbig' (by omega)
    · exact blocks_few a0 cap0 l a1 cap1 l' w hr hc hr' hc' hb hb' (by omega) (by omega)
end Go.Proofs.Ythnmbeooohgccaa.HSa
