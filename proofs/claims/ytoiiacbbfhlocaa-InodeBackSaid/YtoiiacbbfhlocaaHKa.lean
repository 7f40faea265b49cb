/- Layer 5: the iterator codec.shifts: its contract. -/
import Derived.Test.YtoiiacbbfhlocaaRng
set_option linter.unusedVariables false
set_option linter.unusedSimpArgs false
namespace Go.Proofs.Ytoiiacbbfhlocaa.HKa
open Go.RowKit Go.Shelf
attribute [local go_sem] Oper.semAt_some
/-- how far a byte may stand -/
abbrev Sh := { x : Int // 0 ≤ x ∧ x < 64 }
/-- how far each byte of a width stands from the right -/
def shN (m k : Nat) : List Int := (List.range k).map fun (j : Nat) => 8 * ((m : Int) - 1 - (j : Int))
theorem shN_succ (m k : Nat) : shN m (k + 1) = shN m k ++ [8 * ((m : Int) - 1 - k)] := by
  unfold shN
  rw [List.range_succ, List.map_append]
  rfl
theorem shN_len (m k : Nat) : (shN m k).length = k := by simp [shN]
set_option maxHeartbeats 1000000 in
theorem shifts_stops (F : Fence) (n : Nat) (hF : F.fn 119) (hro : F.round = none) (hn : 1 ≤ n) (g m : Nat) (w : World) (hg : g < w.heap.size) (hw : w.cell? ⟨g, 0, none⟩ = some (.int .i64 m)) (hm : m ≤ 8) :
    SeqStops F n Try.prog 119 #[.pointer (some ⟨g, 0, none⟩)] (fun v : Sh => Value.int .i64 v.1) (fun xs => xs.map (·.1) = shN m m) (fun pre => True) m w := fun l J Jx W hW hJ hJx hY h0 => by
  refine callsIn_of_wp Try.func119 rfl hF ?_ hro
  simp only [Try.ntmps119, List.size_toArray, List.length_cons, List.length_nil, Nat.reduceAdd, Nat.reduceSub, Array.replicate_succ, Array.replicate_zero, List.push_toArray, List.append_toArray, List.nil_append, List.cons_append]
  have hcell : W.cell? ⟨g, 0, none⟩ = some (.int .i64 m) := (hW.cell (p := ⟨g, 0, none⟩) hg).trans hw
  gi_wp2
  gi_loopw [3] (fun sv wr => ∃ (k : Nat) (s : Int), k ≤ m ∧ sv = .int .i64 s ∧ s = 8 * ((m : Int) - 1 - k) ∧ ∃ ys : List Sh, ys.map (·.1) = shN m k ∧ J ys wr) (fun sv _ => (intOf sv + 8).toNat)
  case atStart => exact ⟨0, _, by omega, rfl, by omega, [], rfl, h0⟩
  case round =>
    obtain ⟨k, s, hk, rfl, hs, ys, hys, hJk⟩ := hrel
    have hyl : ys.length = k := by rw [← List.length_map (f := fun (x : Sh) => x.1), hys, shN_len]
    by_cases hkm : k < m
    · have hs0 : 0 ≤ s := by omega
      have hs1 : s < 64 := by omega
      obtain ⟨fn, tmps, assign, body, hy, hR⟩ := hY ys ⟨s, hs0, hs1⟩ wr hJk (by rw [hyl]; exact hkm)
      (try dsimp only at hy)
      have HS := Lib.hid hs
      clear hs
      gi_wp2
      refine hR.mono ?_
      rintro e W3 (⟨rfl, hJ3, hk3⟩ | ⟨rfl, hx3⟩)
      · gi_wp2
        go_roundw
        case rel => exact ⟨k + 1, _, by omega, rfl, by have := HS.out; omega, ys ++ [⟨s, hs0, hs1⟩], by rw [shN_succ, ← HS.out, List.map_append, hys]; rfl, hJ3⟩
        case measure => simp [intOf]; omega
      · gi_wp2
        go_end0
        exact ⟨⟨_, rfl⟩, .inr ⟨ys ++ [⟨s, hs0, hs1⟩], trivial, hx3⟩⟩
    · have hkm' : k = m := by omega
      subst hkm'
      have hs' : s = -8 := by omega
      subst hs'
      gi_wp2
      refine ⟨fun _ h => (by cases h), ?_⟩
      gi_wp2
      go_end0
      exact ⟨⟨_, rfl⟩, .inl ⟨ys, hys, hJk⟩⟩
set_option maxHeartbeats 1000000 in
theorem shifts_in (F : Fence) (n : Nat) (hF : F.fn 86) (hro : F.round = none) (m : Int) (w : World) :
    CallsIn F n Try.prog 86 #[.int .i64 m] w fun e w' => e = .returned (.func (.func 119) #[] #[.pointer (some ⟨w.heap.size, 0, none⟩)]) ∧ w' = w.alloc (.cells #[.int .i64 m] 3) := by
  refine callsIn_of_wp Try.func86 rfl hF ?_ hro
  simp only [Try.ntmps86, List.size_toArray, List.length_cons, List.length_nil, Nat.reduceAdd, Nat.reduceSub, Array.replicate_succ, Array.replicate_zero, List.push_toArray, List.append_toArray, List.nil_append, List.cons_append]
  gi_wp2
  go_ret
  exact ⟨rfl, rfl⟩
end Go.Proofs.Ytoiiacbbfhlocaa.HKa
