/- Layer 5: the contracts of codec.Put, codec.Get and knows in the printer's form. -/
import Derived.Test.YtoiiacbbfhlocaaHKc
set_option linter.unusedVariables false
set_option linter.unusedSimpArgs false
namespace Go.Proofs.Ytoiiacbbfhlocaa.Kx
open Go.RowKit Go.Proofs.YtoiiacbbfhlocaaW.PrintWords Go.Proofs.YtoiiacbbfhlocaaW.PrintLast Go.Proofs.YtoiiacbbfhlocaaW.PrintMore Go.Proofs.Ytoiiacbbfhlocaa.Kit Go.Proofs.Ytoiiacbbfhlocaa.Rc Go.Proofs.Ytoiiacbbfhlocaa.HKa
def codec_Put.f (l0 l1 : List Int) : Option (List Int × Int) := if (decide (l0.length ≤ 1000) && l1.all fun n => decide (0 ≤ n) && decide (n < 18446744073709551616)) = true then some (putF l0 l1) else none
def codec_Get.f (l0 l1 : List Int) : Option (List Int × Int) := if (decide (l0.length ≤ 1000) && l1.all fun n => decide (0 ≤ n) && decide (n < 256)) = true then some (getF l0 l1) else none
theorem codec_Put.calls (A0 : Option Addr) (c0 : Nat) (l0 : List Int) (A1 : Option Addr) (c1 : Nat) (l1 : List Int) (r1 : List Int) (r2 : Int) (w : World) (hr0 : Kd.C (Kd.int .i64) w A0 l0.length l0) (hc0 : l0.length ≤ c0) (hr1 : Kd.C (Kd.int .u64) w A1 l1.length l1) (hc1 : l1.length ≤ c1) (h : codec_Put.f l0 l1 = some (r1, r2)) :
    Calls Try.prog 19 #[.slice A0 l0.length c0, .slice A1 l1.length c1] w fun e w' => ∃ v0_ : Value, e = .returned (.tuple #[v0_, .int .i64 r2]) ∧ Kd.R (Kd.int .u8) 5 w' w.heap.size (fun _ => True) v0_ r1 ∧ Below w.heap.size w w' := by
  unfold codec_Put.f at h
  split at h
  · rename_i hc
    simp only [Bool.and_eq_true, decide_eq_true_eq, List.all_eq_true] at hc
    have e := Option.some.inj h
    have hp := put_any A0 c0 l0 A1 c1 l1 w hr0 hc0 hr1 hc1 hc.1 hc.2
    rw [e] at hp
    exact hp
  · cases h
theorem codec_Get.calls (A0 : Option Addr) (c0 : Nat) (l0 : List Int) (A1 : Option Addr) (c1 : Nat) (l1 : List Int) (r1 : List Int) (r2 : Int) (w : World) (hr0 : Kd.C (Kd.int .i64) w A0 l0.length l0) (hc0 : l0.length ≤ c0) (hr1 : Kd.C (Kd.int .u8) w A1 l1.length l1) (hc1 : l1.length ≤ c1) (h : codec_Get.f l0 l1 = some (r1, r2)) :
    Calls Try.prog 21 #[.slice A0 l0.length c0, .slice A1 l1.length c1] w fun e w' => ∃ v0_ : Value, e = .returned (.tuple #[v0_, .int .i64 r2]) ∧ Kd.R (Kd.int .u64) 27 w' w.heap.size (fun _ => True) v0_ r1 ∧ Below w.heap.size w w' := by
  unfold codec_Get.f at h
  split at h
  · rename_i hc
    simp only [Bool.and_eq_true, decide_eq_true_eq, List.all_eq_true] at hc
    have e := Option.some.inj h
    have hp := get_any A0 c0 l0 A1 c1 l1 w hr0 hc0 hr1 hc1 hc.1 hc.2
    rw [e] at hp
    exact hp
  · cases h
attribute [local irreducible] putF getF codec_Wide.f strOfNums
def padlocklaw05_knows.f : Option Bool := some true
set_option maxHeartbeats 1000000 in
set_option maxRecDepth 100000 in
theorem padlocklaw05_knows.calls (r : Bool) (w : World) (h : padlocklaw05_knows.f = some r) :
    Calls Try.prog 18 #[] w fun e w' => e = .returned (.bool r) ∧ Below w.heap.size w w' := by
  obtain rfl := Option.some.inj h
  clear h
  have HP1 : Hid (putF [1, 2] [7, 258] = ([7, 1, 2], 0)) := Lib.hid (by decide +kernel)
  have HP2 : Hid (putF [1] [256] = ([], 1)) := Lib.hid (by decide +kernel)
  have HW9 : Hid (codec_Wide.f 3 [9] = some (-1)) := Lib.hid (by decide +kernel)
  go_enter Try.func18, Try.ntmps18
  go_wp2_with fail
  have hb1 := below_alloc (below_alloc (Below.refl w.heap.size w) (.cells #[.int .i64 1, .int .i64 2] 3)) (.cells #[.int .u64 7, .int .u64 258] 27)
  have h1 := lit_reads .i64 [1, 2] (cs := #[.int .i64 1, .int .i64 2]) (n := 2) rfl rfl (by decide) w 3
  have h2 := lit_reads .u64 [7, 258] (cs := #[.int .u64 7, .int .u64 258]) (n := 2) rfl rfl (by decide) (w.alloc (.cells #[.int .i64 1, .int .i64 2] 3)) 27
  rw [World.size_alloc] at h2
  have hp := put_any _ 2 [1, 2] _ 2 [7, 258] _ (Kd.C_below h1 (below_alloc (Below.refl _ _) _)) (by simp) h2 (by simp) (by simp) (by decide)
  rw [HP1.out] at hp
  refine hp.mono ?_
  rintro e w1 ⟨v1, rfl, hR1, hB1⟩
  obtain ⟨Ar, cr, rfl, hlr, hCr⟩ := Kd.R_reads hR1
  have HC1 := Lib.hid hCr
  have HB1 := Lib.hid (below_next hb1 hB1)
  clear hb1 h1 h2 hp hR1 hB1 hlr hCr HP1
  go_wp2_with fail
  have hb2 := below_alloc (below_alloc (Below.refl w1.heap.size w1) (.cells #[.int .i64 1] 3)) (.cells #[.int .u64 256] 27)
  have h1 := lit_reads .i64 [1] (cs := #[.int .i64 1]) (n := 1) rfl rfl (by decide) w1 3
  have h2 := lit_reads .u64 [256] (cs := #[.int .u64 256]) (n := 1) rfl rfl (by decide) (w1.alloc (.cells #[.int .i64 1] 3)) 27
  rw [World.size_alloc] at h2
  have hp := put_any _ 1 [1] _ 1 [256] _ (Kd.C_below h1 (below_alloc (Below.refl _ _) _)) (by simp) h2 (by simp) (by simp) (by decide)
  rw [HP2.out] at hp
  refine hp.mono ?_
  rintro e w2 ⟨v2, rfl, hR2, hB2⟩
  have hB12 := below_next hb2 hB2
  have HC2 := Lib.hid (Kd.C_below HC1.out hB12)
  have HB2 := Lib.hid (below_next HB1.out hB12)
  clear hb2 h1 h2 hp hR2 hB2 hB12 HP2 HC1 HB1
  have hs := Kd.C_string (P := Try.prog) (dst := 9) (c := cr) Try.underlying29 Try.underlying5 Try.underlying9 HC2.out
  rw [show strOfNums [7, 1, 2] = ⟨#[7, 1, 2]⟩ from by decide +kernel, show ([7, 1, 2] : List Int).length = 3 from rfl] at hs
  go_wp2_with fail
  have hb3 := below_alloc (Below.refl w2.heap.size w2) (.cells #[.int .i64 9] 3)
  have h1 := lit_reads .i64 [9] (cs := #[.int .i64 9]) (n := 1) rfl rfl (by decide) w2 3
  refine (codec_Wide.calls 3 _ 1 [9] (-1) _ h1 (by simp) HW9.out).mono ?_
  rintro e w3 ⟨rfl, hD⟩
  have HB3 := Lib.hid (below_next HB2.out (below_next hb3 hD.below))
  clear hD h1 hb3
  go_wp2_with fail
  go_ret
  exact ⟨rfl, HB3.out⟩
end Go.Proofs.Ytoiiacbbfhlocaa.Kx
