/- Texts of this claim, laid together by a program of this session (wip/tools/pack.py); the print's own words among them are those that print.sh OWN=1 lays for the claim, as far as they are named. -/
import Derived.Test.YtoiiacbbfhlocaaProg
import Derived.Below
import Derived.Deep.Draws
import Derived.Deep.AppendLies
import Derived.Maps.AppendAt
import Derived.OwnWalk
import Derived.Laws.BytesArg
import Derived.Laws.MakeOwn
import Derived.Laws.OwnMore
import Derived.Deep.OwnRows
import Derived.Tactics
import Derived.Lib.ConvBytes
import Derived.Laws.Slices
import Derived.WalkKit
import Derived.KernelRfl
import Derived.RowKit3
import Derived.Deep.LoopGhost
import Derived.Deep.QuietTactic
import Derived.BigQuiet
import Derived.WideLaws
import Derived.Deep.DeepCutAuto
import Derived.Deep.CutBlock
import Derived.Deep.RegionHeld3
import Derived.Laws.Rows
import Derived.Lib.AppendStr
import Derived.ArgAppend
import Derived.Laws.IdiomCopy
import Derived.OrdersHeld
import Derived.Laws.BitsLemmas
import Derived.RowKit
import Derived.Test.YtoiiacbbfhlocaaQA
import Derived.Test.YtoiiacbbfhlocaaQH
import Derived.Test.YtoiiacbbfhlocaaQR
section
namespace Go.Proofs.Ytoiiacbbfhlocaa.Cb
open Go.RowKit Go.Proofs.YtoiiacbbfhlocaaW.PrintWords Go.Proofs.YtoiiacbbfhlocaaW.PrintLast Go.Proofs.YtoiiacbbfhlocaaW.PrintMore
attribute [local go_sem] max2_int min2_int max_two min_two max_three min_three max_four min_four   -- for this text's walks alone
set_option linter.unusedVariables false
set_option linter.unusedSimpArgs false
def errW : Option Int → Value
  | none => .nilIface
  | some c => .iface 0 (.int .i64 c)
theorem errW_none : errW none = .nilIface := rfl
theorem errW_some (c : Int) : errW (some c) = .iface 0 (.int .i64 c) := rfl
theorem info5 : (Try.prog.info? 5).map (fun i => (i.zero, i.size, i.bytes)) = some (some (.int .u8 0), 1, 1) := by kernel_rfl
-- the values' own types
end Go.Proofs.Ytoiiacbbfhlocaa.Cb
end
section
namespace Go.Proofs.Ytoiiacbbfhlocaa.Cb
open Go.RowKit Go.Proofs.YtoiiacbbfhlocaaW.PrintWords Go.Proofs.YtoiiacbbfhlocaaW.PrintLast Go.Proofs.YtoiiacbbfhlocaaW.PrintMore
attribute [local go_sem] max2_int min2_int max_two min_two max_three min_three max_four min_four   -- for this text's walks alone
set_option linter.unusedVariables false
set_option linter.unusedSimpArgs false
/-! ### padlockref04_Big: function 87 -/
def padlockref04_Big.f : Nat → Int → Int → Option (List Int)
  | 0, _, _ => none
  | k + 1, a0, a1 => if a1 = 0 then (some ([] : List Int)) else ((padlockref04_Big.f k (IntKind.u64.wrap (Int.tdiv a0 256)) (wrap64 (a1 - 1))).bind fun t101 => (if t101.length < 140737488355328 then (some (t101 ++ [(Int.tmod a0 256) % 256])) else (none)))
theorem padlockref04_Big.mono_l : ∀ k, (∀ y0 y1, LeO (padlockref04_Big.f k y0 y1) (padlockref04_Big.f (k + 1) y0 y1))
  | 0 => fun _ _ r h => by simp [padlockref04_Big.f] at h
  | k + 1 => by
    have ih0 := padlockref04_Big.mono_l k
    · intro y0 y1
      unfold padlockref04_Big.f
      repeat' first
      | (with_reducible exact ih0 _ _)
      | (with_reducible exact LeO.refl _)
      | (with_reducible exact LeO.none _)
      | (with_reducible refine LeO.ite ?_ ?_)
      | (with_reducible refine LeO.bind ?_ (fun _ => ?_))
      | exact ih0 _ _
      | exact LeO.none _
      | refine LeO.ite ?_ ?_
      | refine LeO.bind ?_ (fun _ => ?_)
theorem padlockref04_Big.mono : ∀ a0 a1 k, LeO (padlockref04_Big.f k a0 a1) (padlockref04_Big.f (k + 1) a0 a1) := by
  intro a0 a1 k
  have ih0 := padlockref04_Big.mono_l k
  exact ih0 a0 a1
set_option maxHeartbeats 8000000 in
set_option maxRecDepth 100000 in
theorem padlockref04_Big.calls (k : Nat) : ∀ (a0 : Int) (a1 : Int) (r : List Int) (w : World) (h : padlockref04_Big.f k a0 a1 = some r),
    Calls Try.prog 87 #[.int .u64 a0, .int .i64 a1] w fun e w' => ∃ v0_ : Value, e = .returned (v0_) ∧ Kd.R (Kd.int .u8) 5 w' w.heap.size (fun _ => True) v0_ r ∧ Below w.heap.size w w' := by
  induction k using Nat.strongRecOn with
  | _ k ih =>
  intro a0 a1 r w h
  cases k with
  | zero => exact absurd h (by simp [padlockref04_Big.f])
  | succ k =>
  simp only [padlockref04_Big.f] at h
  have HB := Aside0.mk (Below.refl w.heap.size w)
  have H : (if a1 = 0 then (some ([] : List Int)) else ((padlockref04_Big.f k (IntKind.u64.wrap (Int.tdiv a0 256)) (wrap64 (a1 - 1))).bind fun t101 => (if t101.length < 140737488355328 then (some (t101 ++ [(Int.tmod a0 256) % 256])) else (none)))) = some r := h
  clear h
  by_cases c3 : a1 = 0
  · rw [if_pos c3] at H
    have c3b0 : (a1 == 0) = true := beq_iff_eq.mpr c3
    have c3b1 : (a1 != 0) = false := bne_eq_false_iff_eq.mpr c3
    clear c3
    obtain rfl := Option.some.inj H
    go_enter Try.func87, Try.ntmps87
    go_wp2
    go_ret
    exact ⟨_, by first | rfl | (simp [errW_none, errW_some] <;> rfl) | (simp [*, errW_none, errW_some] <;> rfl), by first | exact Kd.R_nil _ _ _ _ _ | exact Kd.N_nil _ _ _ _ _ | exact Kd.V_nil _ _ _ _ _ | exact Kd.Q_nil _ _ _ _ _ | exact Kd.S_nil _ _ _ _ _, by repeat (first | (with_reducible first | exact HB.out | apply below_alloc | apply pw_below_drewN | apply below_drew1) | exact HB.out)⟩
  · rw [if_neg c3] at H
    have c3b0 : (a1 == 0) = false := beq_eq_false_iff_ne.mpr c3
    have c3b1 : (a1 != 0) = true := bne_iff_ne.mpr c3
    replace H := Option.bind_eq_some_iff.mp H
    obtain ⟨t101, A40, H⟩ := H
    replace H : (if t101.length < 140737488355328 then (some (t101 ++ [(Int.tmod a0 256) % 256])) else (none)) = some r := H
    have A4 := Aside0.mk A40
    clear A40
    by_cases c5 : t101.length < 140737488355328
    · rw [if_pos c5] at H
      have LMc5 := Aside0.mk c5
      clear c5
      obtain ⟨y104, hy104⟩ : ∃ y_ : List Int, y_ = (t101 ++ [(Int.tmod a0 256) % 256]) := ⟨_, rfl⟩
      replace H : (some y104) = some r := by first | (rw [hy104]; with_reducible exact H) | (have H2_ := (Option.bind_some _ _).symm.trans H; rw [hy104]; with_reducible exact H2_) | (have H2_ := (Option.bind_some _ _).symm.trans H; with_reducible exact H2_) | with_reducible exact H | (rw [hy104]; exact H) | exact H
      have Ny104 := Aside0.mk hy104
      clear hy104
      obtain rfl := Option.some.inj H
      go_enter Try.func87, Try.ntmps87
      go_wp2_with (first | ((with_reducible refine gate_callee (f := 87) rfl ?_); refine goesL_ (some 11) rfl rfl Try.func87 (by kernel_rfl) rfl #[.int .u64 (IntKind.u64.wrap (Int.tdiv a0 256)), .int .i64 (wrap64 (a1 - 1))] rfl (by (try simp only [List.map_toArray, List.map_cons, List.map_nil]); first | done | rfl | (simp only [List.length_drop, List.length_take]; rfl)) ?_; (with_reducible refine (ih k (by omega) (IntKind.u64.wrap (Int.tdiv a0 256)) (wrap64 (a1 - 1)) t101 _ A4.out).mono ?_); rintro e w6 ⟨v102, rfl, ho0, hb⟩; refine ⟨_, rfl, ?_⟩; have n0_ := Aside0.mk (Kd.R_lower ho0 (below_size (by repeat (first | (with_reducible first | exact HB.out | apply below_alloc | apply pw_below_drewN | apply below_drew1) | exact HB.out)))); have n1_ := Aside0.mk (below_step (by repeat (first | (with_reducible first | exact HB.out | apply below_alloc | apply pw_below_drewN | apply below_drew1) | exact HB.out)) hb); clear HB; have HO103 := n0_; have HB := n1_; clear n0_ n1_; (try clear hb); (try clear hb2); (try clear hk); (try clear hi); (try clear ho0)) | ((with_reducible refine gate_builtin (b := .append) (xs := #[.tmp 11, .tmp 15]) rfl ?_); at_builtin; refine Kd.R_append (Kd.int .u8) (w0 := w) w.heap.size rfl (.tmp 11) (.tmp 15) 29 5 (.int .u8 0) 1 rfl Try.underlying29 info5 rfl (by decide) (by omega) v102 t101 ((Int.tmod a0 256) % 256) [.int .u8 ((Int.tmod a0 256) % 256)] (fun _ => True) (fun _ => False) rfl rfl ?aP (fun _ hk => hk.elim) ?aF ?aO ?aB ?aS ?aL ?_; (case aP => exact rfl); (case aB => exact (by repeat (first | (with_reducible first | exact HB.out | apply below_alloc | apply pw_below_drewN | apply below_drew1) | exact HB.out))); (case aF => exact (fun _ _ => trivial)); (case aO => exact (by (with_reducible repeat (first | apply Kd.R_alloc | apply Kd.R_drewN | apply Kd.R_drew)); exact HO103.out)); (case aS => exact (below_size (by repeat (first | (with_reducible first | exact HB.out | apply below_alloc | apply pw_below_drewN | apply below_drew1) | exact HB.out)))); (case aL => have := LMc5.out; omega); intro v105 w7 ho hb hg hat; rw [← Ny104.out] at ho; have n0_ := Aside0.mk (hb); have n1_ := Aside0.mk (ho); clear HB; clear HO103; have HB := n0_; have HO106 := n1_; clear n0_ n1_; clear ho hb hg hat))
      go_ret
      exact ⟨_, by first | rfl | (simp [errW_none, errW_some] <;> rfl) | (simp [*, errW_none, errW_some] <;> rfl), by (with_reducible repeat (first | apply Kd.R_alloc | apply Kd.R_drewN | apply Kd.R_drew)); exact HO106.out, by repeat (first | (with_reducible first | exact HB.out | apply below_alloc | apply pw_below_drewN | apply below_drew1) | exact HB.out)⟩
    · rw [if_neg c5] at H
      exact absurd H (by simp)
end Go.Proofs.Ytoiiacbbfhlocaa.Cb
end
section
set_option linter.unusedVariables false
set_option linter.unusedSimpArgs false
namespace Go.Proofs.Ytoiiacbbfhlocaa.HCa
open Go.RowKit Go.Proofs.YtoiiacbbfhlocaaW.PrintWords Go.Proofs.YtoiiacbbfhlocaaW.PrintLast Go.Proofs.YtoiiacbbfhlocaaW.PrintMore Go.Proofs.Ytoiiacbbfhlocaa.Kit
attribute [local go_sem ↓] Go.wp_at_zero Go.wp_at_succ
def nvF (hi c : Int) (i : Nat) : Int := if i < 4 then hi / 2 ^ (24 - 8 * i) % 256 else c / 2 ^ (88 - 8 * i) % 256
def nN (hi c : Int) (k : Nat) : List Int := (List.range 12).map fun i => if i < k then nvF hi c i else 0
theorem nN_length (hi c : Int) (k : Nat) : (nN hi c k).length = 12 := by simp [nN]
theorem nN_zero (hi c : Int) : nN hi c 0 = List.replicate 12 0 := by simp [nN]; rfl
theorem nN_succ (hi c : Int) (k : Nat) (h : k < 12) : nN hi c (k + 1) = (nN hi c k).set k (nvF hi c k) := by
  refine List.ext_getElem (by simp [nN]) (fun i h1 h2 => ?_)
  simp only [nN, List.getElem_map, List.getElem_range, List.getElem_set]
  by_cases hik : k = i
  · subst hik
    simp
  · rw [if_neg hik]
    by_cases h3 : i < k
    · rw [if_pos h3, if_pos (by omega)]
    · rw [if_neg h3, if_neg (by omega)]
attribute [local irreducible] nN
set_option maxHeartbeats 4000000 in
set_option maxRecDepth 100000 in
theorem nonce_any (b f c : Int) (w : World) (hbf : b % 4294967296 = f) (hc : 0 ≤ c ∧ c < 18446744073709551616) :
    Calls Try.prog 82 #[.int .i64 b, .int .u64 c] w (Go.Proofs.Ytoiiacbbfhlocaa.Com.GivesArr .u8 (nN f c 12) w) := by
  have hf0 : 0 ≤ f := by omega
  have hf1 : f < 4294967296 := by omega
  obtain ⟨hc0, hc1⟩ := hc
  have HF : Hid (b % 4294967296 = f) := Lib.hid hbf
  clear hbf
  go_enter Try.func82, Try.ntmps82
  go_wp2_with (first
    | ((with_reducible refine gate_dst (N := 4) rfl ?_); refine alloc_arr rfl 125 rfl .u8 (List.replicate 12 0) (fun w => Try.zeroValue125 w) (by first | (go_simp; done) | (go_simp; rfl)) ?_; intro w1 hA1 hB1; have HA1 := Lib.hid hA1; have HB1 := Lib.hid hB1; clear hA1 hB1)
    | ((with_reducible refine gate_dst (N := 5) rfl ?_); refine alloc_arr rfl 125 rfl .u8 (List.replicate 12 0) (fun w => Try.zeroValue125 w) (by first | (go_simp; done) | (go_simp; rfl)) ?_; intro w2 hA2 hB2; have HA2 := Lib.hid hA2; have HA12 := Lib.hid (HA1.out.next hB2); have HB2 := Lib.hid (below_next HB1.out hB2); clear hA2 hB2)
    | fail)
  generalize hg5 : w1.heap.size = g5 at *
  generalize hg4 : w.heap.size = g4 at *
  have HG : Hid (g4 = w.heap.size ∧ g4 < g5) := Lib.hid ⟨hg4.symm, by have := HA1.out.lt; omega⟩
  clear hg5 hg4
  go_loopw [10] (fun iv wr => ∃ k : Nat, iv = .int .i64 k ∧ k ≤ 12 ∧ Hid (Arr .u8 125 wr g5 (nN f c k)) ∧ Hid (Arr .u8 125 wr g4 (List.replicate 12 0)) ∧ Hid (Below g4 w wr)) (fun iv _ => 12 - (intOf iv).toNat)
  case atStart => exact ⟨0, rfl, by omega, Lib.hid (by rw [nN_zero]; exact HA2.out), HA12, HB2⟩
  case round =>
    clear HA1 HA2 HA12 HB1 HB2
    obtain ⟨k, rfl, hk, hA, hZ, hB⟩ := hrel
    by_cases hk12 : k < 12
    · have HS := Lib.hid (nN_succ f c k hk12)
      have hcl := hA.out.cellN k (by rw [nN_length]; omega)
      have hfr := hA.out.free k
      have hff := HF.out
      obtain ⟨q, hq⟩ : ∃ q, q = k := ⟨_, rfl⟩
      have HQ := Lib.hid hq
      clear hq
      rcases (show k = 0 ∨ k = 1 ∨ k = 2 ∨ k = 3 ∨ k = 4 ∨ k = 5 ∨ k = 6 ∨ k = 7 ∨ k = 8 ∨ k = 9 ∨ k = 10 ∨ k = 11 by omega) with rfl | rfl | rfl | rfl | rfl | rfl | rfl | rfl | rfl | rfl | rfl | rfl
      · have HV : Hid (nvF f c 0 = f / 16777216) := Lib.hid (by unfold nvF; first | (simp; done) | (simp; omega))
        go_wp2_with fail
        go_roundw
        case rel => exact ⟨q + 1, by rw [HQ.out]; rfl, by rw [HQ.out]; omega, Lib.hid (by rw [HQ.out, HS.out, HV.out]; exact hA.out.put 0 _), Lib.hid (hZ.out.far _ (by have := HG.out.2; show g4 ≠ g5; omega) _), Lib.hid (below_setCell hB.out _ _ (by have := HG.out.2; omega) _)⟩
        case measure => simp [intOf]
      · have HV : Hid (nvF f c 1 = f / 65536 % 256) := Lib.hid (by unfold nvF; first | (simp; done) | (simp; omega))
        go_wp2_with fail
        go_roundw
        case rel => exact ⟨q + 1, by rw [HQ.out]; rfl, by rw [HQ.out]; omega, Lib.hid (by rw [HQ.out, HS.out, HV.out]; exact hA.out.put 1 _), Lib.hid (hZ.out.far _ (by have := HG.out.2; show g4 ≠ g5; omega) _), Lib.hid (below_setCell hB.out _ _ (by have := HG.out.2; omega) _)⟩
        case measure => simp [intOf]
      · have HV : Hid (nvF f c 2 = f / 256 % 256) := Lib.hid (by unfold nvF; first | (simp; done) | (simp; omega))
        go_wp2_with fail
        go_roundw
        case rel => exact ⟨q + 1, by rw [HQ.out]; rfl, by rw [HQ.out]; omega, Lib.hid (by rw [HQ.out, HS.out, HV.out]; exact hA.out.put 2 _), Lib.hid (hZ.out.far _ (by have := HG.out.2; show g4 ≠ g5; omega) _), Lib.hid (below_setCell hB.out _ _ (by have := HG.out.2; omega) _)⟩
        case measure => simp [intOf]
      · have HV : Hid (nvF f c 3 = f % 256) := Lib.hid (by unfold nvF; first | (simp; done) | (simp; omega))
        go_wp2_with fail
        go_roundw
        case rel => exact ⟨q + 1, by rw [HQ.out]; rfl, by rw [HQ.out]; omega, Lib.hid (by rw [HQ.out, HS.out, HV.out]; exact hA.out.put 3 _), Lib.hid (hZ.out.far _ (by have := HG.out.2; show g4 ≠ g5; omega) _), Lib.hid (below_setCell hB.out _ _ (by have := HG.out.2; omega) _)⟩
        case measure => simp [intOf]
      · have HV : Hid (nvF f c 4 = c / 72057594037927936) := Lib.hid (by unfold nvF; first | (simp; done) | (simp; omega))
        go_wp2_with fail
        go_roundw
        case rel => exact ⟨q + 1, by rw [HQ.out]; rfl, by rw [HQ.out]; omega, Lib.hid (by rw [HQ.out, HS.out, HV.out]; exact hA.out.put 4 _), Lib.hid (hZ.out.far _ (by have := HG.out.2; show g4 ≠ g5; omega) _), Lib.hid (below_setCell hB.out _ _ (by have := HG.out.2; omega) _)⟩
        case measure => simp [intOf]
      · have HV : Hid (nvF f c 5 = c / 281474976710656 % 256) := Lib.hid (by unfold nvF; first | (simp; done) | (simp; omega))
        go_wp2_with fail
        go_roundw
        case rel => exact ⟨q + 1, by rw [HQ.out]; rfl, by rw [HQ.out]; omega, Lib.hid (by rw [HQ.out, HS.out, HV.out]; exact hA.out.put 5 _), Lib.hid (hZ.out.far _ (by have := HG.out.2; show g4 ≠ g5; omega) _), Lib.hid (below_setCell hB.out _ _ (by have := HG.out.2; omega) _)⟩
        case measure => simp [intOf]
      · have HV : Hid (nvF f c 6 = c / 1099511627776 % 256) := Lib.hid (by unfold nvF; first | (simp; done) | (simp; omega))
        go_wp2_with fail
        go_roundw
        case rel => exact ⟨q + 1, by rw [HQ.out]; rfl, by rw [HQ.out]; omega, Lib.hid (by rw [HQ.out, HS.out, HV.out]; exact hA.out.put 6 _), Lib.hid (hZ.out.far _ (by have := HG.out.2; show g4 ≠ g5; omega) _), Lib.hid (below_setCell hB.out _ _ (by have := HG.out.2; omega) _)⟩
        case measure => simp [intOf]
      · have HV : Hid (nvF f c 7 = c / 4294967296 % 256) := Lib.hid (by unfold nvF; first | (simp; done) | (simp; omega))
        go_wp2_with fail
        go_roundw
        case rel => exact ⟨q + 1, by rw [HQ.out]; rfl, by rw [HQ.out]; omega, Lib.hid (by rw [HQ.out, HS.out, HV.out]; exact hA.out.put 7 _), Lib.hid (hZ.out.far _ (by have := HG.out.2; show g4 ≠ g5; omega) _), Lib.hid (below_setCell hB.out _ _ (by have := HG.out.2; omega) _)⟩
        case measure => simp [intOf]
      · have HV : Hid (nvF f c 8 = c / 16777216 % 256) := Lib.hid (by unfold nvF; first | (simp; done) | (simp; omega))
        go_wp2_with fail
        go_roundw
        case rel => exact ⟨q + 1, by rw [HQ.out]; rfl, by rw [HQ.out]; omega, Lib.hid (by rw [HQ.out, HS.out, HV.out]; exact hA.out.put 8 _), Lib.hid (hZ.out.far _ (by have := HG.out.2; show g4 ≠ g5; omega) _), Lib.hid (below_setCell hB.out _ _ (by have := HG.out.2; omega) _)⟩
        case measure => simp [intOf]
      · have HV : Hid (nvF f c 9 = c / 65536 % 256) := Lib.hid (by unfold nvF; first | (simp; done) | (simp; omega))
        go_wp2_with fail
        go_roundw
        case rel => exact ⟨q + 1, by rw [HQ.out]; rfl, by rw [HQ.out]; omega, Lib.hid (by rw [HQ.out, HS.out, HV.out]; exact hA.out.put 9 _), Lib.hid (hZ.out.far _ (by have := HG.out.2; show g4 ≠ g5; omega) _), Lib.hid (below_setCell hB.out _ _ (by have := HG.out.2; omega) _)⟩
        case measure => simp [intOf]
      · have HV : Hid (nvF f c 10 = c / 256 % 256) := Lib.hid (by unfold nvF; first | (simp; done) | (simp; omega))
        go_wp2_with fail
        go_roundw
        case rel => exact ⟨q + 1, by rw [HQ.out]; rfl, by rw [HQ.out]; omega, Lib.hid (by rw [HQ.out, HS.out, HV.out]; exact hA.out.put 10 _), Lib.hid (hZ.out.far _ (by have := HG.out.2; show g4 ≠ g5; omega) _), Lib.hid (below_setCell hB.out _ _ (by have := HG.out.2; omega) _)⟩
        case measure => simp [intOf]
      · have HV : Hid (nvF f c 11 = c % 256) := Lib.hid (by unfold nvF; first | (simp; done) | (simp; omega))
        go_wp2_with fail
        go_roundw
        case rel => exact ⟨q + 1, by rw [HQ.out]; rfl, by rw [HQ.out]; omega, Lib.hid (by rw [HQ.out, HS.out, HV.out]; exact hA.out.put 11 _), Lib.hid (hZ.out.far _ (by have := HG.out.2; show g4 ≠ g5; omega) _), Lib.hid (below_setCell hB.out _ _ (by have := HG.out.2; omega) _)⟩
        case measure => simp [intOf]
    · have hk' : k = 12 := by omega
      subst hk'
      obtain ⟨xs, hxs⟩ : ∃ xs, xs = nN f c 12 := ⟨_, rfl⟩
      have HL : Hid (xs.length = 12) := Lib.hid (by rw [hxs, nN_length])
      rw [← hxs] at hA ⊢
      obtain ⟨wo, hwo⟩ : ∃ wo : World, wo = wr := ⟨_, rfl⟩
      subst hwo
      have HXS := Lib.hid hxs
      clear hxs
      go_wp2_with (first
        | ((with_reducible refine gate_dst (N := 32) rfl ?_); refine load_arr rfl 125 _ rfl g5 rfl .u8 _ _ _ _ hA.out Try.underlying125 (by rw [HL.out]; kernel_rfl) ?_)
        | ((with_reducible refine gate_store (t := 125) (p := 4) rfl ?_); refine store_arr rfl 125 _ _ rfl g4 .u8 xs rfl rfl 125 _ hZ.out (by rw [HL.out]; rfl) (by rw [HL.out]; kernel_rfl) ?_; intro w6 hA6 hw6; have hB6 := below_setRow hB.out g4 (Nat.le_refl _) (nums .u8 xs).toArray; rw [← hw6] at hB6; have HA6 := Lib.hid hA6; have HB6 := Lib.hid hB6; clear hw6 hA6 hB6)
        | fail)
      exact bodyPost_ret (results_arr rfl _ _ g4 .u8 _ _ _ xs rfl HA6.out Try.underlying125 (by rw [HL.out]; kernel_rfl)) rfl ⟨by rw [HXS.out], by rw [← HG.out.1]; exact HB6.out⟩
end Go.Proofs.Ytoiiacbbfhlocaa.HCa
end
section
set_option linter.unusedVariables false
set_option linter.unusedSimpArgs false
namespace Go.Proofs.Ytoiiacbbfhlocaa.HCa
open Go.RowKit Go.Proofs.YtoiiacbbfhlocaaW.PrintWords Go.Proofs.Ytoiiacbbfhlocaa.Kit Go.Proofs.Ytoiiacbbfhlocaa.Cb
def bigL : Int → Nat → List Int
  | _, 0 => []
  | x, n + 1 => bigL (x / 256) n ++ [x % 256]
theorem bigL_length : ∀ (n : Nat) (x : Int), (bigL x n).length = n
  | 0, _ => rfl
  | n + 1, x => by simp [bigL, bigL_length n]
theorem bigL_bytes : ∀ (n : Nat) (x : Int), Bytes (bigL x n)
  | 0, _ => by intro y hy; simp [bigL] at hy
  | n + 1, x => by
    intro y hy
    rcases List.mem_append.1 hy with h | h
    · exact bigL_bytes n _ y h
    · rw [List.mem_singleton] at h
      omega
theorem nN_big (f c : Int) (hf : 0 ≤ f ∧ f < 4294967296) (hc : 0 ≤ c ∧ c < 18446744073709551616) : bigL f 4 ++ bigL c 8 = nN f c 12 := by
  obtain ⟨hf0, hf1⟩ := hf
  obtain ⟨hc0, hc1⟩ := hc
  have e : nN f c 12 = [nvF f c 0, nvF f c 1, nvF f c 2, nvF f c 3, nvF f c 4, nvF f c 5, nvF f c 6, nvF f c 7, nvF f c 8, nvF f c 9, nvF f c 10, nvF f c 11] := by unfold nN; rfl
  rw [e]
  simp only [bigL, List.nil_append, List.cons_append, List.append_assoc]
  simp only [List.cons.injEq, and_true]
  refine ⟨?_, ?_, ?_, ?_, ?_, ?_, ?_, ?_, ?_, ?_, ?_, ?_⟩ <;> (unfold nvF; simp; try omega)
end Go.Proofs.Ytoiiacbbfhlocaa.HCa
end
section
set_option linter.unusedVariables false
set_option linter.unusedSimpArgs false
namespace Go.Proofs.Ytoiiacbbfhlocaa.HCa
open Go.RowKit Go.Proofs.Ytoiiacbbfhlocaa.Kit Go.Proofs.Ytoiiacbbfhlocaa.HAa
def bg4 (q : Nat) : List Int := [(q : Int) / 16777216 % 256, (q : Int) / 65536 % 256, (q : Int) / 256 % 256, (q : Int) % 256]
def ksF (key nonce : List Int) (q : Nat) : List Int := encF key (nonce ++ bg4 q)
def xV (key nonce l : List Int) (i : Nat) : Int := Go.bits .xor .u8 (l.getD i 0) ((ksF key nonce (i / 16)).getD (i % 16) 0)
def xN (key nonce l : List Int) (m : Nat) : List Int := (List.range l.length).map fun i => if i < m then xV key nonce l i else l.getD i 0
theorem xN_length (key nonce l : List Int) (m : Nat) : (xN key nonce l m).length = l.length := by simp [xN]
theorem xN_zero (key nonce l : List Int) : xN key nonce l 0 = l := by
  refine List.ext_getElem (by simp [xN]) (fun i h1 h2 => ?_)
  simp [xN, List.getD, List.getElem?_eq_getElem h2]
theorem xN_at (key nonce l : List Int) (m : Nat) (h : m < l.length) : (xN key nonce l m).getD m 0 = l.getD m 0 := by
  simp [xN, List.getD, h]
theorem xN_succ (key nonce l : List Int) (m : Nat) (h : m < l.length) : xN key nonce l (m + 1) = (xN key nonce l m).set m (xV key nonce l m) := by
  refine List.ext_getElem (by simp [xN]) (fun i h1 h2 => ?_)
  simp only [xN, List.getElem_map, List.getElem_range, List.getElem_set]
  by_cases hik : m = i
  · subst hik
    simp
  · rw [if_neg hik]
    by_cases h3 : i < m
    · rw [if_pos h3, if_pos (by omega)]
    · rw [if_neg h3, if_neg (by omega)]
theorem xN_past (key nonce l : List Int) (m : Nat) (h : l.length ≤ m) : xN key nonce l m = xN key nonce l l.length := by
  refine List.ext_getElem (by simp [xN]) (fun i h1 h2 => ?_)
  have : i < l.length := by rw [xN_length] at h1; exact h1
  simp only [xN, List.getElem_map, List.getElem_range]
  rw [if_pos (by omega), if_pos this]
theorem set_tail (a t : List Int) (h : a.length = 12) (j : Nat) (x : Int) : (a ++ t).set (12 + j) x = a ++ t.set j x := by
  rw [List.set_append, if_neg (by omega), h, Nat.add_sub_cancel_left]
theorem encF_b (key block : List Int) (hk : Bytes key) (hb : Bytes block) : Bytes (encF key block) := by unfold encF; exact encN_b _ _ _ (keyN_b _ _ hk boxT_b _) boxT_b hb _
theorem bg4_bytes (q : Nat) : Bytes (bg4 q) := by
  intro x hx
  simp only [bg4, List.mem_cons, List.not_mem_nil, or_false] at hx
  omega
def sN (key nonce : List Int) : Nat → List Int
  | 0 => []
  | n + 1 => sN key nonce n ++ ksF key nonce n
def cN (key nonce l : List Int) (m : Nat) : List Int := (List.range m).map (xV key nonce l)
theorem cN_length (key nonce l : List Int) (m : Nat) : (cN key nonce l m).length = m := by simp [cN]
theorem cN_all (key nonce l : List Int) : cN key nonce l l.length = xN key nonce l l.length := by
  refine List.ext_getElem (by simp [cN, xN]) (fun i h1 h2 => ?_)
  rw [cN_length] at h1
  simp [cN, xN, h1]
theorem xN_get (key nonce l : List Int) (i : Nat) (h : i < l.length) : (xN key nonce l l.length).getD i 0 = xV key nonce l i := by
  simp [xN, List.getD, h]
theorem xor_back (a b : Int) (ha : Byte a) (hb : Byte b) : Go.bits .xor .u8 (Go.bits .xor .u8 a b) b = a := by
  obtain ⟨a', rfl⟩ := Int.eq_ofNat_of_zero_le ha.1
  obtain ⟨b', rfl⟩ := Int.eq_ofNat_of_zero_le hb.1
  have h1 : a' < 256 := by have := ha.2; omega
  have h2 : b' < 256 := by have := hb.2; omega
  have hx : a' ^^^ b' < 2 ^ 8 := Nat.xor_lt_two_pow h1 h2
  rw [Go.Proofs.Ytoiiacbbfhlocaa.Kit.bxor8 _ _ h1 h2, Go.Proofs.Ytoiiacbbfhlocaa.Kit.bxor8 _ _ hx h2, Nat.xor_assoc, Nat.xor_self, Nat.xor_zero]
theorem ksF_bytes (key nonce : List Int) (q : Nat) (hn : nonce.length = 12) (hkb : Bytes key) (hnb : Bytes nonce) : Bytes (ksF key nonce q) := by
  unfold ksF
  refine encF_b _ _ hkb (fun y hy => ?_)
  rcases List.mem_append.1 hy with h | h
  · exact hnb y h
  · exact bg4_bytes q y h
theorem xV_b (key nonce l : List Int) (i : Nat) (hn : nonce.length = 12) (hkb : Bytes key) (hnb : Bytes nonce) (hl : Bytes l) : Byte (xV key nonce l i) :=
  bxor_b _ _ (byte_at hl i) (byte_at (ksF_bytes key nonce _ hn hkb hnb) _)
theorem xN_bytes (key nonce l : List Int) (hn : nonce.length = 12) (hkb : Bytes key) (hnb : Bytes nonce) (hl : Bytes l) : Bytes (xN key nonce l l.length) := by
  rw [← cN_all]
  intro y hy
  unfold cN at hy
  obtain ⟨i, -, rfl⟩ := List.mem_map.1 hy
  exact xV_b key nonce l i hn hkb hnb hl
theorem xN_back (key nonce l : List Int) (hn : nonce.length = 12) (hkb : Bytes key) (hnb : Bytes nonce) (hl : Bytes l) :
    xN key nonce (xN key nonce l l.length) l.length = l := by
  refine List.ext_getElem (by rw [xN_length, xN_length]) (fun i h1 h2 => ?_)
  have e : (xN key nonce (xN key nonce l l.length) l.length)[i] = xV key nonce (xN key nonce l l.length) i := by
    have h := xN_get key nonce (xN key nonce l l.length) i (by rw [xN_length]; exact h2)
    rw [xN_length] at h
    rw [← h, List.getD_eq_getElem?_getD, List.getElem?_eq_getElem h1]
    rfl
  rw [e]
  unfold xV
  rw [xN_get _ _ _ _ h2]
  unfold xV
  rw [xor_back _ _ (byte_at hl i) (byte_at (ksF_bytes key nonce _ hn hkb hnb) _), List.getD_eq_getElem?_getD, List.getElem?_eq_getElem h2]
  rfl
end Go.Proofs.Ytoiiacbbfhlocaa.HCa
end
section
set_option linter.unusedVariables false
set_option linter.unusedSimpArgs false
namespace Go.Proofs.Ytoiiacbbfhlocaa.HCa
open Go.RowKit Go.Proofs.YtoiiacbbfhlocaaW.PrintWords Go.Proofs.YtoiiacbbfhlocaaW.PrintLast Go.Proofs.YtoiiacbbfhlocaaW.PrintMore Go.Proofs.Ytoiiacbbfhlocaa.Kit Go.Proofs.Ytoiiacbbfhlocaa.HAa
attribute [local go_sem ↓] Go.wp_at_zero Go.wp_at_succ
attribute [local irreducible] xN xV ksF encF
set_option maxHeartbeats 4000000 in
set_option maxRecDepth 100000 in
theorem code_any (key nonce : List Int) (A2 : Option Addr) (c2 : Nat) (l : List Int) (w : World) (hk : key.length = 16) (hkb : Bytes key) (hn : nonce.length = 12) (hnb : Bytes nonce) (hr : Kd.C (Kd.int .u8) w A2 l.length l) (hc : l.length ≤ c2) (hl : l.length ≤ 100000) :
    Calls Try.prog 83 #[.agg (nums .u8 key).toArray, .agg (nums .u8 nonce).toArray, .slice A2 l.length c2] w (Go.Proofs.Ytoiiacbbfhlocaa.Com.OutB w (xN key nonce l l.length)) := by
  have HR := Lib.hid hr
  have HKL := Lib.hid hk
  have HNL := Lib.hid hn
  have HKB := Lib.hid hkb
  have HNB := Lib.hid hnb
  obtain ⟨n, hnl⟩ : ∃ n, n = l.length := ⟨_, rfl⟩
  have HN := Lib.hid hnl
  rw [← hnl] at hc hl HR ⊢
  clear hr hk hn hkb hnb hnl
  go_enter Try.func83, Try.ntmps83
  go_wp2_with (first
    | ((with_reducible refine gate_dst (N := 3) rfl ?_); refine arr_new rfl 22 .u8 key (by first | (go_simp; done) | (go_simp; rfl)) ?_; intro w1 hA1 hB1; have HA1 := Lib.hid hA1; have HB1 := Lib.hid hB1; clear hA1 hB1)
    | ((with_reducible refine gate_dst (N := 4) rfl ?_); refine arr_new rfl 125 .u8 nonce (by first | (go_simp; done) | (go_simp; rfl)) ?_; intro w2 hA2 hB2; have HA2 := Lib.hid hA2; have HA12 := Lib.hid (HA1.out.next hB2); have HB2 := Lib.hid (below_next HB1.out hB2); have HR2 := Lib.hid (Kd.C_below HR.out HB2.out); clear hA2 hB2)
    | ((with_reducible refine gate_dst (N := 13) rfl ?_); refine Kd.R_lit (Kd.int .u8) (w0 := w2) w2.heap.size 5 ?hg (N := 13) ?hd (xs := ([] : List Int)) (inner := []) (ok := fun _ => True) (okp := fun _ => True) ?hr ?hp (fun _ hk => hk) trivial (Below.refl _ _) (Nat.le_refl _) (by simp) ?_; (case hd => rfl); (case hg => rfl); (case hr => first | (go_simp; done) | (go_simp; rfl)); (case hp => exact (Reps.none _ _)); intro v3 w3 ho3 hb3 hg_ hnew_; clear hg_ hnew_; have HO3 := Aside0.mk ho3; have HB3 := Aside0.mk hb3; clear ho3 hb3)
    | ((with_reducible refine gate_builtin (b := .append) (xs := #[.tmp 13, .tmp 14]) rfl ?_); at_builtin; refine Kd.R_append_rows (Kd.int .u8) (w0 := w2) w2.heap.size rfl (.tmp 13) (.tmp 14) 29 5 (.int .u8 0) 1 rfl Try.underlying29 Go.Proofs.Ytoiiacbbfhlocaa.Com.info5 rfl (by decide) (by omega) v3 [] l A2 n c2 (fun _ => True) (fun _ => False) rfl rfl HO3.out (by exact Kd.C_below HR2.out HB3.out) (fun _ _ h => h) (fun _ h => h.elim) (fun _ _ => trivial) HB3.out HB3.out.size (by simp; omega) ?_; intro v4 w4 ho4 hb4 hg4 hat4; rw [List.nil_append] at ho4; have HO4 := Lib.hid ho4; have HB4 := Lib.hid hb4; obtain ⟨A4, c4, hv4⟩ := Kd.R_slice ho4; rw [← HN.out] at hv4; subst hv4; have HA14 := Lib.hid (HA12.out.next hb4); have HA24 := Lib.hid (HA2.out.next hb4); clear ho4 hb4 hg4 hat4)
    | ((with_reducible refine gate_dst (N := 8) rfl ?_); refine alloc_arr rfl 22 rfl .u8 (List.replicate 16 0) (fun w => Try.zeroValue22 w) (by first | (go_simp; done) | (go_simp; rfl)) ?_; intro w5 hA5 hB5; have HA5 := Lib.hid hA5; have HA15 := Lib.hid (HA14.out.next hB5); have HA25 := Lib.hid (HA24.out.next hB5); have HO5 := Lib.hid (Kd.R_below HO4.out hB5); have HB45 := Lib.hid hB5; have HB5 := Lib.hid (below_next HB4.out hB5); clear hA5 hB5)
    | fail)
  have hown : n = 0 ∨ ∃ g, A4 = some ⟨g, 0, none⟩ ∧ w2.heap.size ≤ g ∧ g < w4.heap.size := by
    obtain ⟨inner, ho⟩ := Kd.R_own HO4.out
    rcases ho.2 with ⟨hv, _⟩ | ⟨g, cap, cur, hv, hbg, hh, _⟩
    · injection hv with h1 h2
      exact Or.inl h2
    · injection hv with h1 h2
      exact Or.inr ⟨g, h1, hbg, (Array.getElem?_eq_some_iff.1 hh).1⟩
  have hg1 : w.heap.size < w1.heap.size := HA1.out.lt
  have hg2 : w1.heap.size < w2.heap.size := HA2.out.lt
  have hg4 : w2.heap.size ≤ w4.heap.size := HB4.out.size
  have hcp := fun ty => copy_arr (P := Try.prog) w5.drew 29 29 ty 5 w4.heap.size 0 16 16 w1.heap.size 0 12 12 12 _ _ HA5.out.drew HA25.out.drew Try.underlying29 (by kernel_rfl) rfl (by simp) (by rw [HNL.out]; omega)
  have HBw : Hid (Below w.heap.size w w2) := HB2
  generalize hg8 : w4.heap.size = g8 at *
  have HG8 := Lib.hid hg8
  generalize hgn : w1.heap.size = gn at *
  generalize hgk : w.heap.size = gk at *
  obtain ⟨g2, hG2⟩ : ∃ g2, g2 = w2.heap.size := ⟨_, rfl⟩
  rw [← hG2] at hg2 hg4 HB5 HO5 HB3 HO3 HO4 HB4 hown
  have HOWN := Lib.hid hown
  have HG2 := Lib.hid hG2
  have HGK := Lib.hid hgk
  clear hG2 hgk hgn hg8 hown
  go_region
  go_wp2_with fail
  have hnt : nonce.take 12 = nonce := List.take_of_length_le (by rw [HNL.out]; omega)
  (try rw [List.drop_zero]); (try rw [hnt])
  have HA6 : Hid (Arr .u8 22 (w5.drew.setCells g8 0 (nums .u8 nonce)) g8 (nonce ++ [0, 0, 0, 0])) := Lib.hid (by
    have h := HA5.out.drew.cells nonce 0 (by rw [HNL.out]; simp)
    have e : (List.replicate 16 (0 : Int)).take 0 ++ nonce ++ (List.replicate 16 (0 : Int)).drop (0 + nonce.length) = nonce ++ [0, 0, 0, 0] := by rw [HNL.out]; rfl
    rwa [e] at h)
  have HK6 : Hid (Arr .u8 22 (w5.drew.setCells g8 0 (nums .u8 nonce)) gk key) := Lib.hid (Arr.sets_far (w := w5) (by omega) _ _ HA15.out.drew)
  have HB46 : Below w4.heap.size w4 (w5.drew.setCells g8 0 (nums .u8 nonce)) := by
    rw [HG8.out]
    exact below_sets (Nat.le_refl _) _ _ (below_drew (by have h := HB45.out; exact h))
  have HO6 := Lib.hid (Kd.R_below HO4.out HB46)
  have HB6 : Hid (Below gk w (w5.drew.setCells g8 0 (nums .u8 nonce))) := Lib.hid (below_sets (by omega) _ _ (below_drew ((HB2.out).trans (HB5.out.mono (by omega)))))
  generalize w5.drew.setCells g8 0 (nums .u8 nonce) = w6 at *
  clear hcp HA5 HA2 HA24 HA25 HA1 HB1 HA12 HB2 HA14 HA15 HBw HB4 HO4 HO3 HB3 HO5 HB5 HB46 HB45 hnt HR2
  go_loopw [9] (fun iv wr => ∃ (q : Nat) (t : List Int), iv = .int .i64 ((16 * q : Nat) : Int) ∧ 16 * q ≤ n + 16 ∧ t.length = 4 ∧ Hid (Kd.R (Kd.int .u8) 5 wr g2 (fun _ => True) (.slice A4 n c4) (xN key nonce l (16 * q))) ∧ Hid (Arr .u8 22 wr g8 (nonce ++ t)) ∧ Hid (Arr .u8 22 wr gk key) ∧ Hid (Below gk w wr)) (fun iv _ => n + 16 - (intOf iv).toNat)
  case atStart => exact ⟨0, [0, 0, 0, 0], rfl, by omega, rfl, Lib.hid (by rw [Nat.mul_zero, xN_zero]; exact HO6.out), HA6, HK6, HB6⟩
  case round =>
    clear HA6 HK6 HO6 HB6
    obtain ⟨q, t, rfl, hq, ht, hO, hA, hK, hB⟩ := hrel
    by_cases hqn : 16 * q < n
    · obtain ⟨wo, hwo⟩ : ∃ wo : World, wo = wr := ⟨_, rfl⟩
      subst hwo
      have hdv : ((16 * q : Nat) : Int) / 16 = (q : Int) := by omega
      obtain ⟨i0, hi0⟩ : ∃ i0, i0 = 16 * q := ⟨_, rfl⟩
      rw [← hi0] at hdv hqn hq hO ⊢
      have HI := Lib.hid hi0
      have hlen : (nonce ++ t).length = 16 := by rw [List.length_append, HNL.out, ht]
      have hc12 := hA.out.cellN 12 (by rw [hlen]; omega)
      have hc13 := hA.out.cellN 13 (by rw [hlen]; omega)
      have hc14 := hA.out.cellN 14 (by rw [hlen]; omega)
      have hc15 := hA.out.cellN 15 (by rw [hlen]; omega)
      have hf12 := hA.out.free 12
      have hf13 := hA.out.free 13
      have hf14 := hA.out.free 14
      have hf15 := hA.out.free 15
      have hq9 : q ≤ 6300 := by omega
      have hset : ((((nonce ++ t).set 12 ((q : Int) / 16777216)).set 13 ((q : Int) / 65536)).set 14 ((q : Int) / 256)).set 15 ((q : Int) % 256) = nonce ++ bg4 q := by
        have h12 := HNL.out
        match t, ht with
        | [t0, t1, t2, t3], _ =>
          have e0 : ∀ x : Int, (nonce ++ [t0, t1, t2, t3]).set 12 x = nonce ++ [x, t1, t2, t3] := fun x => set_tail nonce _ h12 0 x
          have e1 : ∀ a x : Int, (nonce ++ [a, t1, t2, t3]).set 13 x = nonce ++ [a, x, t2, t3] := fun a x => set_tail nonce _ h12 1 x
          have e2 : ∀ a b x : Int, (nonce ++ [a, b, t2, t3]).set 14 x = nonce ++ [a, b, x, t3] := fun a b x => set_tail nonce _ h12 2 x
          have e3 : ∀ a b c x : Int, (nonce ++ [a, b, c, t3]).set 15 x = nonce ++ [a, b, c, x] := fun a b c x => set_tail nonce _ h12 3 x
          rw [e0, e1, e2, e3]
          unfold bg4
          rw [show (q : Int) / 16777216 % 256 = (q : Int) / 16777216 from by omega, show (q : Int) / 65536 % 256 = (q : Int) / 65536 from by omega, show (q : Int) / 256 % 256 = (q : Int) / 256 from by omega]
      have hne : gk ≠ g8 := by omega
      have hty : ∀ z, z ∈ 5 :: (Kd.int .u8).E → z ≠ 22 := by decide
      have HA7 := Lib.hid ((((hA.out.put 12 ((q : Int) / 16777216)).put 13 ((q : Int) / 65536)).put 14 ((q : Int) / 256)).put 15 ((q : Int) % 256))
      rw [hset] at HA7
      have HK7 := Lib.hid ((((hK.out.far ⟨g8, 12, none⟩ hne (.int .u8 ((q : Int) / 16777216))).far ⟨g8, 13, none⟩ hne (.int .u8 ((q : Int) / 65536))).far ⟨g8, 14, none⟩ hne (.int .u8 ((q : Int) / 256))).far ⟨g8, 15, none⟩ hne (.int .u8 ((q : Int) % 256)))
      have HB7 := Lib.hid (below_setCell (below_setCell (below_setCell (below_setCell hB.out g8 12 (by omega) (.int .u8 ((q : Int) / 16777216))) g8 13 (by omega) (.int .u8 ((q : Int) / 65536))) g8 14 (by omega) (.int .u8 ((q : Int) / 256))) g8 15 (by omega) (.int .u8 ((q : Int) % 256)))
      have HO7 := Lib.hid (Kd.R_set (Kd.R_set (Kd.R_set (Kd.R_set hO.out hA.out.out hty 12 (.int .u8 ((q : Int) / 16777216))) (hA.out.put 12 ((q : Int) / 16777216)).out hty 13 (.int .u8 ((q : Int) / 65536))) ((hA.out.put 12 ((q : Int) / 16777216)).put 13 ((q : Int) / 65536)).out hty 14 (.int .u8 ((q : Int) / 256))) (((hA.out.put 12 ((q : Int) / 16777216)).put 13 ((q : Int) / 65536)).put 14 ((q : Int) / 256)).out hty 15 (.int .u8 ((q : Int) % 256)))
      have HBL : Hid ((nonce ++ bg4 q).length = 16) := Lib.hid (by rw [List.length_append, HNL.out]; rfl)
      have HBB : Hid (Bytes (nonce ++ bg4 q)) := Lib.hid (by
        intro y hy
        rcases List.mem_append.1 hy with h | h
        · exact HNB.out y h
        · simp only [bg4, List.mem_cons, List.not_mem_nil, or_false] at h
          omega)
      clear hi0 hlen ht hset hne hty
      go_wp2_with (first
        | ((with_reducible refine gate_dst (N := 43) rfl ?_); refine load_arr rfl 22 _ rfl gk rfl .u8 _ _ _ _ HK7.out Try.underlying22 (by rw [HKL.out]; kernel_rfl) ?_)
        | ((with_reducible refine gate_dst (N := 44) rfl ?_); refine load_arr rfl 22 _ rfl g8 rfl .u8 _ _ _ _ HA7.out Try.underlying22 (by rw [HBL.out]; kernel_rfl) ?_)
        | fail)
      refine (encrypt_any key (nonce ++ bg4 q) _ HKL.out HBL.out HKB.out HBB.out).mono ?_
      rintro e w8 ⟨rfl, hB8⟩
      obtain ⟨ks, hks⟩ : ∃ ks, ks = ksF key nonce q := ⟨_, rfl⟩
      have hks' : encF key (nonce ++ bg4 q) = ks := by rw [hks]; unfold ksF; rfl
      have HKSL : Hid (ks.length = 16) := Lib.hid (by rw [← hks']; unfold encF; rw [encN_length, HBL.out])
      rw [hks']
      have HKS := Lib.hid hks
      have HO8 := Lib.hid (Kd.R_below HO7.out hB8)
      have HA8 := Lib.hid (HA7.out.next hB8)
      have HK8 := Lib.hid (HK7.out.next hB8)
      have HB8 := Lib.hid (HB7.out.trans (hB8.mono (Nat.le_of_lt HK7.out.lt)))
      clear hks hks' hB8 HO7 HA7 HK7 HB7 hO hA hK hB
      go_wp2_with fail
      go_loopw [46] (fun jv wq => ∃ j : Nat, jv = .int .i64 j ∧ j ≤ 16 ∧ Hid (Kd.R (Kd.int .u8) 5 wq g2 (fun _ => True) (.slice A4 n c4) (xN key nonce l (i0 + j))) ∧ Hid (Arr .u8 22 wq g8 (nonce ++ bg4 q)) ∧ Hid (Arr .u8 22 wq gk key) ∧ Hid (Below gk w wq)) (fun jv _ => 16 - (intOf jv).toNat)
      case atStart => exact ⟨0, rfl, by omega, HO8, HA8, HK8, HB8⟩
      case round =>
        clear HO8 HA8 HK8 HB8
        obtain ⟨j, rfl, hj, hO, hA, hK, hB⟩ := hrel
        by_cases hj16 : j < 16
        · have hix := Go.Proofs.Ytoiiacbbfhlocaa.Kit.index_nums (P := Try.prog) 22 5 16 .u8 ks j Try.underlying22 Try.underlying5 (by kernel_rfl) HKSL.out hj16
          by_cases hin : i0 + j < n
          · obtain ⟨g, hA4, hg2g, hgg8⟩ : ∃ g, A4 = some ⟨g, 0, none⟩ ∧ g2 ≤ g ∧ g < g8 := by
              rcases HOWN.out with h | h
              · omega
              · exact h
            subst hA4
            have hcs := (Kd.R_reads' hO.out).2.2
            rw [xN_length, ← HN.out] at hcs
            obtain ⟨b, off, e1, hcell⟩ := C_cells hcs (by omega)
            have hx := hcell (i0 + j) hin
            injection e1 with e1
            injection e1 with e1 e2
            subst e1 e2
            rw [Nat.zero_add, xN_at _ _ _ _ (by rw [← HN.out]; exact hin)] at hx
            obtain ⟨y, hy⟩ : ∃ y, y = l.getD (i0 + j) 0 := ⟨_, rfl⟩
            obtain ⟨z, hz⟩ : ∃ z, z = ks.getD j 0 := ⟨_, rfl⟩
            rw [← hy] at hx
            rw [← hz] at hix
            have HV : Hid (xV key nonce l (i0 + j) = Go.bits .xor .u8 y z) := Lib.hid (by
              unfold xV
              rw [show (i0 + j) / 16 = q from by rw [HI.out]; omega, show (i0 + j) % 16 = j from by rw [HI.out]; omega, ← HKS.out, ← hy, ← hz])
            have HXN := Lib.hid (xN_succ key nonce l (i0 + j) (by rw [← HN.out]; exact hin))
            have h1 : (0 : Int) ≤ (i0 : Int) + (j : Int) := by omega
            have h2 : (i0 : Int) + (j : Int) < (n : Int) := by omega
            have h3 : ((i0 : Int) + (j : Int)).toNat = i0 + j := by omega
            have h4 : wrap64 ((i0 : Int) + (j : Int)) = (i0 : Int) + (j : Int) := by unfold wrap64; omega
            have hfz := (Kd.R_celln (0 : Int) hO.out ((i0 + j : Nat) : Int) (Int.natCast_nonneg _) (Int.ofNat_lt.2 hin)).2
            rw [Int.toNat_natCast] at hfz
            clear hcs hcell hy hz
            go_wp2_with fail
            go_roundw
            case rel => exact ⟨j + 1, by go_num, by omega, Lib.hid (by rw [← Nat.add_assoc, HXN.out, HV.out]; exact Kd.R_putn hO.out ((i0 + j : Nat) : Int) _), Lib.hid (hA.out.far _ (by show g8 ≠ g; omega) _), Lib.hid (hK.out.far _ (by show gk ≠ g; omega) _), Lib.hid (below_setCell hB.out _ _ (by omega) _)⟩
            case measure => simp [intOf]; omega
          · have hp : xN key nonce l (i0 + (j + 1)) = xN key nonce l (i0 + j) := by
              rw [xN_past _ _ _ (i0 + (j + 1)) (by rw [← HN.out]; omega), ← xN_past _ _ _ (i0 + j) (by rw [← HN.out]; omega)]
            have HP := Lib.hid hp
            clear hp
            go_wp2_with fail
            go_roundw
            case rel => exact ⟨j + 1, by go_num, by omega, Lib.hid (by rw [HP.out]; exact hO.out), hA, hK, hB⟩
            case measure => simp [intOf]; omega
        · have hj' : j = 16 := by omega
          subst hj'
          go_wp2_with fail
          go_roundw
          case rel => exact ⟨q + 1, bg4 q, by first | go_num | (rw [HI.out]; go_num), by have := HI.out; omega, rfl, Lib.hid (by have h := hO.out; rw [HI.out] at h; exact h), hA, hK, hB⟩
          case measure => have := HI.out; simp [intOf]; omega
    · go_wp2_with fail
      go_ret
      exact ⟨_, rfl, Kd.R_lower (by have h := hO.out; rw [xN_past _ _ _ _ (by rw [← HN.out]; omega), ← HN.out] at h; exact h) (by rw [HGK.out]; omega), by have h := hB.out; rw [← HGK.out] at h; exact h⟩
end Go.Proofs.Ytoiiacbbfhlocaa.HCa
end
