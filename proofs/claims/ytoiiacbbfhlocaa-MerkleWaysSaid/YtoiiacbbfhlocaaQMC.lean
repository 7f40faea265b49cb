/- Texts of this claim, laid together by a program of this session (wip/tools/pack3.py); the print's own words among them are those that print.sh OWN=1 lays for the claim, as far as they are named. -/
import Derived.Test.YtoiiacbbfhlocaaProg
import Derived.Below
import Derived.Deep.Draws
import Derived.Deep.AppendLies
import Derived.Maps.AppendAt
import Derived.OwnWalk
import Derived.Laws.BytesArg
import Derived.Laws.MakeOwn
import Derived.Laws.OwnMore
import Derived.Deep.OwnRows
import Derived.Tactics
import Derived.Lib.ConvBytes
import Derived.Laws.Slices
import Derived.WalkKit
import Derived.KernelRfl
import Derived.RowKit3
import Derived.Deep.LoopGhost
import Derived.Deep.QuietTactic
import Derived.BigQuiet
import Derived.WideLaws
import Derived.Deep.DeepCutAuto
import Derived.Deep.CutBlock
import Derived.Deep.RegionHeld3
import Derived.Laws.Rows
import Derived.Lib.AppendStr
import Derived.ArgAppend
import Derived.Laws.IdiomCopy
import Derived.OrdersHeld
import Derived.Laws.BitsLemmas
import Derived.RowKit
import Derived.IntWalk
import Derived.Laws.Bits64
import Derived.Laws.BitsAllLaws
import Derived.Test.YtoiiacbbfhlocaaQMA
import Derived.Test.YtoiiacbbfhlocaaQMB
section
namespace Go.Proofs.Ytoiiacbbfhlocaa.Sa
open Go.RowKit Go.Proofs.YtoiiacbbfhlocaaW.PrintWords Go.Proofs.YtoiiacbbfhlocaaW.PrintLast Go.Proofs.YtoiiacbbfhlocaaW.PrintMore
attribute [local go_sem] max2_int min2_int max_two min_two max_three min_three max_four min_four   -- for this text's walks alone
set_option linter.unusedVariables false
set_option linter.unusedSimpArgs false
/-! ### padlockref01_Come: function 126 -/
mutual
def padlockref01_Come.l0 : Nat → List Int → List Int → List Int → List Int → Int → Option (List Int)
  | 0, _, _, _, _, _ => none
  | k + 1, x0, x2, x7, x8, x9 => if x9 < 64 then (if 4 < (x8.length : Int) then (if 0 < (x8.length : Int) then (if 7 < (x8.length : Int) then ((padlockref01_Turn.f k (rd x8 4) 6).bind fun t196 => ((padlockref01_Turn.f k (rd x8 4) 11).bind fun t197 => ((padlockref01_Turn.f k (rd x8 4) 25).bind fun t198 => (if 5 < (x8.length : Int) then (if 6 < (x8.length : Int) then (if 0 ≤ x9 then (if x9 < (x2.length : Int) then (if x9 < (x7.length : Int) then ((padlockref01_Turn.f k (rd x8 0) 2).bind fun t203 => ((padlockref01_Turn.f k (rd x8 0) 13).bind fun t204 => ((padlockref01_Turn.f k (rd x8 0) 22).bind fun t205 => (if 1 < (x8.length : Int) then (if 2 < (x8.length : Int) then (if 3 < (x8.length : Int) then (padlockref01_Come.l0 k x0 x2 x7 (([((((((((((rd x8 7) + (Go.bits .xor .u32 (Go.bits .xor .u32 t196 t197) t198)) % 4294967296) + (Go.bits .xor .u32 (Go.bits .and .u32 (rd x8 4) (rd x8 5)) (Go.bits .and .u32 ((4294967295 - (rd x8 4)) % 4294967296) (rd x8 6)))) % 4294967296) + (rd x2 x9)) % 4294967296) + (rd x7 x9)) % 4294967296) + (((Go.bits .xor .u32 (Go.bits .xor .u32 t203 t204) t205) + (Go.bits .xor .u32 (Go.bits .xor .u32 (Go.bits .and .u32 (rd x8 0) (rd x8 1)) (Go.bits .and .u32 (rd x8 0) (rd x8 2))) (Go.bits .and .u32 (rd x8 1) (rd x8 2)))) % 4294967296)) % 4294967296, rd x8 0, rd x8 1, rd x8 2, ((rd x8 3) + (((((((((rd x8 7) + (Go.bits .xor .u32 (Go.bits .xor .u32 t196 t197) t198)) % 4294967296) + (Go.bits .xor .u32 (Go.bits .and .u32 (rd x8 4) (rd x8 5)) (Go.bits .and .u32 ((4294967295 - (rd x8 4)) % 4294967296) (rd x8 6)))) % 4294967296) + (rd x2 x9)) % 4294967296) + (rd x7 x9)) % 4294967296)) % 4294967296, rd x8 4, rd x8 5, rd x8 6] : List Int)) (wrap64 (x9 + 1))) else (none)) else (none)) else (none))))) else (none)) else (none)) else (none)) else (none)) else (none))))) else (none)) else (none)) else (none)) else (padlockref01_Come.l1 k x0 x8 ([] : List Int) 0)
def padlockref01_Come.l1 : Nat → List Int → List Int → List Int → Int → Option (List Int)
  | 0, _, _, _, _ => none
  | k + 1, x0, x8, x14, x15 => if x15 < 8 then (if 0 ≤ x15 then (if x15 < (x0.length : Int) then (if x15 < (x8.length : Int) then (if x14.length < 35184372088832 then (padlockref01_Come.l1 k x0 x8 (x14 ++ [((rd x0 x15) + (rd x8 x15)) % 4294967296]) (wrap64 (x15 + 1))) else (none)) else (none)) else (none)) else (none)) else (some x14)
end
def padlockref01_Come.f (k : Nat) (l0 : List Int) (l1 : List Int) (l2 : List Int) : Option (List Int) := (padlockref01_Words.f k l1).bind fun t184 => ((some (([] : List Int) : List Int)).bind fun y187 => (if y187.length + l0.length < 35184372088832 then (padlockref01_Come.l0 k l0 l2 t184 (y187 ++ l0) 0) else (none)))
theorem padlockref01_Come.mono_l : ∀ k, (∀ y0 y1 y2 y3 y4, LeO (padlockref01_Come.l0 k y0 y1 y2 y3 y4) (padlockref01_Come.l0 (k + 1) y0 y1 y2 y3 y4)) ∧ (∀ y0 y1 y2 y3, LeO (padlockref01_Come.l1 k y0 y1 y2 y3) (padlockref01_Come.l1 (k + 1) y0 y1 y2 y3))
  | 0 => ⟨fun _ _ _ _ _ r h => by simp [padlockref01_Come.l0] at h, fun _ _ _ _ r h => by simp [padlockref01_Come.l1] at h⟩
  | k + 1 => by
    obtain ⟨ih0, ih1⟩ := padlockref01_Come.mono_l k
    refine ⟨?_, ?_⟩
    · intro y0 y1 y2 y3 y4
      unfold padlockref01_Come.l0
      repeat' first
      | (with_reducible exact ih0 _ _ _ _ _)
      | (with_reducible exact ih1 _ _ _ _)
      | (with_reducible exact padlockref01_Turn.mono _ _ _)
      | (with_reducible exact padlockref01_Words.mono _ _)
      | (with_reducible exact LeO.refl _)
      | (with_reducible exact LeO.none _)
      | (with_reducible refine LeO.ite ?_ ?_)
      | (with_reducible refine LeO.bind ?_ (fun _ => ?_))
      | exact ih0 _ _ _ _ _
      | exact ih1 _ _ _ _
      | exact padlockref01_Turn.mono _ _ _
      | exact padlockref01_Words.mono _ _
      | exact LeO.none _
      | refine LeO.ite ?_ ?_
      | refine LeO.bind ?_ (fun _ => ?_)
    · intro y0 y1 y2 y3
      unfold padlockref01_Come.l1
      repeat' first
      | (with_reducible exact ih0 _ _ _ _ _)
      | (with_reducible exact ih1 _ _ _ _)
      | (with_reducible exact padlockref01_Turn.mono _ _ _)
      | (with_reducible exact padlockref01_Words.mono _ _)
      | (with_reducible exact LeO.refl _)
      | (with_reducible exact LeO.none _)
      | (with_reducible refine LeO.ite ?_ ?_)
      | (with_reducible refine LeO.bind ?_ (fun _ => ?_))
      | exact ih0 _ _ _ _ _
      | exact ih1 _ _ _ _
      | exact padlockref01_Turn.mono _ _ _
      | exact padlockref01_Words.mono _ _
      | exact LeO.none _
      | refine LeO.ite ?_ ?_
      | refine LeO.bind ?_ (fun _ => ?_)
theorem padlockref01_Come.mono : ∀ a0 a1 a2 k, LeO (padlockref01_Come.f k a0 a1 a2) (padlockref01_Come.f (k + 1) a0 a1 a2) := by
  intro a0 a1 a2 k
  obtain ⟨ih0, ih1⟩ := padlockref01_Come.mono_l k
  unfold padlockref01_Come.f
  repeat' first
      | (with_reducible exact ih0 _ _ _ _ _)
      | (with_reducible exact ih1 _ _ _ _)
      | (with_reducible exact padlockref01_Turn.mono _ _ _)
      | (with_reducible exact padlockref01_Words.mono _ _)
      | (with_reducible exact LeO.refl _)
      | (with_reducible exact LeO.none _)
      | (with_reducible refine LeO.ite ?_ ?_)
      | (with_reducible refine LeO.bind ?_ (fun _ => ?_))
      | exact ih0 _ _ _ _ _
      | exact ih1 _ _ _ _
      | exact padlockref01_Turn.mono _ _ _
      | exact padlockref01_Words.mono _ _
      | exact LeO.none _
      | refine LeO.ite ?_ ?_
      | refine LeO.bind ?_ (fun _ => ?_)
def padlockref01_Come.T8 : Bool × List (List Nat × List Nat) := (true, [([], []), ([0], [0]), ([1], [1]), ([], []), ([3], [3]), ([], []), ([5, 4], [5]), ([4, 6], [4, 6]), ([], []), ([8, 6], [8]), ([7, 9], [7, 9]), ([2, 10], [2, 10]), ([], []), ([], []), ([13], [13]), ([14], [14]), ([12, 15], [12, 15]), ([], []), ([17], [17]), ([], []), ([19], [19]), ([20], [20]), ([18, 21], [18, 21]), ([16, 22], [16, 22]), ([11, 23], [11, 23]), ([], []), ([], []), ([25, 26], [25, 26]), ([27], [27]), ([24, 28], [24, 28]), ([], []), ([], []), ([30, 31], [30, 31]), ([32], [32]), ([29, 33], [29, 33]), ([34, 9, 0, 1, 2, 3, 4, 5, 6, 7, 8, 9, 10, 11, 12, 13, 14, 15, 16, 17, 18, 19, 20, 21, 22, 23, 24, 25, 26, 27, 28, 29, 30, 31, 32, 33, 34], [34])])
def padlockref01_Come.B8 : List Nat := [0, 1, 3, 0, 8, 0, 56, 120, 0, 376, 1016, 2047, 0, 0, 8192, 24576, 61440, 0, 131072, 0, 524288, 1572864, 4063232, 8384512, 16777215, 0, 0, 100663296, 234881024, 536870911, 0, 0, 3221225472, 7516192768, 17179869183, 34359738367]
theorem padlockref01_Come.tab8 : rtab .any (opsOf Try.f126 8) = padlockref01_Come.T8 := by kernel_rfl
theorem padlockref01_Come.bits8 : waitsOk padlockref01_Come.T8.2 padlockref01_Come.B8 = true := by kernel_rfl
def padlockref01_Come.T9 : Bool × List (List Nat × List Nat) := (true, [([], []), ([0], [0]), ([], []), ([2, 1], [2]), ([1, 3], [1, 3]), ([], []), ([5, 3], [5]), ([4, 6], [4, 6]), ([], []), ([], []), ([9], [9]), ([10], [10]), ([8, 11], [8, 11]), ([], []), ([], []), ([14], [14]), ([15], [15]), ([13, 16], [13, 16]), ([12, 17], [12, 17]), ([], []), ([19], [19]), ([20], [20]), ([], []), ([22], [22]), ([23], [23]), ([21, 24], [21, 24]), ([18, 25], [18, 25]), ([7, 26], [7, 26]), ([27, 6, 0, 1, 2, 3, 4, 5, 6, 7, 8, 9, 10, 11, 12, 13, 14, 15, 16, 17, 18, 19, 20, 21, 22, 23, 24, 25, 26, 27], [27])])
def padlockref01_Come.B9 : List Nat := [0, 1, 0, 7, 15, 0, 47, 127, 0, 0, 512, 1536, 3840, 0, 0, 16384, 49152, 122880, 261888, 0, 524288, 1572864, 0, 4194304, 12582912, 33030144, 67108608, 134217727, 268435455]
theorem padlockref01_Come.tab9 : rtab .any (opsOf Try.f126 9) = padlockref01_Come.T9 := by kernel_rfl
theorem padlockref01_Come.bits9 : waitsOk padlockref01_Come.T9.2 padlockref01_Come.B9 = true := by kernel_rfl
def padlockref01_Come.T10 : Bool × List (List Nat × List Nat) := (true, [([], []), ([], []), ([0, 1], [0, 1]), ([], []), ([3], [3]), ([4], [4]), ([], []), ([6], [6]), ([7], [7]), ([], []), ([9], [9]), ([10], [10]), ([], []), ([12], [12]), ([13], [13]), ([], []), ([14, 15], [14, 15]), ([], []), ([17], [17]), ([18], [18]), ([], []), ([20], [20]), ([21], [21]), ([], []), ([23], [23]), ([24], [24]), ([2, 5, 8, 11, 16, 19, 22, 25], [2, 5, 8, 11, 16, 19, 22, 25]), ([26, 0, 1, 2, 3, 4, 5, 6, 7, 8, 9, 10, 11, 12, 13, 14, 15, 16, 17, 18, 19, 20, 21, 22, 23, 24, 25, 26], [3, 6, 9, 12, 17, 20, 23, 26])])
def padlockref01_Come.B10 : List Nat := [0, 0, 3, 0, 8, 24, 0, 64, 192, 0, 512, 1536, 0, 4096, 12288, 0, 61440, 0, 131072, 393216, 0, 1048576, 3145728, 0, 8388608, 25165824, 67108863, 134217727]
theorem padlockref01_Come.tab10 : rtab .any (opsOf Try.f126 10) = padlockref01_Come.T10 := by kernel_rfl
theorem padlockref01_Come.bits10 : waitsOk padlockref01_Come.T10.2 padlockref01_Come.B10 = true := by kernel_rfl
def padlockref01_Come.T15 : Bool × List (List Nat × List Nat) := (true, [([], []), ([], []), ([], []), ([1, 2], [1, 2]), ([3], [3]), ([], []), ([], []), ([5, 6], [5, 6]), ([7], [7]), ([4, 8], [4, 8]), ([9], [9]), ([0, 10], [0, 10]), ([11, 11, 0, 1, 2, 3, 4, 5, 6, 7, 8, 9, 10, 11], [0, 11])])
def padlockref01_Come.B15 : List Nat := [0, 0, 0, 6, 14, 0, 0, 96, 224, 510, 1022, 2047, 4095]
theorem padlockref01_Come.tab15 : rtab .any (opsOf Try.f126 15) = padlockref01_Come.T15 := by kernel_rfl
theorem padlockref01_Come.bits15 : waitsOk padlockref01_Come.T15.2 padlockref01_Come.B15 = true := by kernel_rfl
set_option maxHeartbeats 8000000 in
set_option maxRecDepth 100000 in
theorem padlockref01_Come.calls (k : Nat) (A0 : Option Addr) (c0 : Nat) (l0 : List Int) (A1 : Option Addr) (c1 : Nat) (l1 : List Int) (A2 : Option Addr) (c2 : Nat) (l2 : List Int) (r : List Int) (w : World) (hr0 : Kd.C (Kd.int .u32) w A0 l0.length l0) (hc0 : l0.length ≤ c0) (hr1 : Kd.C (Kd.int .u8) w A1 l1.length l1) (hc1 : l1.length ≤ c1) (hr2 : Kd.C (Kd.int .u32) w A2 l2.length l2) (hc2 : l2.length ≤ c2) (h : padlockref01_Come.f k l0 l1 l2 = some r) :
    Calls Try.prog 126 #[.slice A0 l0.length c0, .slice A1 l1.length c1, .slice A2 l2.length c2] w fun e w' => ∃ v0_ : Value, e = .returned (v0_) ∧ Kd.R (Kd.int .u32) 179 w' w.heap.size (fun _ => True) v0_ r ∧ Below w.heap.size w w' := by
  have HR0 := Aside0.mk hr0
  have HC0 := Aside0.mk hc0
  clear hr0 hc0
  have HR1 := Aside0.mk hr1
  have HC1 := Aside0.mk hc1
  clear hr1 hc1
  have HR2 := Aside0.mk hr2
  have HC2 := Aside0.mk hc2
  clear hr2 hc2
  have HB := Aside0.mk (Below.refl w.heap.size w)
  have H : ((padlockref01_Words.f k l1).bind fun t184 => ((some (([] : List Int) : List Int)).bind fun y187 => (if y187.length + l0.length < 35184372088832 then (padlockref01_Come.l0 k l0 l2 t184 (y187 ++ l0) 0) else (none)))) = some r := h
  clear h
  replace H := Option.bind_eq_some_iff.mp H
  obtain ⟨t184, A40, H⟩ := H
  replace H : ((some (([] : List Int) : List Int)).bind fun y187 => (if y187.length + l0.length < 35184372088832 then (padlockref01_Come.l0 k l0 l2 t184 (y187 ++ l0) 0) else (none))) = some r := H
  have A4 := Aside0.mk A40
  clear A40
  obtain ⟨y187, hy187⟩ : ∃ y_ : List Int, y_ = (([] : List Int)) := ⟨_, rfl⟩
  replace H : (if y187.length + l0.length < 35184372088832 then (padlockref01_Come.l0 k l0 l2 t184 (y187 ++ l0) 0) else (none)) = some r := by first | (rw [hy187]; with_reducible exact H) | (have H2_ := (Option.bind_some _ _).symm.trans H; rw [hy187]; with_reducible exact H2_) | (have H2_ := (Option.bind_some _ _).symm.trans H; with_reducible exact H2_) | with_reducible exact H | (rw [hy187]; exact H) | exact H
  have Ny187 := Aside0.mk hy187
  clear hy187
  by_cases c5 : y187.length + l0.length < 35184372088832
  · rw [if_pos c5] at H
    have LMc5 := Aside0.mk c5
    clear c5
    obtain ⟨y190, hy190⟩ : ∃ y_ : List Int, y_ = (y187 ++ l0) := ⟨_, rfl⟩
    replace H : (padlockref01_Come.l0 k l0 l2 t184 y190 0) = some r := by first | (rw [hy190]; with_reducible exact H) | (have H2_ := (Option.bind_some _ _).symm.trans H; rw [hy190]; with_reducible exact H2_) | (have H2_ := (Option.bind_some _ _).symm.trans H; with_reducible exact H2_) | with_reducible exact H | (rw [hy190]; exact H) | exact H
    have Ny190 := Aside0.mk hy190
    clear hy190
    have H' := Aside0.mk H
    clear H
    go_enter Try.func126, Try.ntmps126
    go_wp2_with (first | ((with_reducible refine gate_callee (f := 140) rfl ?_); refine goesL_ (some 17) rfl rfl Try.func140 (by kernel_rfl) rfl #[.slice A1 l1.length c1] rfl (by (try simp only [List.map_toArray, List.map_cons, List.map_nil]); first | done | rfl | (simp only [List.length_drop, List.length_take]; rfl)) ?_; (with_reducible refine (padlockref01_Words.calls k _ _ l1 t184 _ ?side1 ?side2 A4.out).mono ?_); (case side1 => repeat (first | exact HR1.out | (with_reducible refine Kd.C_alloc ?_ _) | (with_reducible refine Kd.C_drewN ?_ _) | (with_reducible refine Kd.C_drew ?_))); (case side2 => exact HC1.out); rintro e w6 ⟨v185, rfl, ho0, hb⟩; refine ⟨_, rfl, ?_⟩; have n0_ := Aside0.mk (Kd.R_lower ho0 (below_size (by repeat (first | (with_reducible first | exact HB.out | apply below_alloc | apply pw_below_drewN | apply below_drew1) | exact HB.out)))); have n1_ := Aside0.mk (below_step (by repeat (first | (with_reducible first | exact HB.out | apply below_alloc | apply pw_below_drewN | apply below_drew1) | exact HB.out)) hb); clear HB; have HO186 := n0_; have HB := n1_; clear n0_ n1_; (try clear hb); (try clear hb2); (try clear hk); (try clear hi); (try clear ho0)) | ((with_reducible refine gate_dst (N := 18) rfl ?_); refine Kd.R_lit (Kd.int .u32) _ 179 ?hg (N := 18) ?hd (xs := ([] : List Int)) (inner := []) (ok := fun _ => True) (okp := fun _ => True) ?hr ?hp (fun _ hk => hk) trivial (Below.refl _ _) (Nat.le_refl _) (by simp) ?_; (case hd => rfl); (case hg => rfl); (case hr => first | (go_simp; done) | (go_simp; rfl) | (go_simp; simp only [IntKind.wrap_u32, IntKind.wrap_u8]; done) | (go_simp; simp only [IntKind.wrap_u32, IntKind.wrap_u8]; rfl) | (go_simp; simp [IntKind.wrap_u32, IntKind.wrap_u8]; done)); (case hp => exact (Reps.none _ _)); intro v188 w7 ho8 hb hg_ hnew_; clear hg_ hnew_; (first | rw [← Ny187.out] at ho8 | (simp only [Int.reduceToNat] at ho8; rw [← Ny187.out] at ho8)); have n0_ := Aside0.mk (Kd.R_elder' (by (with_reducible repeat (first | apply Kd.R_alloc | apply Kd.R_drewN | apply Kd.R_drew)); exact HO186.out) (Kd.R_base ho8) hb); have n1_ := Aside0.mk (Kd.R_lower (Kd.R_new' ho8 (Kd.R_lt (by (with_reducible repeat (first | apply Kd.R_alloc | apply Kd.R_drewN | apply Kd.R_drew)); exact HO186.out))) (below_size (by repeat (first | (with_reducible first | exact HB.out | apply below_alloc | apply pw_below_drewN | apply below_drew1) | exact HB.out)))); have n2_ := Aside0.mk (below_step (by repeat (first | (with_reducible first | exact HB.out | apply below_alloc | apply pw_below_drewN | apply below_drew1) | exact HB.out)) hb); clear HO186; clear HB; have HO186 := n0_; have HO189 := n1_; have HB := n2_; clear n0_ n1_ n2_; clear hb ho8) | ((with_reducible refine gate_builtin (b := .append) (xs := #[.tmp 18, .tmp 19]) rfl ?_); at_builtin; refine Kd.R_append_rows (Kd.int .u32) (w0 := w) w.heap.size rfl (.tmp 18) (.tmp 19) 168 179 (.int .u32 0) 4 rfl Try.underlying168 info179 rfl (by decide) (by omega) v188 y187 l0 _ _ _ (fun k_ => some k_ ≠ (v185 : Value).ownBlock) (fun _ => False) rfl rfl ?aO ?aR (fun _ _ h => h) (fun _ h => h.elim) ?aF ?aB ?aS ?aL ?_; (case aR => repeat (first | exact (Kd.C_below HR0.out HB.out) | (with_reducible refine Kd.C_alloc ?_ _) | (with_reducible refine Kd.C_drewN ?_ _) | (with_reducible refine Kd.C_drew ?_))); (case aB => exact (by repeat (first | (with_reducible first | exact HB.out | apply below_alloc | apply pw_below_drewN | apply below_drew1) | exact HB.out))); (case aF => exact (fun k_ hk => Kd.fresh' (Kd.R_lt (by (with_reducible repeat (first | apply Kd.R_alloc | apply Kd.R_drewN | apply Kd.R_drew)); exact HO186.out)) k_ hk)); (case aO => exact (by (with_reducible repeat (first | apply Kd.R_alloc | apply Kd.R_drewN | apply Kd.R_drew)); exact Kd.R_mono HO189.out (fun _ hk => hk.2))); (case aS => exact (below_size (by repeat (first | (with_reducible first | exact HB.out | apply below_alloc | apply pw_below_drewN | apply below_drew1) | exact HB.out)))); (case aL => have := LMc5.out; omega); intro v191 w9 ho hb hg hat; rw [← Ny190.out] at ho; have n0_ := Aside0.mk (Kd.R_after (ok := (fun _ => True)) (by (with_reducible repeat (first | apply Kd.R_alloc | apply Kd.R_drewN | apply Kd.R_drew)); exact HO186.out) hg hat); have n1_ := Aside0.mk (hb); have n2_ := Aside0.mk (ho); clear HO186; clear HB; clear HO189; have HO186 := n0_; have HB := n1_; have HO192 := n2_; clear n0_ n1_ n2_; clear ho hb hg hat))
    go_loopg [8, 9] k (fun kq v8 v9 w' => ∃ (x8_1 : List Int) (x9_1 : Int), v9 = .int .i64 x9_1 ∧ Aside0 (padlockref01_Come.l0 kq l0 l2 t184 x8_1 x9_1 = some r) ∧ Aside0 (kq ≤ k) ∧ Aside0 (Kd.R (Kd.int .u32) 179 w' w.heap.size (fun k_ => some k_ ≠ (v8 : Value).ownBlock) v185 t184) ∧ Aside0 (Kd.R (Kd.int .u32) 179 w' w.heap.size (fun k_ => some k_ ≠ (v185 : Value).ownBlock) v8 x8_1) ∧ Aside0 (Below w.heap.size w w'))
    case atStart => exact ⟨(y190), (0), (by first | rfl | (simp; done) | (simp [*]; done) | (simp; omega)), H', ⟨Nat.le_refl _⟩, ⟨by (with_reducible repeat (first | apply Kd.R_alloc | apply Kd.R_drewN | apply Kd.R_drew)); exact Kd.R_mono HO186.out (fun _ hk => hk.2)⟩, ⟨by (with_reducible repeat (first | apply Kd.R_alloc | apply Kd.R_drewN | apply Kd.R_drew)); exact HO192.out⟩, ⟨by repeat (first | (with_reducible first | exact HB.out | apply below_alloc | apply pw_below_drewN | apply below_drew1) | exact HB.out)⟩⟩
    case round =>
      clear H'
      try clear c1
      try clear c2
      try clear p2
      try clear c5
      obtain ⟨x8_1, x9_1, rfl, HA, HK1, HO_7, HO_8, HB⟩ := hrel
      cases gk with
      | zero => exact absurd HA.out (by simp [padlockref01_Come.l0])
      | succ k1 =>
        have H := HA.out
        clear HA
        simp only [padlockref01_Come.l0] at H
        by_cases c10 : x9_1 < 64
        · rw [if_pos c10] at H
          have c10b0 : decide (x9_1 < 64) = true := decide_eq_true c10
          clear c10
          by_cases c11 : 4 < (x8_1.length : Int)
          · rw [if_pos c11] at H
            have c11b0 : decide (4 < (x8_1.length : Int)) = true := decide_eq_true c11
            have c11b1 : decide (4 < x8_1.length) = true := decide_eq_true (by omega)
            clear c11
            by_cases c12 : 0 < (x8_1.length : Int)
            · rw [if_pos c12] at H
              have c12b0 : decide (0 < (x8_1.length : Int)) = true := decide_eq_true c12
              have c12b1 : decide (0 < x8_1.length) = true := decide_eq_true (by omega)
              clear c12
              by_cases c13 : 7 < (x8_1.length : Int)
              · rw [if_pos c13] at H
                have c13b0 : decide (7 < (x8_1.length : Int)) = true := decide_eq_true c13
                have c13b1 : decide (7 < x8_1.length) = true := decide_eq_true (by omega)
                clear c13
                replace H := Option.bind_eq_some_iff.mp H
                obtain ⟨t196, A140, H⟩ := H
                replace H : ((padlockref01_Turn.f k1 (rd x8_1 4) 11).bind fun t197 => ((padlockref01_Turn.f k1 (rd x8_1 4) 25).bind fun t198 => (if 5 < (x8_1.length : Int) then (if 6 < (x8_1.length : Int) then (if 0 ≤ x9_1 then (if x9_1 < (l2.length : Int) then (if x9_1 < (t184.length : Int) then ((padlockref01_Turn.f k1 (rd x8_1 0) 2).bind fun t203 => ((padlockref01_Turn.f k1 (rd x8_1 0) 13).bind fun t204 => ((padlockref01_Turn.f k1 (rd x8_1 0) 22).bind fun t205 => (if 1 < (x8_1.length : Int) then (if 2 < (x8_1.length : Int) then (if 3 < (x8_1.length : Int) then (padlockref01_Come.l0 k1 l0 l2 t184 (([((((((((((rd x8_1 7) + (Go.bits .xor .u32 (Go.bits .xor .u32 t196 t197) t198)) % 4294967296) + (Go.bits .xor .u32 (Go.bits .and .u32 (rd x8_1 4) (rd x8_1 5)) (Go.bits .and .u32 ((4294967295 - (rd x8_1 4)) % 4294967296) (rd x8_1 6)))) % 4294967296) + (rd l2 x9_1)) % 4294967296) + (rd t184 x9_1)) % 4294967296) + (((Go.bits .xor .u32 (Go.bits .xor .u32 t203 t204) t205) + (Go.bits .xor .u32 (Go.bits .xor .u32 (Go.bits .and .u32 (rd x8_1 0) (rd x8_1 1)) (Go.bits .and .u32 (rd x8_1 0) (rd x8_1 2))) (Go.bits .and .u32 (rd x8_1 1) (rd x8_1 2)))) % 4294967296)) % 4294967296, rd x8_1 0, rd x8_1 1, rd x8_1 2, ((rd x8_1 3) + (((((((((rd x8_1 7) + (Go.bits .xor .u32 (Go.bits .xor .u32 t196 t197) t198)) % 4294967296) + (Go.bits .xor .u32 (Go.bits .and .u32 (rd x8_1 4) (rd x8_1 5)) (Go.bits .and .u32 ((4294967295 - (rd x8_1 4)) % 4294967296) (rd x8_1 6)))) % 4294967296) + (rd l2 x9_1)) % 4294967296) + (rd t184 x9_1)) % 4294967296)) % 4294967296, rd x8_1 4, rd x8_1 5, rd x8_1 6] : List Int)) (wrap64 (x9_1 + 1))) else (none)) else (none)) else (none))))) else (none)) else (none)) else (none)) else (none)) else (none)))) = some r := H
                have A14 := Aside0.mk A140
                clear A140
                replace H := Option.bind_eq_some_iff.mp H
                obtain ⟨t197, A150, H⟩ := H
                replace H : ((padlockref01_Turn.f k1 (rd x8_1 4) 25).bind fun t198 => (if 5 < (x8_1.length : Int) then (if 6 < (x8_1.length : Int) then (if 0 ≤ x9_1 then (if x9_1 < (l2.length : Int) then (if x9_1 < (t184.length : Int) then ((padlockref01_Turn.f k1 (rd x8_1 0) 2).bind fun t203 => ((padlockref01_Turn.f k1 (rd x8_1 0) 13).bind fun t204 => ((padlockref01_Turn.f k1 (rd x8_1 0) 22).bind fun t205 => (if 1 < (x8_1.length : Int) then (if 2 < (x8_1.length : Int) then (if 3 < (x8_1.length : Int) then (padlockref01_Come.l0 k1 l0 l2 t184 (([((((((((((rd x8_1 7) + (Go.bits .xor .u32 (Go.bits .xor .u32 t196 t197) t198)) % 4294967296) + (Go.bits .xor .u32 (Go.bits .and .u32 (rd x8_1 4) (rd x8_1 5)) (Go.bits .and .u32 ((4294967295 - (rd x8_1 4)) % 4294967296) (rd x8_1 6)))) % 4294967296) + (rd l2 x9_1)) % 4294967296) + (rd t184 x9_1)) % 4294967296) + (((Go.bits .xor .u32 (Go.bits .xor .u32 t203 t204) t205) + (Go.bits .xor .u32 (Go.bits .xor .u32 (Go.bits .and .u32 (rd x8_1 0) (rd x8_1 1)) (Go.bits .and .u32 (rd x8_1 0) (rd x8_1 2))) (Go.bits .and .u32 (rd x8_1 1) (rd x8_1 2)))) % 4294967296)) % 4294967296, rd x8_1 0, rd x8_1 1, rd x8_1 2, ((rd x8_1 3) + (((((((((rd x8_1 7) + (Go.bits .xor .u32 (Go.bits .xor .u32 t196 t197) t198)) % 4294967296) + (Go.bits .xor .u32 (Go.bits .and .u32 (rd x8_1 4) (rd x8_1 5)) (Go.bits .and .u32 ((4294967295 - (rd x8_1 4)) % 4294967296) (rd x8_1 6)))) % 4294967296) + (rd l2 x9_1)) % 4294967296) + (rd t184 x9_1)) % 4294967296)) % 4294967296, rd x8_1 4, rd x8_1 5, rd x8_1 6] : List Int)) (wrap64 (x9_1 + 1))) else (none)) else (none)) else (none))))) else (none)) else (none)) else (none)) else (none)) else (none))) = some r := H
                have A15 := Aside0.mk A150
                clear A150
                replace H := Option.bind_eq_some_iff.mp H
                obtain ⟨t198, A160, H⟩ := H
                replace H : (if 5 < (x8_1.length : Int) then (if 6 < (x8_1.length : Int) then (if 0 ≤ x9_1 then (if x9_1 < (l2.length : Int) then (if x9_1 < (t184.length : Int) then ((padlockref01_Turn.f k1 (rd x8_1 0) 2).bind fun t203 => ((padlockref01_Turn.f k1 (rd x8_1 0) 13).bind fun t204 => ((padlockref01_Turn.f k1 (rd x8_1 0) 22).bind fun t205 => (if 1 < (x8_1.length : Int) then (if 2 < (x8_1.length : Int) then (if 3 < (x8_1.length : Int) then (padlockref01_Come.l0 k1 l0 l2 t184 (([((((((((((rd x8_1 7) + (Go.bits .xor .u32 (Go.bits .xor .u32 t196 t197) t198)) % 4294967296) + (Go.bits .xor .u32 (Go.bits .and .u32 (rd x8_1 4) (rd x8_1 5)) (Go.bits .and .u32 ((4294967295 - (rd x8_1 4)) % 4294967296) (rd x8_1 6)))) % 4294967296) + (rd l2 x9_1)) % 4294967296) + (rd t184 x9_1)) % 4294967296) + (((Go.bits .xor .u32 (Go.bits .xor .u32 t203 t204) t205) + (Go.bits .xor .u32 (Go.bits .xor .u32 (Go.bits .and .u32 (rd x8_1 0) (rd x8_1 1)) (Go.bits .and .u32 (rd x8_1 0) (rd x8_1 2))) (Go.bits .and .u32 (rd x8_1 1) (rd x8_1 2)))) % 4294967296)) % 4294967296, rd x8_1 0, rd x8_1 1, rd x8_1 2, ((rd x8_1 3) + (((((((((rd x8_1 7) + (Go.bits .xor .u32 (Go.bits .xor .u32 t196 t197) t198)) % 4294967296) + (Go.bits .xor .u32 (Go.bits .and .u32 (rd x8_1 4) (rd x8_1 5)) (Go.bits .and .u32 ((4294967295 - (rd x8_1 4)) % 4294967296) (rd x8_1 6)))) % 4294967296) + (rd l2 x9_1)) % 4294967296) + (rd t184 x9_1)) % 4294967296)) % 4294967296, rd x8_1 4, rd x8_1 5, rd x8_1 6] : List Int)) (wrap64 (x9_1 + 1))) else (none)) else (none)) else (none))))) else (none)) else (none)) else (none)) else (none)) else (none)) = some r := H
                have A16 := Aside0.mk A160
                clear A160
                by_cases c17 : 5 < (x8_1.length : Int)
                · rw [if_pos c17] at H
                  have c17b0 : decide (5 < (x8_1.length : Int)) = true := decide_eq_true c17
                  have c17b1 : decide (5 < x8_1.length) = true := decide_eq_true (by omega)
                  clear c17
                  by_cases c18 : 6 < (x8_1.length : Int)
                  · rw [if_pos c18] at H
                    have c18b0 : decide (6 < (x8_1.length : Int)) = true := decide_eq_true c18
                    have c18b1 : decide (6 < x8_1.length) = true := decide_eq_true (by omega)
                    clear c18
                    by_cases c19 : 0 ≤ x9_1
                    · rw [if_pos c19] at H
                      have c19b0 : decide (0 ≤ x9_1) = true := decide_eq_true c19
                      clear c19
                      by_cases c20 : x9_1 < (l2.length : Int)
                      · rw [if_pos c20] at H
                        have c20b0 : decide (x9_1 < (l2.length : Int)) = true := decide_eq_true c20
                        clear c20
                        by_cases c21 : x9_1 < (t184.length : Int)
                        · rw [if_pos c21] at H
                          have c21b0 : decide (x9_1 < (t184.length : Int)) = true := decide_eq_true c21
                          clear c21
                          replace H := Option.bind_eq_some_iff.mp H
                          obtain ⟨t203, A220, H⟩ := H
                          replace H : ((padlockref01_Turn.f k1 (rd x8_1 0) 13).bind fun t204 => ((padlockref01_Turn.f k1 (rd x8_1 0) 22).bind fun t205 => (if 1 < (x8_1.length : Int) then (if 2 < (x8_1.length : Int) then (if 3 < (x8_1.length : Int) then (padlockref01_Come.l0 k1 l0 l2 t184 (([((((((((((rd x8_1 7) + (Go.bits .xor .u32 (Go.bits .xor .u32 t196 t197) t198)) % 4294967296) + (Go.bits .xor .u32 (Go.bits .and .u32 (rd x8_1 4) (rd x8_1 5)) (Go.bits .and .u32 ((4294967295 - (rd x8_1 4)) % 4294967296) (rd x8_1 6)))) % 4294967296) + (rd l2 x9_1)) % 4294967296) + (rd t184 x9_1)) % 4294967296) + (((Go.bits .xor .u32 (Go.bits .xor .u32 t203 t204) t205) + (Go.bits .xor .u32 (Go.bits .xor .u32 (Go.bits .and .u32 (rd x8_1 0) (rd x8_1 1)) (Go.bits .and .u32 (rd x8_1 0) (rd x8_1 2))) (Go.bits .and .u32 (rd x8_1 1) (rd x8_1 2)))) % 4294967296)) % 4294967296, rd x8_1 0, rd x8_1 1, rd x8_1 2, ((rd x8_1 3) + (((((((((rd x8_1 7) + (Go.bits .xor .u32 (Go.bits .xor .u32 t196 t197) t198)) % 4294967296) + (Go.bits .xor .u32 (Go.bits .and .u32 (rd x8_1 4) (rd x8_1 5)) (Go.bits .and .u32 ((4294967295 - (rd x8_1 4)) % 4294967296) (rd x8_1 6)))) % 4294967296) + (rd l2 x9_1)) % 4294967296) + (rd t184 x9_1)) % 4294967296)) % 4294967296, rd x8_1 4, rd x8_1 5, rd x8_1 6] : List Int)) (wrap64 (x9_1 + 1))) else (none)) else (none)) else (none)))) = some r := H
                          have A22 := Aside0.mk A220
                          clear A220
                          replace H := Option.bind_eq_some_iff.mp H
                          obtain ⟨t204, A230, H⟩ := H
                          replace H : ((padlockref01_Turn.f k1 (rd x8_1 0) 22).bind fun t205 => (if 1 < (x8_1.length : Int) then (if 2 < (x8_1.length : Int) then (if 3 < (x8_1.length : Int) then (padlockref01_Come.l0 k1 l0 l2 t184 (([((((((((((rd x8_1 7) + (Go.bits .xor .u32 (Go.bits .xor .u32 t196 t197) t198)) % 4294967296) + (Go.bits .xor .u32 (Go.bits .and .u32 (rd x8_1 4) (rd x8_1 5)) (Go.bits .and .u32 ((4294967295 - (rd x8_1 4)) % 4294967296) (rd x8_1 6)))) % 4294967296) + (rd l2 x9_1)) % 4294967296) + (rd t184 x9_1)) % 4294967296) + (((Go.bits .xor .u32 (Go.bits .xor .u32 t203 t204) t205) + (Go.bits .xor .u32 (Go.bits .xor .u32 (Go.bits .and .u32 (rd x8_1 0) (rd x8_1 1)) (Go.bits .and .u32 (rd x8_1 0) (rd x8_1 2))) (Go.bits .and .u32 (rd x8_1 1) (rd x8_1 2)))) % 4294967296)) % 4294967296, rd x8_1 0, rd x8_1 1, rd x8_1 2, ((rd x8_1 3) + (((((((((rd x8_1 7) + (Go.bits .xor .u32 (Go.bits .xor .u32 t196 t197) t198)) % 4294967296) + (Go.bits .xor .u32 (Go.bits .and .u32 (rd x8_1 4) (rd x8_1 5)) (Go.bits .and .u32 ((4294967295 - (rd x8_1 4)) % 4294967296) (rd x8_1 6)))) % 4294967296) + (rd l2 x9_1)) % 4294967296) + (rd t184 x9_1)) % 4294967296)) % 4294967296, rd x8_1 4, rd x8_1 5, rd x8_1 6] : List Int)) (wrap64 (x9_1 + 1))) else (none)) else (none)) else (none))) = some r := H
                          have A23 := Aside0.mk A230
                          clear A230
                          replace H := Option.bind_eq_some_iff.mp H
                          obtain ⟨t205, A240, H⟩ := H
                          replace H : (if 1 < (x8_1.length : Int) then (if 2 < (x8_1.length : Int) then (if 3 < (x8_1.length : Int) then (padlockref01_Come.l0 k1 l0 l2 t184 (([((((((((((rd x8_1 7) + (Go.bits .xor .u32 (Go.bits .xor .u32 t196 t197) t198)) % 4294967296) + (Go.bits .xor .u32 (Go.bits .and .u32 (rd x8_1 4) (rd x8_1 5)) (Go.bits .and .u32 ((4294967295 - (rd x8_1 4)) % 4294967296) (rd x8_1 6)))) % 4294967296) + (rd l2 x9_1)) % 4294967296) + (rd t184 x9_1)) % 4294967296) + (((Go.bits .xor .u32 (Go.bits .xor .u32 t203 t204) t205) + (Go.bits .xor .u32 (Go.bits .xor .u32 (Go.bits .and .u32 (rd x8_1 0) (rd x8_1 1)) (Go.bits .and .u32 (rd x8_1 0) (rd x8_1 2))) (Go.bits .and .u32 (rd x8_1 1) (rd x8_1 2)))) % 4294967296)) % 4294967296, rd x8_1 0, rd x8_1 1, rd x8_1 2, ((rd x8_1 3) + (((((((((rd x8_1 7) + (Go.bits .xor .u32 (Go.bits .xor .u32 t196 t197) t198)) % 4294967296) + (Go.bits .xor .u32 (Go.bits .and .u32 (rd x8_1 4) (rd x8_1 5)) (Go.bits .and .u32 ((4294967295 - (rd x8_1 4)) % 4294967296) (rd x8_1 6)))) % 4294967296) + (rd l2 x9_1)) % 4294967296) + (rd t184 x9_1)) % 4294967296)) % 4294967296, rd x8_1 4, rd x8_1 5, rd x8_1 6] : List Int)) (wrap64 (x9_1 + 1))) else (none)) else (none)) else (none)) = some r := H
                          have A24 := Aside0.mk A240
                          clear A240
                          by_cases c25 : 1 < (x8_1.length : Int)
                          · rw [if_pos c25] at H
                            have c25b0 : decide (1 < (x8_1.length : Int)) = true := decide_eq_true c25
                            have c25b1 : decide (1 < x8_1.length) = true := decide_eq_true (by omega)
                            clear c25
                            by_cases c26 : 2 < (x8_1.length : Int)
                            · rw [if_pos c26] at H
                              have c26b0 : decide (2 < (x8_1.length : Int)) = true := decide_eq_true c26
                              have c26b1 : decide (2 < x8_1.length) = true := decide_eq_true (by omega)
                              clear c26
                              by_cases c27 : 3 < (x8_1.length : Int)
                              · rw [if_pos c27] at H
                                have c27b0 : decide (3 < (x8_1.length : Int)) = true := decide_eq_true c27
                                have c27b1 : decide (3 < x8_1.length) = true := decide_eq_true (by omega)
                                clear c27
                                obtain ⟨y217, hy217⟩ : ∃ y_ : List Int, y_ = (([((((((((((rd x8_1 7) + (Go.bits .xor .u32 (Go.bits .xor .u32 t196 t197) t198)) % 4294967296) + (Go.bits .xor .u32 (Go.bits .and .u32 (rd x8_1 4) (rd x8_1 5)) (Go.bits .and .u32 ((4294967295 - (rd x8_1 4)) % 4294967296) (rd x8_1 6)))) % 4294967296) + (rd l2 x9_1)) % 4294967296) + (rd t184 x9_1)) % 4294967296) + (((Go.bits .xor .u32 (Go.bits .xor .u32 t203 t204) t205) + (Go.bits .xor .u32 (Go.bits .xor .u32 (Go.bits .and .u32 (rd x8_1 0) (rd x8_1 1)) (Go.bits .and .u32 (rd x8_1 0) (rd x8_1 2))) (Go.bits .and .u32 (rd x8_1 1) (rd x8_1 2)))) % 4294967296)) % 4294967296, rd x8_1 0, rd x8_1 1, rd x8_1 2, ((rd x8_1 3) + (((((((((rd x8_1 7) + (Go.bits .xor .u32 (Go.bits .xor .u32 t196 t197) t198)) % 4294967296) + (Go.bits .xor .u32 (Go.bits .and .u32 (rd x8_1 4) (rd x8_1 5)) (Go.bits .and .u32 ((4294967295 - (rd x8_1 4)) % 4294967296) (rd x8_1 6)))) % 4294967296) + (rd l2 x9_1)) % 4294967296) + (rd t184 x9_1)) % 4294967296)) % 4294967296, rd x8_1 4, rd x8_1 5, rd x8_1 6] : List Int)) := ⟨_, rfl⟩
                                replace H : (padlockref01_Come.l0 k1 l0 l2 t184 y217 (wrap64 (x9_1 + 1))) = some r := by first | (rw [hy217]; with_reducible exact H) | (have H2_ := (Option.bind_some _ _).symm.trans H; rw [hy217]; with_reducible exact H2_) | (have H2_ := (Option.bind_some _ _).symm.trans H; with_reducible exact H2_) | with_reducible exact H | (rw [hy217]; exact H) | exact H
                                have Ny217 := Aside0.mk hy217
                                clear hy217
                                have H' := Aside0.mk H
                                clear H
                                obtain ⟨Ao28, co28, eo28⟩ := Kd.R_slice HO_8.out
                                subst eo28
                                have p193 : 0 ≤ (4 : Int) := (by omega)
                                have q193 : 4 < (x8_1.length : Int) := of_decide_eq_true (by first | (with_reducible assumption) | assumption)
                                obtain ⟨ad193, e193, hx193_0⟩ := Kd.at_int (Kd.R_reads' HO_8.out).2.2 4 p193 q193
                                cases e193
                                (try simp only [show (4 : Int).toNat = 4 from rfl, Nat.reduceMul, Nat.reduceEqDiff, Go.Addr.add, ↓reduceIte] at hx193_0)
                                have qi193 : (4 < x8_1.length) = True := eq_true (by omega)
                                (try rw [show ((4 : Int)).toNat = 4 from rfl] at hx193_0)
                                replace p193 := eq_true p193
                                replace q193 := eq_true q193
                                have p194 : 0 ≤ (0 : Int) := (by omega)
                                have q194 : 0 < (x8_1.length : Int) := of_decide_eq_true (by first | (with_reducible assumption) | assumption)
                                obtain ⟨ad194, e194, hx194_0⟩ := Kd.at_int (Kd.R_reads' HO_8.out).2.2 0 p194 q194
                                obtain rfl : ad193 = ad194 := (by injection e194)
                                have qi194 : (0 < x8_1.length) = True := eq_true (by omega)
                                (try rw [show ((0 : Int)).toNat = 0 from rfl] at hx194_0)
                                (try rw [Addr.add_zero'] at hx194_0)
                                replace p194 := eq_true p194
                                replace q194 := eq_true q194
                                try go_wp2
                                have n0_ := Aside0.mk (Kd.R_drew HO_7.out)
                                have n1_ := Aside0.mk (Kd.R_drew HO_8.out)
                                have n2_ := Aside0.mk (below_drew1 HB.out)
                                clear HO_7
                                clear HO_8
                                clear HB
                                have HO_7 := n0_
                                have HO_8 := n1_
                                have HB := n2_
                                clear n0_ n1_ n2_
                                have p195 : 0 ≤ (7 : Int) := (by omega)
                                have q195 : 7 < (x8_1.length : Int) := of_decide_eq_true (by first | (with_reducible assumption) | assumption)
                                obtain ⟨ad195, e195, hx195_0⟩ := Kd.at_int (Kd.R_reads' HO_8.out).2.2 7 p195 q195
                                obtain rfl : ad193 = ad195 := (by injection e195)
                                (try simp only [show (7 : Int).toNat = 7 from rfl, Nat.reduceMul, Nat.reduceEqDiff, Go.Addr.add, ↓reduceIte] at hx195_0)
                                have qi195 : (7 < x8_1.length) = True := eq_true (by omega)
                                (try rw [show ((7 : Int)).toNat = 7 from rfl] at hx195_0)
                                replace p195 := eq_true p195
                                replace q195 := eq_true q195
                                have p199 : 0 ≤ (5 : Int) := (by omega)
                                have q199 : 5 < (x8_1.length : Int) := of_decide_eq_true (by first | (with_reducible assumption) | assumption)
                                obtain ⟨ad199, e199, hx199_0⟩ := Kd.at_int (Kd.R_reads' HO_8.out).2.2 5 p199 q199
                                obtain rfl : ad193 = ad199 := (by injection e199)
                                (try simp only [show (5 : Int).toNat = 5 from rfl, Nat.reduceMul, Nat.reduceEqDiff, Go.Addr.add, ↓reduceIte] at hx199_0)
                                have qi199 : (5 < x8_1.length) = True := eq_true (by omega)
                                (try rw [show ((5 : Int)).toNat = 5 from rfl] at hx199_0)
                                replace p199 := eq_true p199
                                replace q199 := eq_true q199
                                have p200 : 0 ≤ (6 : Int) := (by omega)
                                have q200 : 6 < (x8_1.length : Int) := of_decide_eq_true (by first | (with_reducible assumption) | assumption)
                                obtain ⟨ad200, e200, hx200_0⟩ := Kd.at_int (Kd.R_reads' HO_8.out).2.2 6 p200 q200
                                obtain rfl : ad193 = ad200 := (by injection e200)
                                (try simp only [show (6 : Int).toNat = 6 from rfl, Nat.reduceMul, Nat.reduceEqDiff, Go.Addr.add, ↓reduceIte] at hx200_0)
                                have qi200 : (6 < x8_1.length) = True := eq_true (by omega)
                                (try rw [show ((6 : Int)).toNat = 6 from rfl] at hx200_0)
                                replace p200 := eq_true p200
                                replace q200 := eq_true q200
                                have p201 : 0 ≤ (x9_1 : Int) := of_decide_eq_true (by first | (with_reducible assumption) | assumption)
                                have q201 : x9_1 < (l2.length : Int) := of_decide_eq_true (by first | (with_reducible assumption) | assumption)
                                obtain ⟨ad201, e201, hx201_0⟩ := Kd.at_int HR2.out x9_1 p201 q201
                                have hw201_0 := hx201_0
                                cases e201
                                replace hx201_0 := (HB.out.cell (World.block_lt_of_cell? w _ hx201_0)).trans hx201_0
                                replace p201 := eq_true p201
                                replace q201 := eq_true q201
                                obtain ⟨Ao30, co30, eo30⟩ := Kd.R_slice HO_7.out
                                (first | subst eo30 | (injection eo30 with f1_ f2_ f3_; have f4_ := f1_.symm; have f5_ := f3_.symm; clear f1_ f2_ f3_; subst f4_; subst f5_))
                                have p202 : 0 ≤ (x9_1 : Int) := of_decide_eq_true (by first | (with_reducible assumption) | assumption)
                                have q202 : x9_1 < (t184.length : Int) := of_decide_eq_true (by first | (with_reducible assumption) | assumption)
                                obtain ⟨ad202, e202, hx202_0⟩ := Kd.at_int (Kd.R_reads' HO_7.out).2.2 x9_1 p202 q202
                                cases e202
                                replace p202 := eq_true p202
                                replace q202 := eq_true q202
                                refine start_ (n := 36) (S := fun w' => w'.cell? ⟨ad193.block, ad193.off + 7, none⟩ = some (.int .u32 (rd x8_1 7)) ∧ w'.cell? ⟨ad193.block, ad193.off + 5, none⟩ = some (.int .u32 (rd x8_1 5)) ∧ w'.cell? ⟨ad193.block, ad193.off + 6, none⟩ = some (.int .u32 (rd x8_1 6)) ∧ w'.cell? (ad201.add (x9_1).toNat) = some (.int .u32 (rd l2 x9_1)) ∧ w'.cell? (ad202.add (x9_1).toNat) = some (.int .u32 (rd t184 x9_1))) (ds := []) #[false, false, false, false, false, false, false, false, false, false, false, false, false, false, false, false, false, false, false, false, false, false, false, false, false, false, false, false, false, false, false, false, false, false, false, false] (by kernel_rfl) rfl rfl ⟨hx195_0, hx199_0, hx200_0, ((HB.out.cell (World.block_lt_of_cell? w _ hw201_0)).trans hw201_0), hx202_0⟩ (fun hHeld => ?_); refine with_tabW padlockref01_Come.tab8 padlockref01_Come.bits8 (fun HT_ HW_ => ?_)
                                generalize wr.drew = w29 at HO_7 HO_8 HB hx195_0 hx199_0 hx200_0 hx201_0 hx202_0 hHeld ⊢
                                refine pure_ (i := 0) (N := some 31) (v := ?_) (a' := ?_) #[true, false, false, false, false, false, false, false, false, false, false, false, false, false, false, false, false, false, false, false, false, false, false, false, false, false, false, false, false, false, false, false, false, false, false, false] rfl rfl (any_of HT_.out (by kernel_rfl)) (fun _ _ _ h => h) (Or.inl ⟨by rfl, ?_⟩) ?_ ?_
                                rotate_left
                                · intro w'
                                  go_simp
                                  with_reducible rfl
                                rotate_left
                                · simp only [Act.put, List.setIfInBounds_toArray, List.set_cons_zero, List.set_cons_succ, i64_w, i32_w]
                                  rfl
                                refine pure_ (i := 1) (N := some 32) (v := ?_) (a' := ?_) #[true, true, false, false, false, false, false, false, false, false, false, false, false, false, false, false, false, false, false, false, false, false, false, false, false, false, false, false, false, false, false, false, false, false, false, false] rfl rfl (any_of HT_.out (by kernel_rfl)) (fun _ _ _ h => h) (Or.inl ⟨by rfl, ?_⟩) ?_ ?_
                                rotate_left
                                · intro w'
                                  go_simp
                                  with_reducible rfl
                                rotate_left
                                · simp only [Act.put, List.setIfInBounds_toArray, List.set_cons_zero, List.set_cons_succ, i64_w, i32_w]
                                  rfl
                                refine pure_ (i := 3) (N := some 34) (v := ?_) (a' := ?_) #[true, true, false, true, false, false, false, false, false, false, false, false, false, false, false, false, false, false, false, false, false, false, false, false, false, false, false, false, false, false, false, false, false, false, false, false] rfl rfl (any_of HT_.out (by kernel_rfl)) (fun _ _ _ h => h) (Or.inl ⟨by rfl, ?_⟩) ?_ ?_
                                rotate_left
                                · intro w'
                                  go_simp
                                  with_reducible rfl
                                rotate_left
                                · simp only [Act.put, List.setIfInBounds_toArray, List.set_cons_zero, List.set_cons_succ, i64_w, i32_w]
                                  rfl
                                refine pure_ (i := 5) (N := some 36) (v := ?_) (a' := ?_) #[true, true, false, true, false, true, false, false, false, false, false, false, false, false, false, false, false, false, false, false, false, false, false, false, false, false, false, false, false, false, false, false, false, false, false, false] rfl rfl (any_of HT_.out (by kernel_rfl)) (fun _ _ _ h => h) (Or.inl ⟨by rfl, ?_⟩) ?_ ?_
                                rotate_left
                                · intro w'
                                  go_simp
                                  with_reducible rfl
                                rotate_left
                                · simp only [Act.put, List.setIfInBounds_toArray, List.set_cons_zero, List.set_cons_succ, i64_w, i32_w]
                                  rfl
                                refine pure_ (i := 8) (N := some 39) (v := ?_) (a' := ?_) #[true, true, false, true, false, true, false, false, true, false, false, false, false, false, false, false, false, false, false, false, false, false, false, false, false, false, false, false, false, false, false, false, false, false, false, false] rfl rfl (any_of HT_.out (by kernel_rfl)) (fun _ _ _ h => h) (Or.inl ⟨by rfl, ?_⟩) ?_ ?_
                                rotate_left
                                · intro w'
                                  go_simp
                                  with_reducible rfl
                                rotate_left
                                · simp only [Act.put, List.setIfInBounds_toArray, List.set_cons_zero, List.set_cons_succ, i64_w, i32_w]
                                  rfl
                                refine pure_ (i := 12) (N := some 43) (v := ?_) (a' := ?_) #[true, true, false, true, false, true, false, false, true, false, false, false, true, false, false, false, false, false, false, false, false, false, false, false, false, false, false, false, false, false, false, false, false, false, false, false] rfl rfl (any_of HT_.out (by kernel_rfl)) (fun _ _ _ h => h) (Or.inl ⟨by rfl, ?_⟩) ?_ ?_
                                rotate_left
                                · intro w'
                                  go_simp
                                  with_reducible rfl
                                rotate_left
                                · simp only [Act.put, List.setIfInBounds_toArray, List.set_cons_zero, List.set_cons_succ, i64_w, i32_w]
                                  rfl
                                refine pure_ (i := 13) (N := some 44) (v := ?_) (a' := ?_) #[true, true, false, true, false, true, false, false, true, false, false, false, true, true, false, false, false, false, false, false, false, false, false, false, false, false, false, false, false, false, false, false, false, false, false, false] rfl rfl (any_of HT_.out (by kernel_rfl)) (fun _ _ _ h => h) (Or.inl ⟨by rfl, ?_⟩) ?_ ?_
                                rotate_left
                                · intro w'
                                  go_simp
                                  with_reducible rfl
                                rotate_left
                                · simp only [Act.put, List.setIfInBounds_toArray, List.set_cons_zero, List.set_cons_succ, i64_w, i32_w]
                                  rfl
                                refine pure_ (i := 14) (N := some 45) (v := ?_) (a' := ?_) #[true, true, false, true, false, true, false, false, true, false, false, false, true, true, true, false, false, false, false, false, false, false, false, false, false, false, false, false, false, false, false, false, false, false, false, false] rfl rfl (any_of HT_.out (by kernel_rfl)) (fun _ _ _ h => h) (Or.inl ⟨by rfl, ?_⟩) ?_ ?_
                                rotate_left
                                · intro w'
                                  go_simp
                                  with_reducible rfl
                                rotate_left
                                · simp only [Act.put, List.setIfInBounds_toArray, List.set_cons_zero, List.set_cons_succ, i64_w, i32_w]
                                  rfl
                                refine pure_ (i := 17) (N := some 48) (v := ?_) (a' := ?_) #[true, true, false, true, false, true, false, false, true, false, false, false, true, true, true, false, false, true, false, false, false, false, false, false, false, false, false, false, false, false, false, false, false, false, false, false] rfl rfl (any_of HT_.out (by kernel_rfl)) (fun _ _ _ h => h) (Or.inl ⟨by rfl, ?_⟩) ?_ ?_
                                rotate_left
                                · intro w'
                                  go_simp
                                  with_reducible rfl
                                rotate_left
                                · simp only [Act.put, List.setIfInBounds_toArray, List.set_cons_zero, List.set_cons_succ, i64_w, i32_w]
                                  rfl
                                refine pure_ (i := 18) (N := some 49) (v := ?_) (a' := ?_) #[true, true, false, true, false, true, false, false, true, false, false, false, true, true, true, false, false, true, true, false, false, false, false, false, false, false, false, false, false, false, false, false, false, false, false, false] rfl rfl (any_of HT_.out (by kernel_rfl)) (fun _ _ _ h => h) (Or.inl ⟨by rfl, ?_⟩) ?_ ?_
                                rotate_left
                                · intro w'
                                  go_simp
                                  with_reducible rfl
                                rotate_left
                                · simp only [Act.put, List.setIfInBounds_toArray, List.set_cons_zero, List.set_cons_succ, i64_w, i32_w]
                                  rfl
                                refine pure_ (i := 19) (N := some 50) (v := ?_) (a' := ?_) #[true, true, false, true, false, true, false, false, true, false, false, false, true, true, true, false, false, true, true, true, false, false, false, false, false, false, false, false, false, false, false, false, false, false, false, false] rfl rfl (any_of HT_.out (by kernel_rfl)) (fun _ _ _ h => h) (Or.inl ⟨by rfl, ?_⟩) ?_ ?_
                                rotate_left
                                · intro w'
                                  go_simp
                                  with_reducible rfl
                                rotate_left
                                · simp only [Act.put, List.setIfInBounds_toArray, List.set_cons_zero, List.set_cons_succ, i64_w, i32_w]
                                  rfl
                                refine pure_ (i := 20) (N := some 51) (v := ?_) (a' := ?_) #[true, true, false, true, false, true, false, false, true, false, false, false, true, true, true, false, false, true, true, true, true, false, false, false, false, false, false, false, false, false, false, false, false, false, false, false] rfl rfl (any_of HT_.out (by kernel_rfl)) (fun _ _ _ h => h) (Or.inl ⟨by rfl, ?_⟩) ?_ ?_
                                rotate_left
                                · intro w'
                                  go_simp
                                  with_reducible rfl
                                rotate_left
                                · simp only [Act.put, List.setIfInBounds_toArray, List.set_cons_zero, List.set_cons_succ, i64_w, i32_w]
                                  rfl
                                refine pure_ (i := 25) (N := some 56) (v := ?_) (a' := ?_) #[true, true, false, true, false, true, false, false, true, false, false, false, true, true, true, false, false, true, true, true, true, false, false, false, false, true, false, false, false, false, false, false, false, false, false, false] rfl rfl (any_of HT_.out (by kernel_rfl)) (fun _ _ _ h => h) (Or.inl ⟨by rfl, ?_⟩) ?_ ?_
                                rotate_left
                                · intro w'
                                  go_simp
                                  with_reducible rfl
                                rotate_left
                                · simp only [Act.put, List.setIfInBounds_toArray, List.set_cons_zero, List.set_cons_succ, i64_w, i32_w]
                                  rfl
                                refine pure_ (i := 26) (N := some 57) (v := ?_) (a' := ?_) #[true, true, false, true, false, true, false, false, true, false, false, false, true, true, true, false, false, true, true, true, true, false, false, false, false, true, true, false, false, false, false, false, false, false, false, false] rfl rfl (any_of HT_.out (by kernel_rfl)) (fun _ _ _ h => h) (Or.inl ⟨by rfl, ?_⟩) ?_ ?_
                                rotate_left
                                · intro w'
                                  go_simp
                                  with_reducible rfl
                                rotate_left
                                · simp only [Act.put, List.setIfInBounds_toArray, List.set_cons_zero, List.set_cons_succ, i64_w, i32_w]
                                  rfl
                                refine pure_ (i := 27) (N := some 58) (v := ?_) (a' := ?_) #[true, true, false, true, false, true, false, false, true, false, false, false, true, true, true, false, false, true, true, true, true, false, false, false, false, true, true, true, false, false, false, false, false, false, false, false] rfl rfl (any_of HT_.out (by kernel_rfl)) (fun _ _ _ h => h) (Or.inl ⟨by rfl, ?_⟩) ?_ ?_
                                rotate_left
                                · intro w'
                                  go_simp
                                  with_reducible rfl
                                rotate_left
                                · simp only [Act.put, List.setIfInBounds_toArray, List.set_cons_zero, List.set_cons_succ, i64_w, i32_w]
                                  rfl
                                refine pure_ (i := 30) (N := some 61) (v := ?_) (a' := ?_) #[true, true, false, true, false, true, false, false, true, false, false, false, true, true, true, false, false, true, true, true, true, false, false, false, false, true, true, true, false, false, true, false, false, false, false, false] rfl rfl (any_of HT_.out (by kernel_rfl)) (fun _ _ _ h => h) (Or.inl ⟨by rfl, ?_⟩) ?_ ?_
                                rotate_left
                                · intro w'
                                  go_simp
                                  with_reducible rfl
                                rotate_left
                                · simp only [Act.put, List.setIfInBounds_toArray, List.set_cons_zero, List.set_cons_succ, i64_w, i32_w]
                                  rfl
                                refine pure_ (i := 31) (N := some 62) (v := ?_) (a' := ?_) #[true, true, false, true, false, true, false, false, true, false, false, false, true, true, true, false, false, true, true, true, true, false, false, false, false, true, true, true, false, false, true, true, false, false, false, false] rfl rfl (any_of HT_.out (by kernel_rfl)) (fun _ _ _ h => h) (Or.inl ⟨by rfl, ?_⟩) ?_ ?_
                                rotate_left
                                · intro w'
                                  go_simp
                                  with_reducible rfl
                                rotate_left
                                · simp only [Act.put, List.setIfInBounds_toArray, List.set_cons_zero, List.set_cons_succ, i64_w, i32_w]
                                  rfl
                                refine pure_ (i := 32) (N := some 63) (v := ?_) (a' := ?_) #[true, true, false, true, false, true, false, false, true, false, false, false, true, true, true, false, false, true, true, true, true, false, false, false, false, true, true, true, false, false, true, true, true, false, false, false] rfl rfl (any_of HT_.out (by kernel_rfl)) (fun _ _ _ h => h) (Or.inl ⟨by rfl, ?_⟩) ?_ ?_
                                rotate_left
                                · intro w'
                                  go_simp
                                  with_reducible rfl
                                rotate_left
                                · simp only [Act.put, List.setIfInBounds_toArray, List.set_cons_zero, List.set_cons_succ, i64_w, i32_w]
                                  rfl
                                refine take_ (i := 2) (N := some 33) (v := ?_) (a' := ?_) #[true, true, true, true, false, true, false, false, true, false, false, false, true, true, true, false, false, true, true, true, true, false, false, false, false, true, true, true, false, false, true, true, true, false, false, false] rfl rfl (take_ofW HT_.out HW_.out (by kernel_rfl)) (fun _ _ _ h => h) (Or.inl ⟨by rfl, ?_⟩) hHeld ?_ ?_
                                rotate_left
                                · rintro w' ⟨s0, s1, s2, s3, s4⟩
                                  go_simp
                                  with_reducible rfl
                                rotate_left
                                · simp only [Act.put, List.setIfInBounds_toArray, List.set_cons_zero, List.set_cons_succ, i64_w, i32_w]
                                  rfl
                                refine take_ (i := 15) (N := some 46) (v := ?_) (a' := ?_) #[true, true, true, true, false, true, false, false, true, false, false, false, true, true, true, true, false, true, true, true, true, false, false, false, false, true, true, true, false, false, true, true, true, false, false, false] rfl rfl (take_ofW HT_.out HW_.out (by kernel_rfl)) (fun _ _ _ h => h) (Or.inl ⟨by rfl, ?_⟩) hHeld ?_ ?_
                                rotate_left
                                · rintro w' ⟨s0, s1, s2, s3, s4⟩
                                  go_simp
                                  with_reducible rfl
                                rotate_left
                                · simp only [Act.put, List.setIfInBounds_toArray, List.set_cons_zero, List.set_cons_succ, i64_w, i32_w]
                                  rfl
                                refine pure_ (i := 16) (N := some 47) (v := ?_) (a' := ?_) #[true, true, true, true, false, true, false, false, true, false, false, false, true, true, true, true, true, true, true, true, true, false, false, false, false, true, true, true, false, false, true, true, true, false, false, false] rfl rfl (any_of HT_.out (by kernel_rfl)) (fun _ _ _ h => h) (Or.inl ⟨by rfl, ?_⟩) ?_ ?_
                                rotate_left
                                · intro w'
                                  go_simp
                                  with_reducible rfl
                                rotate_left
                                · simp only [Act.put, List.setIfInBounds_toArray, List.set_cons_zero, List.set_cons_succ, i64_w, i32_w]
                                  rfl
                                refine take_ (i := 21) (N := some 52) (v := ?_) (a' := ?_) #[true, true, true, true, false, true, false, false, true, false, false, false, true, true, true, true, true, true, true, true, true, true, false, false, false, true, true, true, false, false, true, true, true, false, false, false] rfl rfl (take_ofW HT_.out HW_.out (by kernel_rfl)) (fun _ _ _ h => h) (Or.inl ⟨by rfl, ?_⟩) hHeld ?_ ?_
                                rotate_left
                                · rintro w' ⟨s0, s1, s2, s3, s4⟩
                                  go_simp
                                  with_reducible rfl
                                rotate_left
                                · simp only [Act.put, List.setIfInBounds_toArray, List.set_cons_zero, List.set_cons_succ, i64_w, i32_w]
                                  rfl
                                refine pure_ (i := 22) (N := some 53) (v := ?_) (a' := ?_) #[true, true, true, true, false, true, false, false, true, false, false, false, true, true, true, true, true, true, true, true, true, true, true, false, false, true, true, true, false, false, true, true, true, false, false, false] rfl rfl (any_of HT_.out (by kernel_rfl)) (fun _ _ _ h => h) (Or.inl ⟨by rfl, ?_⟩) ?_ ?_
                                rotate_left
                                · intro w'
                                  go_simp
                                  with_reducible rfl
                                rotate_left
                                · simp only [Act.put, List.setIfInBounds_toArray, List.set_cons_zero, List.set_cons_succ, i64_w, i32_w]
                                  rfl
                                refine pure_ (i := 23) (N := some 54) (v := ?_) (a' := ?_) #[true, true, true, true, false, true, false, false, true, false, false, false, true, true, true, true, true, true, true, true, true, true, true, true, false, true, true, true, false, false, true, true, true, false, false, false] rfl rfl (any_of HT_.out (by kernel_rfl)) (fun _ _ _ h => h) (Or.inl ⟨by rfl, ?_⟩) ?_ ?_
                                rotate_left
                                · intro w'
                                  go_simp
                                  with_reducible rfl
                                rotate_left
                                · simp only [Act.put, List.setIfInBounds_toArray, List.set_cons_zero, List.set_cons_succ, i64_w, i32_w]
                                  rfl
                                refine take_ (i := 28) (N := some 59) (v := ?_) (a' := ?_) #[true, true, true, true, false, true, false, false, true, false, false, false, true, true, true, true, true, true, true, true, true, true, true, true, false, true, true, true, true, false, true, true, true, false, false, false] rfl rfl (take_ofW HT_.out HW_.out (by kernel_rfl)) (fun _ _ _ h => h) (Or.inl ⟨by rfl, ?_⟩) hHeld ?_ ?_
                                rotate_left
                                · rintro w' ⟨s0, s1, s2, s3, s4⟩
                                  go_simp
                                  with_reducible rfl
                                rotate_left
                                · simp only [Act.put, List.setIfInBounds_toArray, List.set_cons_zero, List.set_cons_succ, i64_w, i32_w]
                                  rfl
                                refine take_ (i := 33) (N := some 64) (v := ?_) (a' := ?_) #[true, true, true, true, false, true, false, false, true, false, false, false, true, true, true, true, true, true, true, true, true, true, true, true, false, true, true, true, true, false, true, true, true, true, false, false] rfl rfl (take_ofW HT_.out HW_.out (by kernel_rfl)) (fun _ _ _ h => h) (Or.inl ⟨by rfl, ?_⟩) hHeld ?_ ?_
                                rotate_left
                                · rintro w' ⟨s0, s1, s2, s3, s4⟩
                                  go_simp
                                  with_reducible rfl
                                rotate_left
                                · simp only [Act.put, List.setIfInBounds_toArray, List.set_cons_zero, List.set_cons_succ, i64_w, i32_w]
                                  rfl
                                refine one_ (i := 4) (N := some 35) #[true, true, true, true, true, true, false, false, true, false, false, false, true, true, true, true, true, true, true, true, true, true, true, true, false, true, true, true, true, false, true, true, true, true, false, false] rfl rfl (one_of HT_.out (by kernel_rfl)) (by decide) (fun K hK => ?_)
                                refine goes_ Try.func141 (by kernel_rfl) rfl #[.int .u32 (rd x8_1 4), .int .i64 6] (by rfl) rfl rfl (by (try simp only [List.map_toArray, List.map_cons, List.map_nil]); first | done | rfl | (simp only [List.length_drop, List.length_take]; rfl)) ?_
                                with_reducible refine (padlockref01_Turn.calls k1 (rd x8_1 4) 6 t196 _ A14.out).mono ?_
                                rintro e w' ⟨rfl, ⟨nd, rfl⟩⟩
                                refine ⟨_, rfl, ?_⟩
                                refine hK.out _ _ ⟨hHeld.1, hHeld.2.1, hHeld.2.2.1, ((HB.out.cell (World.block_lt_of_cell? w _ hw201_0)).trans hw201_0), hHeld.2.2.2.2⟩ (fun hHeld => ?_)
                                clear hK K
                                refine norm_ (a' := ?_) ?_ ?_
                                rotate_left
                                · show Act.put _ (some 35) _ = _
                                  simp only [Act.put, List.setIfInBounds_toArray, List.set_cons_zero, List.set_cons_succ, i64_w, i32_w]
                                  rfl
                                refine one_ (i := 6) (N := some 37) #[true, true, true, true, true, true, true, false, true, false, false, false, true, true, true, true, true, true, true, true, true, true, true, true, false, true, true, true, true, false, true, true, true, true, false, false] rfl rfl (one_of HT_.out (by kernel_rfl)) (by decide) (fun K hK => ?_)
                                refine goes_ Try.func141 (by kernel_rfl) rfl #[.int .u32 (rd x8_1 4), .int .i64 11] (by rfl) rfl rfl (by (try simp only [List.map_toArray, List.map_cons, List.map_nil]); first | done | rfl | (simp only [List.length_drop, List.length_take]; rfl)) ?_
                                with_reducible refine (padlockref01_Turn.calls k1 (rd x8_1 4) 11 t197 _ A15.out).mono ?_
                                rintro e w' ⟨rfl, ⟨nd, rfl⟩⟩
                                refine ⟨_, rfl, ?_⟩
                                refine hK.out _ _ ⟨hHeld.1, hHeld.2.1, hHeld.2.2.1, ((HB.out.cell (World.block_lt_of_cell? w _ hw201_0)).trans hw201_0), hHeld.2.2.2.2⟩ (fun hHeld => ?_)
                                clear hK K
                                refine norm_ (a' := ?_) ?_ ?_
                                rotate_left
                                · show Act.put _ (some 37) _ = _
                                  simp only [Act.put, List.setIfInBounds_toArray, List.set_cons_zero, List.set_cons_succ, i64_w, i32_w]
                                  rfl
                                refine pure_ (i := 7) (N := some 38) (v := ?_) (a' := ?_) #[true, true, true, true, true, true, true, true, true, false, false, false, true, true, true, true, true, true, true, true, true, true, true, true, false, true, true, true, true, false, true, true, true, true, false, false] rfl rfl (any_of HT_.out (by kernel_rfl)) (fun _ _ _ h => h) (Or.inl ⟨by rfl, ?_⟩) ?_ ?_
                                rotate_left
                                · intro w'
                                  go_simp
                                  with_reducible rfl
                                rotate_left
                                · simp only [Act.put, List.setIfInBounds_toArray, List.set_cons_zero, List.set_cons_succ, i64_w, i32_w]
                                  rfl
                                refine one_ (i := 9) (N := some 40) #[true, true, true, true, true, true, true, true, true, true, false, false, true, true, true, true, true, true, true, true, true, true, true, true, false, true, true, true, true, false, true, true, true, true, false, false] rfl rfl (one_of HT_.out (by kernel_rfl)) (by decide) (fun K hK => ?_)
                                refine goes_ Try.func141 (by kernel_rfl) rfl #[.int .u32 (rd x8_1 4), .int .i64 25] (by rfl) rfl rfl (by (try simp only [List.map_toArray, List.map_cons, List.map_nil]); first | done | rfl | (simp only [List.length_drop, List.length_take]; rfl)) ?_
                                with_reducible refine (padlockref01_Turn.calls k1 (rd x8_1 4) 25 t198 _ A16.out).mono ?_
                                rintro e w' ⟨rfl, ⟨nd, rfl⟩⟩
                                refine ⟨_, rfl, ?_⟩
                                refine hK.out _ _ ⟨hHeld.1, hHeld.2.1, hHeld.2.2.1, ((HB.out.cell (World.block_lt_of_cell? w _ hw201_0)).trans hw201_0), hHeld.2.2.2.2⟩ (fun hHeld => ?_)
                                clear hK K
                                refine norm_ (a' := ?_) ?_ ?_
                                rotate_left
                                · show Act.put _ (some 40) _ = _
                                  simp only [Act.put, List.setIfInBounds_toArray, List.set_cons_zero, List.set_cons_succ, i64_w, i32_w]
                                  rfl
                                refine pure_ (i := 10) (N := some 41) (v := ?_) (a' := ?_) #[true, true, true, true, true, true, true, true, true, true, true, false, true, true, true, true, true, true, true, true, true, true, true, true, false, true, true, true, true, false, true, true, true, true, false, false] rfl rfl (any_of HT_.out (by kernel_rfl)) (fun _ _ _ h => h) (Or.inl ⟨by rfl, ?_⟩) ?_ ?_
                                rotate_left
                                · intro w'
                                  go_simp
                                  with_reducible rfl
                                rotate_left
                                · simp only [Act.put, List.setIfInBounds_toArray, List.set_cons_zero, List.set_cons_succ, i64_w, i32_w]
                                  rfl
                                refine pure_ (i := 11) (N := some 42) (v := ?_) (a' := ?_) #[true, true, true, true, true, true, true, true, true, true, true, true, true, true, true, true, true, true, true, true, true, true, true, true, false, true, true, true, true, false, true, true, true, true, false, false] rfl rfl (any_of HT_.out (by kernel_rfl)) (fun _ _ _ h => h) (Or.inl ⟨by rfl, ?_⟩) ?_ ?_
                                rotate_left
                                · intro w'
                                  go_simp
                                  with_reducible rfl
                                rotate_left
                                · simp only [Act.put, List.setIfInBounds_toArray, List.set_cons_zero, List.set_cons_succ, i64_w, i32_w]
                                  rfl
                                refine pure_ (i := 24) (N := some 55) (v := ?_) (a' := ?_) #[true, true, true, true, true, true, true, true, true, true, true, true, true, true, true, true, true, true, true, true, true, true, true, true, true, true, true, true, true, false, true, true, true, true, false, false] rfl rfl (any_of HT_.out (by kernel_rfl)) (fun _ _ _ h => h) (Or.inl ⟨by rfl, ?_⟩) ?_ ?_
                                rotate_left
                                · intro w'
                                  go_simp
                                  with_reducible rfl
                                rotate_left
                                · simp only [Act.put, List.setIfInBounds_toArray, List.set_cons_zero, List.set_cons_succ, i64_w, i32_w]
                                  rfl
                                refine pure_ (i := 29) (N := some 60) (v := ?_) (a' := ?_) #[true, true, true, true, true, true, true, true, true, true, true, true, true, true, true, true, true, true, true, true, true, true, true, true, true, true, true, true, true, true, true, true, true, true, false, false] rfl rfl (any_of HT_.out (by kernel_rfl)) (fun _ _ _ h => h) (Or.inl ⟨by rfl, ?_⟩) ?_ ?_
                                rotate_left
                                · intro w'
                                  go_simp
                                  with_reducible rfl
                                rotate_left
                                · simp only [Act.put, List.setIfInBounds_toArray, List.set_cons_zero, List.set_cons_succ, i64_w, i32_w]
                                  rfl
                                refine pure_ (i := 34) (N := some 65) (v := ?_) (a' := ?_) #[true, true, true, true, true, true, true, true, true, true, true, true, true, true, true, true, true, true, true, true, true, true, true, true, true, true, true, true, true, true, true, true, true, true, true, false] rfl rfl (any_of HT_.out (by kernel_rfl)) (fun _ _ _ h => h) (Or.inl ⟨by rfl, ?_⟩) ?_ ?_
                                rotate_left
                                · intro w'
                                  go_simp
                                  with_reducible rfl
                                rotate_left
                                · simp only [Act.put, List.setIfInBounds_toArray, List.set_cons_zero, List.set_cons_succ, i64_w, i32_w]
                                  rfl
                                refine pure_ (i := 35) (N := some 12) (v := ?_) (a' := ?_) #[true, true, true, true, true, true, true, true, true, true, true, true, true, true, true, true, true, true, true, true, true, true, true, true, true, true, true, true, true, true, true, true, true, true, true, true] rfl rfl (any_of HT_.out (by kernel_rfl)) (fun _ _ _ h => h) (Or.inl ⟨by rfl, ?_⟩) ?_ ?_
                                rotate_left
                                · intro w'
                                  go_simp
                                  with_reducible rfl
                                rotate_left
                                · simp only [Act.put, List.setIfInBounds_toArray, List.set_cons_zero, List.set_cons_succ, i64_w, i32_w]
                                  rfl
                                refine done_ (done_of HT_.out (by kernel_rfl)) ?_
                                try go_wp2
                                (try (rw [drewN_self w29]; generalize hq_ : World.drewN w29 _ = w29; have n0_ : Aside0 (Kd.R (Kd.int .u32) 179 w29 w.heap.size (fun k_ => some k_ ≠ (.slice (some ad193) x8_1.length co28 : Value).ownBlock) (.slice (some ad202) t184.length co30) t184) := ⟨by rw [← hq_]; exact (by (with_reducible repeat (first | apply Kd.R_alloc | apply Kd.R_drewN | apply Kd.R_drew)); exact HO_7.out)⟩; have n1_ : Aside0 (Kd.R (Kd.int .u32) 179 w29 w.heap.size (fun k_ => some k_ ≠ (.slice (some ad202) t184.length co30 : Value).ownBlock) (.slice (some ad193) x8_1.length co28) x8_1) := ⟨by rw [← hq_]; exact (by (with_reducible repeat (first | apply Kd.R_alloc | apply Kd.R_drewN | apply Kd.R_drew)); exact HO_8.out)⟩; have n2_ : Aside0 (Below w.heap.size w w29) := ⟨by rw [← hq_]; exact (by repeat (first | (with_reducible first | exact HB.out | apply below_alloc | apply pw_below_drewN | apply below_drew1) | exact HB.out))⟩; clear HO_7 HO_8 HB hq_; have HO_7 := n0_; have HO_8 := n1_; have HB := n2_; clear n0_ n1_ n2_))
                                have n0_ := Aside0.mk (Kd.R_drew HO_7.out)
                                have n1_ := Aside0.mk (Kd.R_drew HO_8.out)
                                have n2_ := Aside0.mk (below_drew1 HB.out)
                                clear HO_7
                                clear HO_8
                                clear HB
                                have HO_7 := n0_
                                have HO_8 := n1_
                                have HB := n2_
                                clear n0_ n1_ n2_
                                have p206 : 0 ≤ (1 : Int) := (by omega)
                                have q206 : 1 < (x8_1.length : Int) := of_decide_eq_true (by first | (with_reducible assumption) | assumption)
                                obtain ⟨ad206, e206, hx206_0⟩ := Kd.at_int (Kd.R_reads' HO_8.out).2.2 1 p206 q206
                                obtain rfl : ad193 = ad206 := (by injection e206)
                                (try simp only [show (1 : Int).toNat = 1 from rfl, Nat.reduceMul, Nat.reduceEqDiff, Go.Addr.add, ↓reduceIte] at hx206_0)
                                have qi206 : (1 < x8_1.length) = True := eq_true (by omega)
                                (try rw [show ((1 : Int)).toNat = 1 from rfl] at hx206_0)
                                replace p206 := eq_true p206
                                replace q206 := eq_true q206
                                have p207 : 0 ≤ (2 : Int) := (by omega)
                                have q207 : 2 < (x8_1.length : Int) := of_decide_eq_true (by first | (with_reducible assumption) | assumption)
                                obtain ⟨ad207, e207, hx207_0⟩ := Kd.at_int (Kd.R_reads' HO_8.out).2.2 2 p207 q207
                                obtain rfl : ad193 = ad207 := (by injection e207)
                                (try simp only [show (2 : Int).toNat = 2 from rfl, Nat.reduceMul, Nat.reduceEqDiff, Go.Addr.add, ↓reduceIte] at hx207_0)
                                have qi207 : (2 < x8_1.length) = True := eq_true (by omega)
                                (try rw [show ((2 : Int)).toNat = 2 from rfl] at hx207_0)
                                replace p207 := eq_true p207
                                replace q207 := eq_true q207
                                have p208 : 0 ≤ (1 : Int) := (by omega)
                                have q208 : 1 < (x8_1.length : Int) := of_decide_eq_true (by first | (with_reducible assumption) | assumption)
                                obtain ⟨ad208, e208, hx208_0⟩ := Kd.at_int (Kd.R_reads' HO_8.out).2.2 1 p208 q208
                                obtain rfl : ad193 = ad208 := (by injection e208)
                                (try simp only [show (1 : Int).toNat = 1 from rfl, Nat.reduceMul, Nat.reduceEqDiff, Go.Addr.add, ↓reduceIte] at hx208_0)
                                have qi208 : (1 < x8_1.length) = True := eq_true (by omega)
                                (try rw [show ((1 : Int)).toNat = 1 from rfl] at hx208_0)
                                replace p208 := eq_true p208
                                replace q208 := eq_true q208
                                have p209 : 0 ≤ (2 : Int) := (by omega)
                                have q209 : 2 < (x8_1.length : Int) := of_decide_eq_true (by first | (with_reducible assumption) | assumption)
                                obtain ⟨ad209, e209, hx209_0⟩ := Kd.at_int (Kd.R_reads' HO_8.out).2.2 2 p209 q209
                                obtain rfl : ad193 = ad209 := (by injection e209)
                                (try simp only [show (2 : Int).toNat = 2 from rfl, Nat.reduceMul, Nat.reduceEqDiff, Go.Addr.add, ↓reduceIte] at hx209_0)
                                have qi209 : (2 < x8_1.length) = True := eq_true (by omega)
                                (try rw [show ((2 : Int)).toNat = 2 from rfl] at hx209_0)
                                replace p209 := eq_true p209
                                replace q209 := eq_true q209
                                refine start_ (n := 29) (S := fun w' => w'.cell? ⟨ad193.block, ad193.off + 1, none⟩ = some (.int .u32 (rd x8_1 1)) ∧ w'.cell? ⟨ad193.block, ad193.off + 2, none⟩ = some (.int .u32 (rd x8_1 2)) ∧ w'.cell? ⟨ad193.block, ad193.off + 1, none⟩ = some (.int .u32 (rd x8_1 1)) ∧ w'.cell? ⟨ad193.block, ad193.off + 2, none⟩ = some (.int .u32 (rd x8_1 2))) (ds := []) #[false, false, false, false, false, false, false, false, false, false, false, false, false, false, false, false, false, false, false, false, false, false, false, false, false, false, false, false, false] (by kernel_rfl) rfl rfl ⟨hx206_0, hx207_0, hx208_0, hx209_0⟩ (fun hHeld => ?_); refine with_tabW padlockref01_Come.tab9 padlockref01_Come.bits9 (fun HT_ HW_ => ?_)
                                generalize w29.drew = w31 at HO_7 HO_8 HB hx206_0 hx207_0 hx208_0 hx209_0 hHeld ⊢
                                refine pure_ (i := 0) (N := some 66) (v := ?_) (a' := ?_) #[true, false, false, false, false, false, false, false, false, false, false, false, false, false, false, false, false, false, false, false, false, false, false, false, false, false, false, false, false] rfl rfl (any_of HT_.out (by kernel_rfl)) (fun _ _ _ h => h) (Or.inl ⟨by rfl, ?_⟩) ?_ ?_
                                rotate_left
                                · intro w'
                                  go_simp
                                  with_reducible rfl
                                rotate_left
                                · simp only [Act.put, List.setIfInBounds_toArray, List.set_cons_zero, List.set_cons_succ, i64_w, i32_w]
                                  rfl
                                refine pure_ (i := 2) (N := some 68) (v := ?_) (a' := ?_) #[true, false, true, false, false, false, false, false, false, false, false, false, false, false, false, false, false, false, false, false, false, false, false, false, false, false, false, false, false] rfl rfl (any_of HT_.out (by kernel_rfl)) (fun _ _ _ h => h) (Or.inl ⟨by rfl, ?_⟩) ?_ ?_
                                rotate_left
                                · intro w'
                                  go_simp
                                  with_reducible rfl
                                rotate_left
                                · simp only [Act.put, List.setIfInBounds_toArray, List.set_cons_zero, List.set_cons_succ, i64_w, i32_w]
                                  rfl
                                refine pure_ (i := 5) (N := some 71) (v := ?_) (a' := ?_) #[true, false, true, false, false, true, false, false, false, false, false, false, false, false, false, false, false, false, false, false, false, false, false, false, false, false, false, false, false] rfl rfl (any_of HT_.out (by kernel_rfl)) (fun _ _ _ h => h) (Or.inl ⟨by rfl, ?_⟩) ?_ ?_
                                rotate_left
                                · intro w'
                                  go_simp
                                  with_reducible rfl
                                rotate_left
                                · simp only [Act.put, List.setIfInBounds_toArray, List.set_cons_zero, List.set_cons_succ, i64_w, i32_w]
                                  rfl
                                refine pure_ (i := 8) (N := some 74) (v := ?_) (a' := ?_) #[true, false, true, false, false, true, false, false, true, false, false, false, false, false, false, false, false, false, false, false, false, false, false, false, false, false, false, false, false] rfl rfl (any_of HT_.out (by kernel_rfl)) (fun _ _ _ h => h) (Or.inl ⟨by rfl, ?_⟩) ?_ ?_
                                rotate_left
                                · intro w'
                                  go_simp
                                  with_reducible rfl
                                rotate_left
                                · simp only [Act.put, List.setIfInBounds_toArray, List.set_cons_zero, List.set_cons_succ, i64_w, i32_w]
                                  rfl
                                refine pure_ (i := 9) (N := some 75) (v := ?_) (a' := ?_) #[true, false, true, false, false, true, false, false, true, true, false, false, false, false, false, false, false, false, false, false, false, false, false, false, false, false, false, false, false] rfl rfl (any_of HT_.out (by kernel_rfl)) (fun _ _ _ h => h) (Or.inl ⟨by rfl, ?_⟩) ?_ ?_
                                rotate_left
                                · intro w'
                                  go_simp
                                  with_reducible rfl
                                rotate_left
                                · simp only [Act.put, List.setIfInBounds_toArray, List.set_cons_zero, List.set_cons_succ, i64_w, i32_w]
                                  rfl
                                refine pure_ (i := 10) (N := some 76) (v := ?_) (a' := ?_) #[true, false, true, false, false, true, false, false, true, true, true, false, false, false, false, false, false, false, false, false, false, false, false, false, false, false, false, false, false] rfl rfl (any_of HT_.out (by kernel_rfl)) (fun _ _ _ h => h) (Or.inl ⟨by rfl, ?_⟩) ?_ ?_
                                rotate_left
                                · intro w'
                                  go_simp
                                  with_reducible rfl
                                rotate_left
                                · simp only [Act.put, List.setIfInBounds_toArray, List.set_cons_zero, List.set_cons_succ, i64_w, i32_w]
                                  rfl
                                refine pure_ (i := 13) (N := some 79) (v := ?_) (a' := ?_) #[true, false, true, false, false, true, false, false, true, true, true, false, false, true, false, false, false, false, false, false, false, false, false, false, false, false, false, false, false] rfl rfl (any_of HT_.out (by kernel_rfl)) (fun _ _ _ h => h) (Or.inl ⟨by rfl, ?_⟩) ?_ ?_
                                rotate_left
                                · intro w'
                                  go_simp
                                  with_reducible rfl
                                rotate_left
                                · simp only [Act.put, List.setIfInBounds_toArray, List.set_cons_zero, List.set_cons_succ, i64_w, i32_w]
                                  rfl
                                refine pure_ (i := 14) (N := some 80) (v := ?_) (a' := ?_) #[true, false, true, false, false, true, false, false, true, true, true, false, false, true, true, false, false, false, false, false, false, false, false, false, false, false, false, false, false] rfl rfl (any_of HT_.out (by kernel_rfl)) (fun _ _ _ h => h) (Or.inl ⟨by rfl, ?_⟩) ?_ ?_
                                rotate_left
                                · intro w'
                                  go_simp
                                  with_reducible rfl
                                rotate_left
                                · simp only [Act.put, List.setIfInBounds_toArray, List.set_cons_zero, List.set_cons_succ, i64_w, i32_w]
                                  rfl
                                refine pure_ (i := 15) (N := some 81) (v := ?_) (a' := ?_) #[true, false, true, false, false, true, false, false, true, true, true, false, false, true, true, true, false, false, false, false, false, false, false, false, false, false, false, false, false] rfl rfl (any_of HT_.out (by kernel_rfl)) (fun _ _ _ h => h) (Or.inl ⟨by rfl, ?_⟩) ?_ ?_
                                rotate_left
                                · intro w'
                                  go_simp
                                  with_reducible rfl
                                rotate_left
                                · simp only [Act.put, List.setIfInBounds_toArray, List.set_cons_zero, List.set_cons_succ, i64_w, i32_w]
                                  rfl
                                refine pure_ (i := 19) (N := some 85) (v := ?_) (a' := ?_) #[true, false, true, false, false, true, false, false, true, true, true, false, false, true, true, true, false, false, false, true, false, false, false, false, false, false, false, false, false] rfl rfl (any_of HT_.out (by kernel_rfl)) (fun _ _ _ h => h) (Or.inl ⟨by rfl, ?_⟩) ?_ ?_
                                rotate_left
                                · intro w'
                                  go_simp
                                  with_reducible rfl
                                rotate_left
                                · simp only [Act.put, List.setIfInBounds_toArray, List.set_cons_zero, List.set_cons_succ, i64_w, i32_w]
                                  rfl
                                refine pure_ (i := 20) (N := some 86) (v := ?_) (a' := ?_) #[true, false, true, false, false, true, false, false, true, true, true, false, false, true, true, true, false, false, false, true, true, false, false, false, false, false, false, false, false] rfl rfl (any_of HT_.out (by kernel_rfl)) (fun _ _ _ h => h) (Or.inl ⟨by rfl, ?_⟩) ?_ ?_
                                rotate_left
                                · intro w'
                                  go_simp
                                  with_reducible rfl
                                rotate_left
                                · simp only [Act.put, List.setIfInBounds_toArray, List.set_cons_zero, List.set_cons_succ, i64_w, i32_w]
                                  rfl
                                refine pure_ (i := 22) (N := some 88) (v := ?_) (a' := ?_) #[true, false, true, false, false, true, false, false, true, true, true, false, false, true, true, true, false, false, false, true, true, false, true, false, false, false, false, false, false] rfl rfl (any_of HT_.out (by kernel_rfl)) (fun _ _ _ h => h) (Or.inl ⟨by rfl, ?_⟩) ?_ ?_
                                rotate_left
                                · intro w'
                                  go_simp
                                  with_reducible rfl
                                rotate_left
                                · simp only [Act.put, List.setIfInBounds_toArray, List.set_cons_zero, List.set_cons_succ, i64_w, i32_w]
                                  rfl
                                refine pure_ (i := 23) (N := some 89) (v := ?_) (a' := ?_) #[true, false, true, false, false, true, false, false, true, true, true, false, false, true, true, true, false, false, false, true, true, false, true, true, false, false, false, false, false] rfl rfl (any_of HT_.out (by kernel_rfl)) (fun _ _ _ h => h) (Or.inl ⟨by rfl, ?_⟩) ?_ ?_
                                rotate_left
                                · intro w'
                                  go_simp
                                  with_reducible rfl
                                rotate_left
                                · simp only [Act.put, List.setIfInBounds_toArray, List.set_cons_zero, List.set_cons_succ, i64_w, i32_w]
                                  rfl
                                refine take_ (i := 11) (N := some 77) (v := ?_) (a' := ?_) #[true, false, true, false, false, true, false, false, true, true, true, true, false, true, true, true, false, false, false, true, true, false, true, true, false, false, false, false, false] rfl rfl (take_ofW HT_.out HW_.out (by kernel_rfl)) (fun _ _ _ h => h) (Or.inl ⟨by rfl, ?_⟩) hHeld ?_ ?_
                                rotate_left
                                · rintro w' ⟨s0, s1, s2, s3⟩
                                  go_simp
                                  with_reducible rfl
                                rotate_left
                                · simp only [Act.put, List.setIfInBounds_toArray, List.set_cons_zero, List.set_cons_succ, i64_w, i32_w]
                                  rfl
                                refine pure_ (i := 12) (N := some 78) (v := ?_) (a' := ?_) #[true, false, true, false, false, true, false, false, true, true, true, true, true, true, true, true, false, false, false, true, true, false, true, true, false, false, false, false, false] rfl rfl (any_of HT_.out (by kernel_rfl)) (fun _ _ _ h => h) (Or.inl ⟨by rfl, ?_⟩) ?_ ?_
                                rotate_left
                                · intro w'
                                  go_simp
                                  with_reducible rfl
                                rotate_left
                                · simp only [Act.put, List.setIfInBounds_toArray, List.set_cons_zero, List.set_cons_succ, i64_w, i32_w]
                                  rfl
                                refine take_ (i := 16) (N := some 82) (v := ?_) (a' := ?_) #[true, false, true, false, false, true, false, false, true, true, true, true, true, true, true, true, true, false, false, true, true, false, true, true, false, false, false, false, false] rfl rfl (take_ofW HT_.out HW_.out (by kernel_rfl)) (fun _ _ _ h => h) (Or.inl ⟨by rfl, ?_⟩) hHeld ?_ ?_
                                rotate_left
                                · rintro w' ⟨s0, s1, s2, s3⟩
                                  go_simp
                                  with_reducible rfl
                                rotate_left
                                · simp only [Act.put, List.setIfInBounds_toArray, List.set_cons_zero, List.set_cons_succ, i64_w, i32_w]
                                  rfl
                                refine pure_ (i := 17) (N := some 83) (v := ?_) (a' := ?_) #[true, false, true, false, false, true, false, false, true, true, true, true, true, true, true, true, true, true, false, true, true, false, true, true, false, false, false, false, false] rfl rfl (any_of HT_.out (by kernel_rfl)) (fun _ _ _ h => h) (Or.inl ⟨by rfl, ?_⟩) ?_ ?_
                                rotate_left
                                · intro w'
                                  go_simp
                                  with_reducible rfl
                                rotate_left
                                · simp only [Act.put, List.setIfInBounds_toArray, List.set_cons_zero, List.set_cons_succ, i64_w, i32_w]
                                  rfl
                                refine pure_ (i := 18) (N := some 84) (v := ?_) (a' := ?_) #[true, false, true, false, false, true, false, false, true, true, true, true, true, true, true, true, true, true, true, true, true, false, true, true, false, false, false, false, false] rfl rfl (any_of HT_.out (by kernel_rfl)) (fun _ _ _ h => h) (Or.inl ⟨by rfl, ?_⟩) ?_ ?_
                                rotate_left
                                · intro w'
                                  go_simp
                                  with_reducible rfl
                                rotate_left
                                · simp only [Act.put, List.setIfInBounds_toArray, List.set_cons_zero, List.set_cons_succ, i64_w, i32_w]
                                  rfl
                                refine take_ (i := 21) (N := some 87) (v := ?_) (a' := ?_) #[true, false, true, false, false, true, false, false, true, true, true, true, true, true, true, true, true, true, true, true, true, true, true, true, false, false, false, false, false] rfl rfl (take_ofW HT_.out HW_.out (by kernel_rfl)) (fun _ _ _ h => h) (Or.inl ⟨by rfl, ?_⟩) hHeld ?_ ?_
                                rotate_left
                                · rintro w' ⟨s0, s1, s2, s3⟩
                                  go_simp
                                  with_reducible rfl
                                rotate_left
                                · simp only [Act.put, List.setIfInBounds_toArray, List.set_cons_zero, List.set_cons_succ, i64_w, i32_w]
                                  rfl
                                refine take_ (i := 24) (N := some 90) (v := ?_) (a' := ?_) #[true, false, true, false, false, true, false, false, true, true, true, true, true, true, true, true, true, true, true, true, true, true, true, true, true, false, false, false, false] rfl rfl (take_ofW HT_.out HW_.out (by kernel_rfl)) (fun _ _ _ h => h) (Or.inl ⟨by rfl, ?_⟩) hHeld ?_ ?_
                                rotate_left
                                · rintro w' ⟨s0, s1, s2, s3⟩
                                  go_simp
                                  with_reducible rfl
                                rotate_left
                                · simp only [Act.put, List.setIfInBounds_toArray, List.set_cons_zero, List.set_cons_succ, i64_w, i32_w]
                                  rfl
                                refine pure_ (i := 25) (N := some 91) (v := ?_) (a' := ?_) #[true, false, true, false, false, true, false, false, true, true, true, true, true, true, true, true, true, true, true, true, true, true, true, true, true, true, false, false, false] rfl rfl (any_of HT_.out (by kernel_rfl)) (fun _ _ _ h => h) (Or.inl ⟨by rfl, ?_⟩) ?_ ?_
                                rotate_left
                                · intro w'
                                  go_simp
                                  with_reducible rfl
                                rotate_left
                                · simp only [Act.put, List.setIfInBounds_toArray, List.set_cons_zero, List.set_cons_succ, i64_w, i32_w]
                                  rfl
                                refine pure_ (i := 26) (N := some 92) (v := ?_) (a' := ?_) #[true, false, true, false, false, true, false, false, true, true, true, true, true, true, true, true, true, true, true, true, true, true, true, true, true, true, true, false, false] rfl rfl (any_of HT_.out (by kernel_rfl)) (fun _ _ _ h => h) (Or.inl ⟨by rfl, ?_⟩) ?_ ?_
                                rotate_left
                                · intro w'
                                  go_simp
                                  with_reducible rfl
                                rotate_left
                                · simp only [Act.put, List.setIfInBounds_toArray, List.set_cons_zero, List.set_cons_succ, i64_w, i32_w]
                                  rfl
                                refine one_ (i := 1) (N := some 67) #[true, true, true, false, false, true, false, false, true, true, true, true, true, true, true, true, true, true, true, true, true, true, true, true, true, true, true, false, false] rfl rfl (one_of HT_.out (by kernel_rfl)) (by decide) (fun K hK => ?_)
                                refine goes_ Try.func141 (by kernel_rfl) rfl #[.int .u32 (rd x8_1 0), .int .i64 2] (by rfl) rfl rfl (by (try simp only [List.map_toArray, List.map_cons, List.map_nil]); first | done | rfl | (simp only [List.length_drop, List.length_take]; rfl)) ?_
                                with_reducible refine (padlockref01_Turn.calls k1 (rd x8_1 0) 2 t203 _ A22.out).mono ?_
                                rintro e w' ⟨rfl, ⟨nd, rfl⟩⟩
                                refine ⟨_, rfl, ?_⟩
                                refine hK.out _ _ ⟨hHeld.1, hHeld.2.1, hHeld.2.2.1, hHeld.2.2.2⟩ (fun hHeld => ?_)
                                clear hK K
                                refine norm_ (a' := ?_) ?_ ?_
                                rotate_left
                                · show Act.put _ (some 67) _ = _
                                  simp only [Act.put, List.setIfInBounds_toArray, List.set_cons_zero, List.set_cons_succ, i64_w, i32_w]
                                  rfl
                                refine one_ (i := 3) (N := some 69) #[true, true, true, true, false, true, false, false, true, true, true, true, true, true, true, true, true, true, true, true, true, true, true, true, true, true, true, false, false] rfl rfl (one_of HT_.out (by kernel_rfl)) (by decide) (fun K hK => ?_)
                                refine goes_ Try.func141 (by kernel_rfl) rfl #[.int .u32 (rd x8_1 0), .int .i64 13] (by rfl) rfl rfl (by (try simp only [List.map_toArray, List.map_cons, List.map_nil]); first | done | rfl | (simp only [List.length_drop, List.length_take]; rfl)) ?_
                                with_reducible refine (padlockref01_Turn.calls k1 (rd x8_1 0) 13 t204 _ A23.out).mono ?_
                                rintro e w' ⟨rfl, ⟨nd, rfl⟩⟩
                                refine ⟨_, rfl, ?_⟩
                                refine hK.out _ _ ⟨hHeld.1, hHeld.2.1, hHeld.2.2.1, hHeld.2.2.2⟩ (fun hHeld => ?_)
                                clear hK K
                                refine norm_ (a' := ?_) ?_ ?_
                                rotate_left
                                · show Act.put _ (some 69) _ = _
                                  simp only [Act.put, List.setIfInBounds_toArray, List.set_cons_zero, List.set_cons_succ, i64_w, i32_w]
                                  rfl
                                refine pure_ (i := 4) (N := some 70) (v := ?_) (a' := ?_) #[true, true, true, true, true, true, false, false, true, true, true, true, true, true, true, true, true, true, true, true, true, true, true, true, true, true, true, false, false] rfl rfl (any_of HT_.out (by kernel_rfl)) (fun _ _ _ h => h) (Or.inl ⟨by rfl, ?_⟩) ?_ ?_
                                rotate_left
                                · intro w'
                                  go_simp
                                  with_reducible rfl
                                rotate_left
                                · simp only [Act.put, List.setIfInBounds_toArray, List.set_cons_zero, List.set_cons_succ, i64_w, i32_w]
                                  rfl
                                refine one_ (i := 6) (N := some 72) #[true, true, true, true, true, true, true, false, true, true, true, true, true, true, true, true, true, true, true, true, true, true, true, true, true, true, true, false, false] rfl rfl (one_of HT_.out (by kernel_rfl)) (by decide) (fun K hK => ?_)
                                refine goes_ Try.func141 (by kernel_rfl) rfl #[.int .u32 (rd x8_1 0), .int .i64 22] (by rfl) rfl rfl (by (try simp only [List.map_toArray, List.map_cons, List.map_nil]); first | done | rfl | (simp only [List.length_drop, List.length_take]; rfl)) ?_
                                with_reducible refine (padlockref01_Turn.calls k1 (rd x8_1 0) 22 t205 _ A24.out).mono ?_
                                rintro e w' ⟨rfl, ⟨nd, rfl⟩⟩
                                refine ⟨_, rfl, ?_⟩
                                refine hK.out _ _ ⟨hHeld.1, hHeld.2.1, hHeld.2.2.1, hHeld.2.2.2⟩ (fun hHeld => ?_)
                                clear hK K
                                refine norm_ (a' := ?_) ?_ ?_
                                rotate_left
                                · show Act.put _ (some 72) _ = _
                                  simp only [Act.put, List.setIfInBounds_toArray, List.set_cons_zero, List.set_cons_succ, i64_w, i32_w]
                                  rfl
                                refine pure_ (i := 7) (N := some 73) (v := ?_) (a' := ?_) #[true, true, true, true, true, true, true, true, true, true, true, true, true, true, true, true, true, true, true, true, true, true, true, true, true, true, true, false, false] rfl rfl (any_of HT_.out (by kernel_rfl)) (fun _ _ _ h => h) (Or.inl ⟨by rfl, ?_⟩) ?_ ?_
                                rotate_left
                                · intro w'
                                  go_simp
                                  with_reducible rfl
                                rotate_left
                                · simp only [Act.put, List.setIfInBounds_toArray, List.set_cons_zero, List.set_cons_succ, i64_w, i32_w]
                                  rfl
                                refine pure_ (i := 27) (N := some 93) (v := ?_) (a' := ?_) #[true, true, true, true, true, true, true, true, true, true, true, true, true, true, true, true, true, true, true, true, true, true, true, true, true, true, true, true, false] rfl rfl (any_of HT_.out (by kernel_rfl)) (fun _ _ _ h => h) (Or.inl ⟨by rfl, ?_⟩) ?_ ?_
                                rotate_left
                                · intro w'
                                  go_simp
                                  with_reducible rfl
                                rotate_left
                                · simp only [Act.put, List.setIfInBounds_toArray, List.set_cons_zero, List.set_cons_succ, i64_w, i32_w]
                                  rfl
                                refine pure_ (i := 28) (N := some 13) (v := ?_) (a' := ?_) #[true, true, true, true, true, true, true, true, true, true, true, true, true, true, true, true, true, true, true, true, true, true, true, true, true, true, true, true, true] rfl rfl (any_of HT_.out (by kernel_rfl)) (fun _ _ _ h => h) (Or.inl ⟨by rfl, ?_⟩) ?_ ?_
                                rotate_left
                                · intro w'
                                  go_simp
                                  with_reducible rfl
                                rotate_left
                                · simp only [Act.put, List.setIfInBounds_toArray, List.set_cons_zero, List.set_cons_succ, i64_w, i32_w]
                                  rfl
                                refine done_ (done_of HT_.out (by kernel_rfl)) ?_
                                try go_wp2
                                (try (rw [drewN_self w31]; generalize hq_ : World.drewN w31 _ = w31; have n0_ : Aside0 (Kd.R (Kd.int .u32) 179 w31 w.heap.size (fun k_ => some k_ ≠ (.slice (some ad193) x8_1.length co28 : Value).ownBlock) (.slice (some ad202) t184.length co30) t184) := ⟨by rw [← hq_]; exact (by (with_reducible repeat (first | apply Kd.R_alloc | apply Kd.R_drewN | apply Kd.R_drew)); exact HO_7.out)⟩; have n1_ : Aside0 (Kd.R (Kd.int .u32) 179 w31 w.heap.size (fun k_ => some k_ ≠ (.slice (some ad202) t184.length co30 : Value).ownBlock) (.slice (some ad193) x8_1.length co28) x8_1) := ⟨by rw [← hq_]; exact (by (with_reducible repeat (first | apply Kd.R_alloc | apply Kd.R_drewN | apply Kd.R_drew)); exact HO_8.out)⟩; have n2_ : Aside0 (Below w.heap.size w w31) := ⟨by rw [← hq_]; exact (by repeat (first | (with_reducible first | exact HB.out | apply below_alloc | apply pw_below_drewN | apply below_drew1) | exact HB.out))⟩; clear HO_7 HO_8 HB hq_; have HO_7 := n0_; have HO_8 := n1_; have HB := n2_; clear n0_ n1_ n2_))
                                have n0_ := Aside0.mk (Kd.R_drew HO_7.out)
                                have n1_ := Aside0.mk (Kd.R_drew HO_8.out)
                                have n2_ := Aside0.mk (below_drew1 HB.out)
                                clear HO_7
                                clear HO_8
                                clear HB
                                have HO_7 := n0_
                                have HO_8 := n1_
                                have HB := n2_
                                clear n0_ n1_ n2_
                                have p210 : 0 ≤ (0 : Int) := (by omega)
                                have q210 : 0 < (x8_1.length : Int) := of_decide_eq_true (by first | (with_reducible assumption) | assumption)
                                obtain ⟨ad210, e210, hx210_0⟩ := Kd.at_int (Kd.R_reads' HO_8.out).2.2 0 p210 q210
                                obtain rfl : ad193 = ad210 := (by injection e210)
                                have qi210 : (0 < x8_1.length) = True := eq_true (by omega)
                                (try rw [show ((0 : Int)).toNat = 0 from rfl] at hx210_0)
                                (try rw [Addr.add_zero'] at hx210_0)
                                replace p210 := eq_true p210
                                replace q210 := eq_true q210
                                have p211 : 0 ≤ (1 : Int) := (by omega)
                                have q211 : 1 < (x8_1.length : Int) := of_decide_eq_true (by first | (with_reducible assumption) | assumption)
                                obtain ⟨ad211, e211, hx211_0⟩ := Kd.at_int (Kd.R_reads' HO_8.out).2.2 1 p211 q211
                                obtain rfl : ad193 = ad211 := (by injection e211)
                                (try simp only [show (1 : Int).toNat = 1 from rfl, Nat.reduceMul, Nat.reduceEqDiff, Go.Addr.add, ↓reduceIte] at hx211_0)
                                have qi211 : (1 < x8_1.length) = True := eq_true (by omega)
                                (try rw [show ((1 : Int)).toNat = 1 from rfl] at hx211_0)
                                replace p211 := eq_true p211
                                replace q211 := eq_true q211
                                have p212 : 0 ≤ (2 : Int) := (by omega)
                                have q212 : 2 < (x8_1.length : Int) := of_decide_eq_true (by first | (with_reducible assumption) | assumption)
                                obtain ⟨ad212, e212, hx212_0⟩ := Kd.at_int (Kd.R_reads' HO_8.out).2.2 2 p212 q212
                                obtain rfl : ad193 = ad212 := (by injection e212)
                                (try simp only [show (2 : Int).toNat = 2 from rfl, Nat.reduceMul, Nat.reduceEqDiff, Go.Addr.add, ↓reduceIte] at hx212_0)
                                have qi212 : (2 < x8_1.length) = True := eq_true (by omega)
                                (try rw [show ((2 : Int)).toNat = 2 from rfl] at hx212_0)
                                replace p212 := eq_true p212
                                replace q212 := eq_true q212
                                have p213 : 0 ≤ (3 : Int) := (by omega)
                                have q213 : 3 < (x8_1.length : Int) := of_decide_eq_true (by first | (with_reducible assumption) | assumption)
                                obtain ⟨ad213, e213, hx213_0⟩ := Kd.at_int (Kd.R_reads' HO_8.out).2.2 3 p213 q213
                                obtain rfl : ad193 = ad213 := (by injection e213)
                                (try simp only [show (3 : Int).toNat = 3 from rfl, Nat.reduceMul, Nat.reduceEqDiff, Go.Addr.add, ↓reduceIte] at hx213_0)
                                have qi213 : (3 < x8_1.length) = True := eq_true (by omega)
                                (try rw [show ((3 : Int)).toNat = 3 from rfl] at hx213_0)
                                replace p213 := eq_true p213
                                replace q213 := eq_true q213
                                have p214 : 0 ≤ (4 : Int) := (by omega)
                                have q214 : 4 < (x8_1.length : Int) := of_decide_eq_true (by first | (with_reducible assumption) | assumption)
                                obtain ⟨ad214, e214, hx214_0⟩ := Kd.at_int (Kd.R_reads' HO_8.out).2.2 4 p214 q214
                                obtain rfl : ad193 = ad214 := (by injection e214)
                                (try simp only [show (4 : Int).toNat = 4 from rfl, Nat.reduceMul, Nat.reduceEqDiff, Go.Addr.add, ↓reduceIte] at hx214_0)
                                have qi214 : (4 < x8_1.length) = True := eq_true (by omega)
                                (try rw [show ((4 : Int)).toNat = 4 from rfl] at hx214_0)
                                replace p214 := eq_true p214
                                replace q214 := eq_true q214
                                have p215 : 0 ≤ (5 : Int) := (by omega)
                                have q215 : 5 < (x8_1.length : Int) := of_decide_eq_true (by first | (with_reducible assumption) | assumption)
                                obtain ⟨ad215, e215, hx215_0⟩ := Kd.at_int (Kd.R_reads' HO_8.out).2.2 5 p215 q215
                                obtain rfl : ad193 = ad215 := (by injection e215)
                                (try simp only [show (5 : Int).toNat = 5 from rfl, Nat.reduceMul, Nat.reduceEqDiff, Go.Addr.add, ↓reduceIte] at hx215_0)
                                have qi215 : (5 < x8_1.length) = True := eq_true (by omega)
                                (try rw [show ((5 : Int)).toNat = 5 from rfl] at hx215_0)
                                replace p215 := eq_true p215
                                replace q215 := eq_true q215
                                have p216 : 0 ≤ (6 : Int) := (by omega)
                                have q216 : 6 < (x8_1.length : Int) := of_decide_eq_true (by first | (with_reducible assumption) | assumption)
                                obtain ⟨ad216, e216, hx216_0⟩ := Kd.at_int (Kd.R_reads' HO_8.out).2.2 6 p216 q216
                                obtain rfl : ad193 = ad216 := (by injection e216)
                                (try simp only [show (6 : Int).toNat = 6 from rfl, Nat.reduceMul, Nat.reduceEqDiff, Go.Addr.add, ↓reduceIte] at hx216_0)
                                have qi216 : (6 < x8_1.length) = True := eq_true (by omega)
                                (try rw [show ((6 : Int)).toNat = 6 from rfl] at hx216_0)
                                replace p216 := eq_true p216
                                replace q216 := eq_true q216
                                refine start_ (n := 28) (S := fun w' => w'.cell? ad193 = some (.int .u32 (rd x8_1 0)) ∧ w'.cell? ⟨ad193.block, ad193.off + 1, none⟩ = some (.int .u32 (rd x8_1 1)) ∧ w'.cell? ⟨ad193.block, ad193.off + 2, none⟩ = some (.int .u32 (rd x8_1 2)) ∧ w'.cell? ⟨ad193.block, ad193.off + 3, none⟩ = some (.int .u32 (rd x8_1 3)) ∧ w'.cell? ⟨ad193.block, ad193.off + 4, none⟩ = some (.int .u32 (rd x8_1 4)) ∧ w'.cell? ⟨ad193.block, ad193.off + 5, none⟩ = some (.int .u32 (rd x8_1 5)) ∧ w'.cell? ⟨ad193.block, ad193.off + 6, none⟩ = some (.int .u32 (rd x8_1 6))) (ds := []) #[false, false, false, false, false, false, false, false, false, false, false, false, false, false, false, false, false, false, false, false, false, false, false, false, false, false, false, false] (by kernel_rfl) rfl rfl ⟨hx210_0, hx211_0, hx212_0, hx213_0, hx214_0, hx215_0, hx216_0⟩ (fun hHeld => ?_); refine with_tabW padlockref01_Come.tab10 padlockref01_Come.bits10 (fun HT_ HW_ => ?_)
                                generalize w31.drew = w32 at HO_7 HO_8 HB hx210_0 hx211_0 hx212_0 hx213_0 hx214_0 hx215_0 hx216_0 hHeld ⊢
                                refine pure_ (i := 0) (N := some 94) (v := ?_) (a' := ?_) #[true, false, false, false, false, false, false, false, false, false, false, false, false, false, false, false, false, false, false, false, false, false, false, false, false, false, false, false] rfl rfl (any_of HT_.out (by kernel_rfl)) (fun _ _ _ h => h) (Or.inl ⟨by rfl, ?_⟩) ?_ ?_
                                rotate_left
                                · intro w'
                                  go_simp
                                  with_reducible rfl
                                rotate_left
                                · simp only [Act.put, List.setIfInBounds_toArray, List.set_cons_zero, List.set_cons_succ, i64_w, i32_w]
                                  rfl
                                refine pure_ (i := 1) (N := some 95) (v := ?_) (a' := ?_) #[true, true, false, false, false, false, false, false, false, false, false, false, false, false, false, false, false, false, false, false, false, false, false, false, false, false, false, false] rfl rfl (any_of HT_.out (by kernel_rfl)) (fun _ _ _ h => h) (Or.inl ⟨by rfl, ?_⟩) ?_ ?_
                                rotate_left
                                · intro w'
                                  go_simp
                                  with_reducible rfl
                                rotate_left
                                · simp only [Act.put, List.setIfInBounds_toArray, List.set_cons_zero, List.set_cons_succ, i64_w, i32_w]
                                  rfl
                                refine pure_ (i := 2) (N := some 96) (v := ?_) (a' := ?_) #[true, true, true, false, false, false, false, false, false, false, false, false, false, false, false, false, false, false, false, false, false, false, false, false, false, false, false, false] rfl rfl (any_of HT_.out (by kernel_rfl)) (fun _ _ _ h => h) (Or.inl ⟨by rfl, ?_⟩) ?_ ?_
                                rotate_left
                                · intro w'
                                  go_simp
                                  with_reducible rfl
                                rotate_left
                                · simp only [Act.put, List.setIfInBounds_toArray, List.set_cons_zero, List.set_cons_succ, i64_w, i32_w]
                                  rfl
                                refine pure_ (i := 3) (N := some 97) (v := ?_) (a' := ?_) #[true, true, true, true, false, false, false, false, false, false, false, false, false, false, false, false, false, false, false, false, false, false, false, false, false, false, false, false] rfl rfl (any_of HT_.out (by kernel_rfl)) (fun _ _ _ h => h) (Or.inl ⟨by rfl, ?_⟩) ?_ ?_
                                rotate_left
                                · intro w'
                                  go_simp
                                  with_reducible rfl
                                rotate_left
                                · simp only [Act.put, List.setIfInBounds_toArray, List.set_cons_zero, List.set_cons_succ, i64_w, i32_w]
                                  rfl
                                refine pure_ (i := 4) (N := some 98) (v := ?_) (a' := ?_) #[true, true, true, true, true, false, false, false, false, false, false, false, false, false, false, false, false, false, false, false, false, false, false, false, false, false, false, false] rfl rfl (any_of HT_.out (by kernel_rfl)) (fun _ _ _ h => h) (Or.inl ⟨by rfl, ?_⟩) ?_ ?_
                                rotate_left
                                · intro w'
                                  go_simp
                                  with_reducible rfl
                                rotate_left
                                · simp only [Act.put, List.setIfInBounds_toArray, List.set_cons_zero, List.set_cons_succ, i64_w, i32_w]
                                  rfl
                                refine pure_ (i := 6) (N := some 100) (v := ?_) (a' := ?_) #[true, true, true, true, true, false, true, false, false, false, false, false, false, false, false, false, false, false, false, false, false, false, false, false, false, false, false, false] rfl rfl (any_of HT_.out (by kernel_rfl)) (fun _ _ _ h => h) (Or.inl ⟨by rfl, ?_⟩) ?_ ?_
                                rotate_left
                                · intro w'
                                  go_simp
                                  with_reducible rfl
                                rotate_left
                                · simp only [Act.put, List.setIfInBounds_toArray, List.set_cons_zero, List.set_cons_succ, i64_w, i32_w]
                                  rfl
                                refine pure_ (i := 7) (N := some 101) (v := ?_) (a' := ?_) #[true, true, true, true, true, false, true, true, false, false, false, false, false, false, false, false, false, false, false, false, false, false, false, false, false, false, false, false] rfl rfl (any_of HT_.out (by kernel_rfl)) (fun _ _ _ h => h) (Or.inl ⟨by rfl, ?_⟩) ?_ ?_
                                rotate_left
                                · intro w'
                                  go_simp
                                  with_reducible rfl
                                rotate_left
                                · simp only [Act.put, List.setIfInBounds_toArray, List.set_cons_zero, List.set_cons_succ, i64_w, i32_w]
                                  rfl
                                refine pure_ (i := 9) (N := some 103) (v := ?_) (a' := ?_) #[true, true, true, true, true, false, true, true, false, true, false, false, false, false, false, false, false, false, false, false, false, false, false, false, false, false, false, false] rfl rfl (any_of HT_.out (by kernel_rfl)) (fun _ _ _ h => h) (Or.inl ⟨by rfl, ?_⟩) ?_ ?_
                                rotate_left
                                · intro w'
                                  go_simp
                                  with_reducible rfl
                                rotate_left
                                · simp only [Act.put, List.setIfInBounds_toArray, List.set_cons_zero, List.set_cons_succ, i64_w, i32_w]
                                  rfl
                                refine pure_ (i := 10) (N := some 104) (v := ?_) (a' := ?_) #[true, true, true, true, true, false, true, true, false, true, true, false, false, false, false, false, false, false, false, false, false, false, false, false, false, false, false, false] rfl rfl (any_of HT_.out (by kernel_rfl)) (fun _ _ _ h => h) (Or.inl ⟨by rfl, ?_⟩) ?_ ?_
                                rotate_left
                                · intro w'
                                  go_simp
                                  with_reducible rfl
                                rotate_left
                                · simp only [Act.put, List.setIfInBounds_toArray, List.set_cons_zero, List.set_cons_succ, i64_w, i32_w]
                                  rfl
                                refine pure_ (i := 12) (N := some 106) (v := ?_) (a' := ?_) #[true, true, true, true, true, false, true, true, false, true, true, false, true, false, false, false, false, false, false, false, false, false, false, false, false, false, false, false] rfl rfl (any_of HT_.out (by kernel_rfl)) (fun _ _ _ h => h) (Or.inl ⟨by rfl, ?_⟩) ?_ ?_
                                rotate_left
                                · intro w'
                                  go_simp
                                  with_reducible rfl
                                rotate_left
                                · simp only [Act.put, List.setIfInBounds_toArray, List.set_cons_zero, List.set_cons_succ, i64_w, i32_w]
                                  rfl
                                refine pure_ (i := 13) (N := some 107) (v := ?_) (a' := ?_) #[true, true, true, true, true, false, true, true, false, true, true, false, true, true, false, false, false, false, false, false, false, false, false, false, false, false, false, false] rfl rfl (any_of HT_.out (by kernel_rfl)) (fun _ _ _ h => h) (Or.inl ⟨by rfl, ?_⟩) ?_ ?_
                                rotate_left
                                · intro w'
                                  go_simp
                                  with_reducible rfl
                                rotate_left
                                · simp only [Act.put, List.setIfInBounds_toArray, List.set_cons_zero, List.set_cons_succ, i64_w, i32_w]
                                  rfl
                                refine pure_ (i := 15) (N := some 109) (v := ?_) (a' := ?_) #[true, true, true, true, true, false, true, true, false, true, true, false, true, true, false, true, false, false, false, false, false, false, false, false, false, false, false, false] rfl rfl (any_of HT_.out (by kernel_rfl)) (fun _ _ _ h => h) (Or.inl ⟨by rfl, ?_⟩) ?_ ?_
                                rotate_left
                                · intro w'
                                  go_simp
                                  with_reducible rfl
                                rotate_left
                                · simp only [Act.put, List.setIfInBounds_toArray, List.set_cons_zero, List.set_cons_succ, i64_w, i32_w]
                                  rfl
                                refine pure_ (i := 17) (N := some 111) (v := ?_) (a' := ?_) #[true, true, true, true, true, false, true, true, false, true, true, false, true, true, false, true, false, true, false, false, false, false, false, false, false, false, false, false] rfl rfl (any_of HT_.out (by kernel_rfl)) (fun _ _ _ h => h) (Or.inl ⟨by rfl, ?_⟩) ?_ ?_
                                rotate_left
                                · intro w'
                                  go_simp
                                  with_reducible rfl
                                rotate_left
                                · simp only [Act.put, List.setIfInBounds_toArray, List.set_cons_zero, List.set_cons_succ, i64_w, i32_w]
                                  rfl
                                refine pure_ (i := 18) (N := some 112) (v := ?_) (a' := ?_) #[true, true, true, true, true, false, true, true, false, true, true, false, true, true, false, true, false, true, true, false, false, false, false, false, false, false, false, false] rfl rfl (any_of HT_.out (by kernel_rfl)) (fun _ _ _ h => h) (Or.inl ⟨by rfl, ?_⟩) ?_ ?_
                                rotate_left
                                · intro w'
                                  go_simp
                                  with_reducible rfl
                                rotate_left
                                · simp only [Act.put, List.setIfInBounds_toArray, List.set_cons_zero, List.set_cons_succ, i64_w, i32_w]
                                  rfl
                                refine pure_ (i := 20) (N := some 114) (v := ?_) (a' := ?_) #[true, true, true, true, true, false, true, true, false, true, true, false, true, true, false, true, false, true, true, false, true, false, false, false, false, false, false, false] rfl rfl (any_of HT_.out (by kernel_rfl)) (fun _ _ _ h => h) (Or.inl ⟨by rfl, ?_⟩) ?_ ?_
                                rotate_left
                                · intro w'
                                  go_simp
                                  with_reducible rfl
                                rotate_left
                                · simp only [Act.put, List.setIfInBounds_toArray, List.set_cons_zero, List.set_cons_succ, i64_w, i32_w]
                                  rfl
                                refine pure_ (i := 21) (N := some 115) (v := ?_) (a' := ?_) #[true, true, true, true, true, false, true, true, false, true, true, false, true, true, false, true, false, true, true, false, true, true, false, false, false, false, false, false] rfl rfl (any_of HT_.out (by kernel_rfl)) (fun _ _ _ h => h) (Or.inl ⟨by rfl, ?_⟩) ?_ ?_
                                rotate_left
                                · intro w'
                                  go_simp
                                  with_reducible rfl
                                rotate_left
                                · simp only [Act.put, List.setIfInBounds_toArray, List.set_cons_zero, List.set_cons_succ, i64_w, i32_w]
                                  rfl
                                refine pure_ (i := 23) (N := some 117) (v := ?_) (a' := ?_) #[true, true, true, true, true, false, true, true, false, true, true, false, true, true, false, true, false, true, true, false, true, true, false, true, false, false, false, false] rfl rfl (any_of HT_.out (by kernel_rfl)) (fun _ _ _ h => h) (Or.inl ⟨by rfl, ?_⟩) ?_ ?_
                                rotate_left
                                · intro w'
                                  go_simp
                                  with_reducible rfl
                                rotate_left
                                · simp only [Act.put, List.setIfInBounds_toArray, List.set_cons_zero, List.set_cons_succ, i64_w, i32_w]
                                  rfl
                                refine pure_ (i := 24) (N := some 118) (v := ?_) (a' := ?_) #[true, true, true, true, true, false, true, true, false, true, true, false, true, true, false, true, false, true, true, false, true, true, false, true, true, false, false, false] rfl rfl (any_of HT_.out (by kernel_rfl)) (fun _ _ _ h => h) (Or.inl ⟨by rfl, ?_⟩) ?_ ?_
                                rotate_left
                                · intro w'
                                  go_simp
                                  with_reducible rfl
                                rotate_left
                                · simp only [Act.put, List.setIfInBounds_toArray, List.set_cons_zero, List.set_cons_succ, i64_w, i32_w]
                                  rfl
                                refine take_ (i := 5) (N := some 99) (v := ?_) (a' := ?_) #[true, true, true, true, true, true, true, true, false, true, true, false, true, true, false, true, false, true, true, false, true, true, false, true, true, false, false, false] rfl rfl (take_ofW HT_.out HW_.out (by kernel_rfl)) (fun _ _ _ h => h) (Or.inl ⟨by rfl, ?_⟩) hHeld ?_ ?_
                                rotate_left
                                · rintro w' ⟨s0, s1, s2, s3, s4, s5, s6⟩
                                  go_simp
                                  with_reducible rfl
                                rotate_left
                                · simp only [Act.put, List.setIfInBounds_toArray, List.set_cons_zero, List.set_cons_succ, i64_w, i32_w]
                                  rfl
                                refine take_ (i := 8) (N := some 102) (v := ?_) (a' := ?_) #[true, true, true, true, true, true, true, true, true, true, true, false, true, true, false, true, false, true, true, false, true, true, false, true, true, false, false, false] rfl rfl (take_ofW HT_.out HW_.out (by kernel_rfl)) (fun _ _ _ h => h) (Or.inl ⟨by rfl, ?_⟩) hHeld ?_ ?_
                                rotate_left
                                · rintro w' ⟨s0, s1, s2, s3, s4, s5, s6⟩
                                  go_simp
                                  with_reducible rfl
                                rotate_left
                                · simp only [Act.put, List.setIfInBounds_toArray, List.set_cons_zero, List.set_cons_succ, i64_w, i32_w]
                                  rfl
                                refine take_ (i := 11) (N := some 105) (v := ?_) (a' := ?_) #[true, true, true, true, true, true, true, true, true, true, true, true, true, true, false, true, false, true, true, false, true, true, false, true, true, false, false, false] rfl rfl (take_ofW HT_.out HW_.out (by kernel_rfl)) (fun _ _ _ h => h) (Or.inl ⟨by rfl, ?_⟩) hHeld ?_ ?_
                                rotate_left
                                · rintro w' ⟨s0, s1, s2, s3, s4, s5, s6⟩
                                  go_simp
                                  with_reducible rfl
                                rotate_left
                                · simp only [Act.put, List.setIfInBounds_toArray, List.set_cons_zero, List.set_cons_succ, i64_w, i32_w]
                                  rfl
                                refine take_ (i := 14) (N := some 108) (v := ?_) (a' := ?_) #[true, true, true, true, true, true, true, true, true, true, true, true, true, true, true, true, false, true, true, false, true, true, false, true, true, false, false, false] rfl rfl (take_ofW HT_.out HW_.out (by kernel_rfl)) (fun _ _ _ h => h) (Or.inl ⟨by rfl, ?_⟩) hHeld ?_ ?_
                                rotate_left
                                · rintro w' ⟨s0, s1, s2, s3, s4, s5, s6⟩
                                  go_simp
                                  with_reducible rfl
                                rotate_left
                                · simp only [Act.put, List.setIfInBounds_toArray, List.set_cons_zero, List.set_cons_succ, i64_w, i32_w]
                                  rfl
                                refine pure_ (i := 16) (N := some 110) (v := ?_) (a' := ?_) #[true, true, true, true, true, true, true, true, true, true, true, true, true, true, true, true, true, true, true, false, true, true, false, true, true, false, false, false] rfl rfl (any_of HT_.out (by kernel_rfl)) (fun _ _ _ h => h) (Or.inl ⟨by rfl, ?_⟩) ?_ ?_
                                rotate_left
                                · intro w'
                                  go_simp
                                  with_reducible rfl
                                rotate_left
                                · simp only [Act.put, List.setIfInBounds_toArray, List.set_cons_zero, List.set_cons_succ, i64_w, i32_w]
                                  rfl
                                refine take_ (i := 19) (N := some 113) (v := ?_) (a' := ?_) #[true, true, true, true, true, true, true, true, true, true, true, true, true, true, true, true, true, true, true, true, true, true, false, true, true, false, false, false] rfl rfl (take_ofW HT_.out HW_.out (by kernel_rfl)) (fun _ _ _ h => h) (Or.inl ⟨by rfl, ?_⟩) hHeld ?_ ?_
                                rotate_left
                                · rintro w' ⟨s0, s1, s2, s3, s4, s5, s6⟩
                                  go_simp
                                  with_reducible rfl
                                rotate_left
                                · simp only [Act.put, List.setIfInBounds_toArray, List.set_cons_zero, List.set_cons_succ, i64_w, i32_w]
                                  rfl
                                refine take_ (i := 22) (N := some 116) (v := ?_) (a' := ?_) #[true, true, true, true, true, true, true, true, true, true, true, true, true, true, true, true, true, true, true, true, true, true, true, true, true, false, false, false] rfl rfl (take_ofW HT_.out HW_.out (by kernel_rfl)) (fun _ _ _ h => h) (Or.inl ⟨by rfl, ?_⟩) hHeld ?_ ?_
                                rotate_left
                                · rintro w' ⟨s0, s1, s2, s3, s4, s5, s6⟩
                                  go_simp
                                  with_reducible rfl
                                rotate_left
                                · simp only [Act.put, List.setIfInBounds_toArray, List.set_cons_zero, List.set_cons_succ, i64_w, i32_w]
                                  rfl
                                refine take_ (i := 25) (N := some 119) (v := ?_) (a' := ?_) #[true, true, true, true, true, true, true, true, true, true, true, true, true, true, true, true, true, true, true, true, true, true, true, true, true, true, false, false] rfl rfl (take_ofW HT_.out HW_.out (by kernel_rfl)) (fun _ _ _ h => h) (Or.inl ⟨by rfl, ?_⟩) hHeld ?_ ?_
                                rotate_left
                                · rintro w' ⟨s0, s1, s2, s3, s4, s5, s6⟩
                                  go_simp
                                  with_reducible rfl
                                rotate_left
                                · simp only [Act.put, List.setIfInBounds_toArray, List.set_cons_zero, List.set_cons_succ, i64_w, i32_w]
                                  rfl
                                refine one_ (i := 26) (N := some 120) #[true, true, true, true, true, true, true, true, true, true, true, true, true, true, true, true, true, true, true, true, true, true, true, true, true, true, true, false] rfl rfl (one_of HT_.out (by kernel_rfl)) (by decide) (fun K hK => ?_)
                                refine Kd.R_lit_step (Kd.int .u32) _ 179 ?hg (N := 120) ?hd (xs := ([((((((((((rd x8_1 7) + (Go.bits .xor .u32 (Go.bits .xor .u32 t196 t197) t198)) % 4294967296) + (Go.bits .xor .u32 (Go.bits .and .u32 (rd x8_1 4) (rd x8_1 5)) (Go.bits .and .u32 ((4294967295 - (rd x8_1 4)) % 4294967296) (rd x8_1 6)))) % 4294967296) + (rd l2 x9_1)) % 4294967296) + (rd t184 x9_1)) % 4294967296) + (((Go.bits .xor .u32 (Go.bits .xor .u32 t203 t204) t205) + (Go.bits .xor .u32 (Go.bits .xor .u32 (Go.bits .and .u32 (rd x8_1 0) (rd x8_1 1)) (Go.bits .and .u32 (rd x8_1 0) (rd x8_1 2))) (Go.bits .and .u32 (rd x8_1 1) (rd x8_1 2)))) % 4294967296)) % 4294967296, rd x8_1 0, rd x8_1 1, rd x8_1 2, ((rd x8_1 3) + (((((((((rd x8_1 7) + (Go.bits .xor .u32 (Go.bits .xor .u32 t196 t197) t198)) % 4294967296) + (Go.bits .xor .u32 (Go.bits .and .u32 (rd x8_1 4) (rd x8_1 5)) (Go.bits .and .u32 ((4294967295 - (rd x8_1 4)) % 4294967296) (rd x8_1 6)))) % 4294967296) + (rd l2 x9_1)) % 4294967296) + (rd t184 x9_1)) % 4294967296)) % 4294967296, rd x8_1 4, rd x8_1 5, rd x8_1 6] : List Int)) (inner := [.int .u32 (((((((((((rd x8_1 7) + (Go.bits .xor .u32 (Go.bits .xor .u32 t196 t197) t198)) % 4294967296) + (Go.bits .xor .u32 (Go.bits .and .u32 (rd x8_1 4) (rd x8_1 5)) (Go.bits .and .u32 ((4294967295 - (rd x8_1 4)) % 4294967296) (rd x8_1 6)))) % 4294967296) + (rd l2 x9_1)) % 4294967296) + (rd t184 x9_1)) % 4294967296) + (((Go.bits .xor .u32 (Go.bits .xor .u32 t203 t204) t205) + (Go.bits .xor .u32 (Go.bits .xor .u32 (Go.bits .and .u32 (rd x8_1 0) (rd x8_1 1)) (Go.bits .and .u32 (rd x8_1 0) (rd x8_1 2))) (Go.bits .and .u32 (rd x8_1 1) (rd x8_1 2)))) % 4294967296)) % 4294967296), .int .u32 (rd x8_1 0), .int .u32 (rd x8_1 1), .int .u32 (rd x8_1 2), .int .u32 (((rd x8_1 3) + (((((((((rd x8_1 7) + (Go.bits .xor .u32 (Go.bits .xor .u32 t196 t197) t198)) % 4294967296) + (Go.bits .xor .u32 (Go.bits .and .u32 (rd x8_1 4) (rd x8_1 5)) (Go.bits .and .u32 ((4294967295 - (rd x8_1 4)) % 4294967296) (rd x8_1 6)))) % 4294967296) + (rd l2 x9_1)) % 4294967296) + (rd t184 x9_1)) % 4294967296)) % 4294967296), .int .u32 (rd x8_1 4), .int .u32 (rd x8_1 5), .int .u32 (rd x8_1 6)]) (ok := fun _ => True) (okp := fun _ => True) ?hr ?hp (fun _ hk => hk) trivial (Below.refl _ _) (Nat.le_refl _) (by simp) ?_; (case hd => rfl); (case hg => rfl); (case hr => first | (go_simp; done) | (go_simp; rfl) | (go_simp; simp only [IntKind.wrap_u32, IntKind.wrap_u8]; done) | (go_simp; simp only [IntKind.wrap_u32, IntKind.wrap_u8]; rfl) | (go_simp; simp [IntKind.wrap_u32, IntKind.wrap_u8]; done)); (case hp => exact (Reps.one (show Kd.M (Kd.int .u32) _ _ _ (((((((((((rd x8_1 7) + (Go.bits .xor .u32 (Go.bits .xor .u32 t196 t197) t198)) % 4294967296) + (Go.bits .xor .u32 (Go.bits .and .u32 (rd x8_1 4) (rd x8_1 5)) (Go.bits .and .u32 ((4294967295 - (rd x8_1 4)) % 4294967296) (rd x8_1 6)))) % 4294967296) + (rd l2 x9_1)) % 4294967296) + (rd t184 x9_1)) % 4294967296) + (((Go.bits .xor .u32 (Go.bits .xor .u32 t203 t204) t205) + (Go.bits .xor .u32 (Go.bits .xor .u32 (Go.bits .and .u32 (rd x8_1 0) (rd x8_1 1)) (Go.bits .and .u32 (rd x8_1 0) (rd x8_1 2))) (Go.bits .and .u32 (rd x8_1 1) (rd x8_1 2)))) % 4294967296)) % 4294967296) [.int .u32 (((((((((((rd x8_1 7) + (Go.bits .xor .u32 (Go.bits .xor .u32 t196 t197) t198)) % 4294967296) + (Go.bits .xor .u32 (Go.bits .and .u32 (rd x8_1 4) (rd x8_1 5)) (Go.bits .and .u32 ((4294967295 - (rd x8_1 4)) % 4294967296) (rd x8_1 6)))) % 4294967296) + (rd l2 x9_1)) % 4294967296) + (rd t184 x9_1)) % 4294967296) + (((Go.bits .xor .u32 (Go.bits .xor .u32 t203 t204) t205) + (Go.bits .xor .u32 (Go.bits .xor .u32 (Go.bits .and .u32 (rd x8_1 0) (rd x8_1 1)) (Go.bits .and .u32 (rd x8_1 0) (rd x8_1 2))) (Go.bits .and .u32 (rd x8_1 1) (rd x8_1 2)))) % 4294967296)) % 4294967296)] from rfl) (Reps.one (show Kd.M (Kd.int .u32) _ _ _ (rd x8_1 0) [.int .u32 (rd x8_1 0)] from rfl) (Reps.one (show Kd.M (Kd.int .u32) _ _ _ (rd x8_1 1) [.int .u32 (rd x8_1 1)] from rfl) (Reps.one (show Kd.M (Kd.int .u32) _ _ _ (rd x8_1 2) [.int .u32 (rd x8_1 2)] from rfl) (Reps.one (show Kd.M (Kd.int .u32) _ _ _ (((rd x8_1 3) + (((((((((rd x8_1 7) + (Go.bits .xor .u32 (Go.bits .xor .u32 t196 t197) t198)) % 4294967296) + (Go.bits .xor .u32 (Go.bits .and .u32 (rd x8_1 4) (rd x8_1 5)) (Go.bits .and .u32 ((4294967295 - (rd x8_1 4)) % 4294967296) (rd x8_1 6)))) % 4294967296) + (rd l2 x9_1)) % 4294967296) + (rd t184 x9_1)) % 4294967296)) % 4294967296) [.int .u32 (((rd x8_1 3) + (((((((((rd x8_1 7) + (Go.bits .xor .u32 (Go.bits .xor .u32 t196 t197) t198)) % 4294967296) + (Go.bits .xor .u32 (Go.bits .and .u32 (rd x8_1 4) (rd x8_1 5)) (Go.bits .and .u32 ((4294967295 - (rd x8_1 4)) % 4294967296) (rd x8_1 6)))) % 4294967296) + (rd l2 x9_1)) % 4294967296) + (rd t184 x9_1)) % 4294967296)) % 4294967296)] from rfl) (Reps.one (show Kd.M (Kd.int .u32) _ _ _ (rd x8_1 4) [.int .u32 (rd x8_1 4)] from rfl) (Reps.one (show Kd.M (Kd.int .u32) _ _ _ (rd x8_1 5) [.int .u32 (rd x8_1 5)] from rfl) (Reps.one (show Kd.M (Kd.int .u32) _ _ _ (rd x8_1 6) [.int .u32 (rd x8_1 6)] from rfl) (Reps.none _ _))))))))))
                                intro v218 w33 ho34 hb hg_ hnew_
                                have HS0_ := (hb.cell (World.block_lt_of_cell? _ _ (hHeld.1))).trans (hHeld.1)
                                have HS1_ := (hb.cell (World.block_lt_of_cell? _ _ (hHeld.2.1))).trans (hHeld.2.1)
                                have HS2_ := (hb.cell (World.block_lt_of_cell? _ _ (hHeld.2.2.1))).trans (hHeld.2.2.1)
                                have HS3_ := (hb.cell (World.block_lt_of_cell? _ _ (hHeld.2.2.2.1))).trans (hHeld.2.2.2.1)
                                have HS4_ := (hb.cell (World.block_lt_of_cell? _ _ (hHeld.2.2.2.2.1))).trans (hHeld.2.2.2.2.1)
                                have HS5_ := (hb.cell (World.block_lt_of_cell? _ _ (hHeld.2.2.2.2.2.1))).trans (hHeld.2.2.2.2.2.1)
                                have HS6_ := (hb.cell (World.block_lt_of_cell? _ _ (hHeld.2.2.2.2.2.2))).trans (hHeld.2.2.2.2.2.2)
                                clear hg_ hnew_
                                (first | rw [← Ny217.out] at ho34 | (simp only [Int.reduceToNat] at ho34; rw [← Ny217.out] at ho34))
                                have n0_ := Aside0.mk (Kd.R_elder' (by (with_reducible repeat (first | apply Kd.R_alloc | apply Kd.R_drewN | apply Kd.R_drew)); exact HO_7.out) (Kd.R_base ho34) hb)
                                have n1_ := Aside0.mk (Kd.R_elder' (by (with_reducible repeat (first | apply Kd.R_alloc | apply Kd.R_drewN | apply Kd.R_drew)); exact HO_8.out) (Kd.R_base ho34) hb)
                                have n2_ := Aside0.mk (Kd.R_lower (Kd.R_new' (Kd.R_new' ho34 (Kd.R_lt (by (with_reducible repeat (first | apply Kd.R_alloc | apply Kd.R_drewN | apply Kd.R_drew)); exact HO_7.out))) (Kd.R_lt (by (with_reducible repeat (first | apply Kd.R_alloc | apply Kd.R_drewN | apply Kd.R_drew)); exact HO_8.out))) (below_size (by repeat (first | (with_reducible first | exact HB.out | apply below_alloc | apply pw_below_drewN | apply below_drew1) | exact HB.out))))
                                have n3_ := Aside0.mk (below_step (by repeat (first | (with_reducible first | exact HB.out | apply below_alloc | apply pw_below_drewN | apply below_drew1) | exact HB.out)) hb)
                                clear HO_7
                                clear HO_8
                                clear HB
                                have HO_7 := n0_
                                have HO_8 := n1_
                                have HO219 := n2_
                                have HB := n3_
                                clear n0_ n1_ n2_ n3_
                                clear hb ho34
                                refine hK.out _ _ ⟨HS0_, HS1_, HS2_, HS3_, HS4_, HS5_, HS6_⟩ (fun hHeld => ?_)
                                clear hK K
                                refine norm_ (a' := ?_) ?_ ?_
                                rotate_left
                                · show Act.put _ (some 120) _ = _
                                  simp only [Act.put, List.setIfInBounds_toArray, List.set_cons_zero, List.set_cons_succ, i64_w, i32_w]
                                  rfl
                                refine pure_ (i := 27) (N := some 8) (v := ?_) (a' := ?_) #[true, true, true, true, true, true, true, true, true, true, true, true, true, true, true, true, true, true, true, true, true, true, true, true, true, true, true, true] rfl rfl (any_of HT_.out (by kernel_rfl)) (fun _ _ _ h => h) (Or.inl ⟨by rfl, ?_⟩) ?_ ?_
                                rotate_left
                                · intro w'
                                  go_simp
                                  with_reducible rfl
                                rotate_left
                                · simp only [Act.put, List.setIfInBounds_toArray, List.set_cons_zero, List.set_cons_succ, i64_w, i32_w]
                                  rfl
                                refine done_ (done_of HT_.out (by kernel_rfl)) ?_
                                try go_wp2
                                go_roundg k1
                                case measure => have := HK1.out; omega
                                case rel => exact ⟨(y217), (wrap64 (x9_1 + 1)), (by first | rfl | (simp; done) | (simp [*]; done) | (simp; omega)), H', ⟨by have := HK1.out; omega⟩, ⟨by (with_reducible repeat (first | apply Kd.R_alloc | apply Kd.R_drewN | apply Kd.R_drew)); exact Kd.R_mono HO_7.out (fun _ hk => hk.2)⟩, ⟨by (with_reducible repeat (first | apply Kd.R_alloc | apply Kd.R_drewN | apply Kd.R_drew)); exact Kd.R_mono HO219.out (fun _ hk => hk.1.2)⟩, ⟨by repeat (first | (with_reducible first | exact HB.out | apply below_alloc | apply pw_below_drewN | apply below_drew1) | exact HB.out)⟩⟩
                              · rw [if_neg c27] at H
                                exact absurd H (by simp)
                            · rw [if_neg c26] at H
                              exact absurd H (by simp)
                          · rw [if_neg c25] at H
                            exact absurd H (by simp)
                        · rw [if_neg c21] at H
                          exact absurd H (by simp)
                      · rw [if_neg c20] at H
                        exact absurd H (by simp)
                    · rw [if_neg c19] at H
                      exact absurd H (by simp)
                  · rw [if_neg c18] at H
                    exact absurd H (by simp)
                · rw [if_neg c17] at H
                  exact absurd H (by simp)
              · rw [if_neg c13] at H
                exact absurd H (by simp)
            · rw [if_neg c12] at H
              exact absurd H (by simp)
          · rw [if_neg c11] at H
            exact absurd H (by simp)
        · rw [if_neg c10] at H
          have c10b0 : decide (x9_1 < 64) = false := decide_eq_false c10
          clear c10
          have H' := Aside0.mk H
          clear H
          go_wp2
          go_loopg [14, 15] k1 (fun kq v14 v15 w' => ∃ (x14_2 : List Int) (x15_2 : Int), v15 = .int .i64 x15_2 ∧ Aside0 (padlockref01_Come.l1 kq l0 x8_1 x14_2 x15_2 = some r) ∧ Aside0 (kq ≤ k1) ∧ Aside0 (Kd.R (Kd.int .u32) 179 w' w.heap.size (fun k_ => some k_ ≠ (v14 : Value).ownBlock) u8 x8_1) ∧ Aside0 (Kd.R (Kd.int .u32) 179 w' w.heap.size (fun k_ => some k_ ≠ (u8 : Value).ownBlock) v14 x14_2) ∧ Aside0 (Below w.heap.size w w'))
          case atStart => exact ⟨(([] : List Int)), (0), (by first | rfl | (simp; done) | (simp [*]; done) | (simp; omega)), H', ⟨Nat.le_refl _⟩, ⟨by (with_reducible repeat (first | apply Kd.R_alloc | apply Kd.R_drewN | apply Kd.R_drew)); exact Kd.R_mono HO_8.out (fun _ hk => (by simp [Value.ownBlock]))⟩, ⟨by first | exact Kd.R_nil _ _ _ _ _ | exact Kd.N_nil _ _ _ _ _ | exact Kd.V_nil _ _ _ _ _ | exact Kd.Q_nil _ _ _ _ _ | exact Kd.S_nil _ _ _ _ _⟩, ⟨by repeat (first | (with_reducible first | exact HB.out | apply below_alloc | apply pw_below_drewN | apply below_drew1) | exact HB.out)⟩⟩
          case round =>
            clear H'
            try clear c1
            try clear c2
            try clear p2
            try clear q2
            try clear hx2
            try clear qi2
            try clear p6
            try clear c10
            try clear c10b0
            try clear c11
            try clear c12
            try clear c13
            try clear c14
            try clear c17
            try clear c18
            try clear c19
            try clear c20
            try clear c21
            try clear p21
            try clear q21
            try clear hx21
            try clear qi21
            try clear c25
            try clear c26
            try clear c27
            try clear hx210_0
            try clear hx211_0
            try clear hx212_0
            try clear hx213_0
            try clear hx214_0
            try clear hx215_0
            try clear hx216_0
            try clear p210
            try clear p211
            try clear p212
            try clear p213
            try clear p214
            try clear p215
            try clear p216
            try clear q210
            try clear q211
            try clear q212
            try clear q213
            try clear q214
            try clear q215
            try clear q216
            obtain ⟨x14_2, x15_2, rfl, HA, HK2, HO_8, HO_14, HB⟩ := hrel
            cases gk with
            | zero => exact absurd HA.out (by simp [padlockref01_Come.l1])
            | succ k2 =>
              have H := HA.out
              clear HA
              simp only [padlockref01_Come.l1] at H
              by_cases c35 : x15_2 < 8
              · rw [if_pos c35] at H
                have c35b0 : decide (x15_2 < 8) = true := decide_eq_true c35
                clear c35
                by_cases c36 : 0 ≤ x15_2
                · rw [if_pos c36] at H
                  have c36b0 : decide (0 ≤ x15_2) = true := decide_eq_true c36
                  clear c36
                  by_cases c37 : x15_2 < (l0.length : Int)
                  · rw [if_pos c37] at H
                    have c37b0 : decide (x15_2 < (l0.length : Int)) = true := decide_eq_true c37
                    clear c37
                    by_cases c38 : x15_2 < (x8_1.length : Int)
                    · rw [if_pos c38] at H
                      have c38b0 : decide (x15_2 < (x8_1.length : Int)) = true := decide_eq_true c38
                      clear c38
                      by_cases c39 : x14_2.length < 35184372088832
                      · rw [if_pos c39] at H
                        have LMc39 := Aside0.mk c39
                        clear c39
                        obtain ⟨y222, hy222⟩ : ∃ y_ : List Int, y_ = (x14_2 ++ [((rd l0 x15_2) + (rd x8_1 x15_2)) % 4294967296]) := ⟨_, rfl⟩
                        replace H : (padlockref01_Come.l1 k2 l0 x8_1 y222 (wrap64 (x15_2 + 1))) = some r := by first | (rw [hy222]; with_reducible exact H) | (have H2_ := (Option.bind_some _ _).symm.trans H; rw [hy222]; with_reducible exact H2_) | (have H2_ := (Option.bind_some _ _).symm.trans H; with_reducible exact H2_) | with_reducible exact H | (rw [hy222]; exact H) | exact H
                        have Ny222 := Aside0.mk hy222
                        clear hy222
                        have H' := Aside0.mk H
                        clear H
                        try go_wp2
                        have n0_ := Aside0.mk (Kd.R_drew HO_8.out)
                        have n1_ := Aside0.mk (Kd.R_drew HO_14.out)
                        have n2_ := Aside0.mk (below_drew1 HB.out)
                        clear HO_8
                        clear HO_14
                        clear HB
                        have HO_8 := n0_
                        have HO_14 := n1_
                        have HB := n2_
                        clear n0_ n1_ n2_
                        have p220 : 0 ≤ (x15_2 : Int) := of_decide_eq_true (by first | (with_reducible assumption) | assumption)
                        have q220 : x15_2 < (l0.length : Int) := of_decide_eq_true (by first | (with_reducible assumption) | assumption)
                        obtain ⟨ad220, e220, hx220_0⟩ := Kd.at_int HR0.out x15_2 p220 q220
                        have hw220_0 := hx220_0
                        cases e220
                        replace hx220_0 := (HB.out.cell (World.block_lt_of_cell? w _ hx220_0)).trans hx220_0
                        replace p220 := eq_true p220
                        replace q220 := eq_true q220
                        obtain ⟨Ao41, co41, eo41⟩ := Kd.R_slice HO_8.out
                        (first | subst eo41 | (injection eo41 with f1_ f2_ f3_; have f4_ := f1_.symm; have f5_ := f3_.symm; clear f1_ f2_ f3_; subst f4_; subst f5_))
                        have p221 : 0 ≤ (x15_2 : Int) := of_decide_eq_true (by first | (with_reducible assumption) | assumption)
                        have q221 : x15_2 < (x8_1.length : Int) := of_decide_eq_true (by first | (with_reducible assumption) | assumption)
                        obtain ⟨ad221, e221, hx221_0⟩ := Kd.at_int (Kd.R_reads' HO_8.out).2.2 x15_2 p221 q221
                        cases e221
                        replace p221 := eq_true p221
                        replace q221 := eq_true q221
                        refine start_ (n := 13) (S := fun w' => w'.cell? (ad220.add (x15_2).toNat) = some (.int .u32 (rd l0 x15_2)) ∧ w'.cell? (ad221.add (x15_2).toNat) = some (.int .u32 (rd x8_1 x15_2))) (ds := [10, 11]) #[false, false, false, false, false, false, false, false, false, false, false, false, false] (by kernel_rfl) rfl rfl ⟨((HB.out.cell (World.block_lt_of_cell? w _ hw220_0)).trans hw220_0), hx221_0⟩ (fun hHeld => ?_); refine with_tabW padlockref01_Come.tab15 padlockref01_Come.bits15 (fun HT_ HW_ => ?_)
                        generalize wr.drew = w40 at HO_8 HO_14 HB hx220_0 hx221_0 hHeld ⊢
                        refine pure_ (i := 0) (N := some 125) (v := ?_) (a' := ?_) #[true, false, false, false, false, false, false, false, false, false, false, false, false] rfl rfl (any_of HT_.out (by kernel_rfl)) (fun _ _ _ h => h) (Or.inl ⟨by rfl, ?_⟩) ?_ ?_
                        rotate_left
                        · intro w'
                          go_simp
                          with_reducible rfl
                        rotate_left
                        · simp only [Act.put, List.setIfInBounds_toArray, List.set_cons_zero, List.set_cons_succ, i64_w, i32_w]
                          rfl
                        refine pure_ (i := 1) (N := some 126) (v := ?_) (a' := ?_) #[true, true, false, false, false, false, false, false, false, false, false, false, false] rfl rfl (any_of HT_.out (by kernel_rfl)) (fun _ _ _ h => h) (Or.inl ⟨by rfl, ?_⟩) ?_ ?_
                        rotate_left
                        · intro w'
                          go_simp
                          with_reducible rfl
                        rotate_left
                        · simp only [Act.put, List.setIfInBounds_toArray, List.set_cons_zero, List.set_cons_succ, i64_w, i32_w]
                          rfl
                        refine pure_ (i := 2) (N := some 127) (v := ?_) (a' := ?_) #[true, true, true, false, false, false, false, false, false, false, false, false, false] rfl rfl (any_of HT_.out (by kernel_rfl)) (fun _ _ _ h => h) (Or.inl ⟨by rfl, ?_⟩) ?_ ?_
                        rotate_left
                        · intro w'
                          go_simp
                          with_reducible rfl
                        rotate_left
                        · simp only [Act.put, List.setIfInBounds_toArray, List.set_cons_zero, List.set_cons_succ, i64_w, i32_w]
                          rfl
                        refine pure_ (i := 3) (N := some 128) (v := ?_) (a' := ?_) #[true, true, true, true, false, false, false, false, false, false, false, false, false] rfl rfl (any_of HT_.out (by kernel_rfl)) (fun _ _ _ h => h) (Or.inl ⟨by rfl, ?_⟩) ?_ ?_
                        rotate_left
                        · intro w'
                          go_simp
                          with_reducible rfl
                        rotate_left
                        · simp only [Act.put, List.setIfInBounds_toArray, List.set_cons_zero, List.set_cons_succ, i64_w, i32_w]
                          rfl
                        refine pure_ (i := 5) (N := some 130) (v := ?_) (a' := ?_) #[true, true, true, true, false, true, false, false, false, false, false, false, false] rfl rfl (any_of HT_.out (by kernel_rfl)) (fun _ _ _ h => h) (Or.inl ⟨by rfl, ?_⟩) ?_ ?_
                        rotate_left
                        · intro w'
                          go_simp
                          with_reducible rfl
                        rotate_left
                        · simp only [Act.put, List.setIfInBounds_toArray, List.set_cons_zero, List.set_cons_succ, i64_w, i32_w]
                          rfl
                        refine pure_ (i := 6) (N := some 131) (v := ?_) (a' := ?_) #[true, true, true, true, false, true, true, false, false, false, false, false, false] rfl rfl (any_of HT_.out (by kernel_rfl)) (fun _ _ _ h => h) (Or.inl ⟨by rfl, ?_⟩) ?_ ?_
                        rotate_left
                        · intro w'
                          go_simp
                          with_reducible rfl
                        rotate_left
                        · simp only [Act.put, List.setIfInBounds_toArray, List.set_cons_zero, List.set_cons_succ, i64_w, i32_w]
                          rfl
                        refine pure_ (i := 7) (N := some 132) (v := ?_) (a' := ?_) #[true, true, true, true, false, true, true, true, false, false, false, false, false] rfl rfl (any_of HT_.out (by kernel_rfl)) (fun _ _ _ h => h) (Or.inl ⟨by rfl, ?_⟩) ?_ ?_
                        rotate_left
                        · intro w'
                          go_simp
                          with_reducible rfl
                        rotate_left
                        · simp only [Act.put, List.setIfInBounds_toArray, List.set_cons_zero, List.set_cons_succ, i64_w, i32_w]
                          rfl
                        refine take_ (i := 4) (N := some 129) (v := ?_) (a' := ?_) #[true, true, true, true, true, true, true, true, false, false, false, false, false] rfl rfl (take_ofW HT_.out HW_.out (by kernel_rfl)) (fun _ _ _ h => h) (Or.inl ⟨by rfl, ?_⟩) hHeld ?_ ?_
                        rotate_left
                        · rintro w' ⟨s0, s1⟩
                          go_simp
                          with_reducible rfl
                        rotate_left
                        · simp only [Act.put, List.setIfInBounds_toArray, List.set_cons_zero, List.set_cons_succ, i64_w, i32_w]
                          rfl
                        refine take_ (i := 8) (N := some 133) (v := ?_) (a' := ?_) #[true, true, true, true, true, true, true, true, true, false, false, false, false] rfl rfl (take_ofW HT_.out HW_.out (by kernel_rfl)) (fun _ _ _ h => h) (Or.inl ⟨by rfl, ?_⟩) hHeld ?_ ?_
                        rotate_left
                        · rintro w' ⟨s0, s1⟩
                          go_simp
                          with_reducible rfl
                        rotate_left
                        · simp only [Act.put, List.setIfInBounds_toArray, List.set_cons_zero, List.set_cons_succ, i64_w, i32_w]
                          rfl
                        refine pure_ (i := 9) (N := some 134) (v := ?_) (a' := ?_) #[true, true, true, true, true, true, true, true, true, true, false, false, false] rfl rfl (any_of HT_.out (by kernel_rfl)) (fun _ _ _ h => h) (Or.inl ⟨by rfl, ?_⟩) ?_ ?_
                        rotate_left
                        · intro w'
                          go_simp
                          with_reducible rfl
                        rotate_left
                        · simp only [Act.put, List.setIfInBounds_toArray, List.set_cons_zero, List.set_cons_succ, i64_w, i32_w]
                          rfl
                        refine last_ (i := 10) (N := some 135) #[true, true, true, true, true, true, true, true, true, true, true, false, false] rfl rfl (one_of HT_.out (by kernel_rfl)) (by decide) (fun K hK => ?_)
                        refine value_ (w1 := ?_) (v := ?_) (by rfl) rfl ?_ ?_
                        rotate_left 2
                        · go_simp
                          constructor
                          · rfl
                          · rfl
                        refine hK.out _ _ ?_
                        clear hK K
                        refine norm_ (a' := ?_) ?_ ?_
                        rotate_left
                        · show Act.put _ (some 135) _ = _
                          simp only [Act.put, List.setIfInBounds_toArray, List.set_cons_zero, List.set_cons_succ, i64_w, i32_w]
                          rfl
                        refine last_ (i := 11) (N := some 136) #[true, true, true, true, true, true, true, true, true, true, true, true, false] rfl rfl (one_of HT_.out (by kernel_rfl)) (by decide) (fun K hK => ?_)
                        refine Kd.R_append_step (Kd.int .u32) (w0 := w) w.heap.size (by rfl) (.tmp 125) (.tmp 135) 168 179 (.int .u32 0) 4 rfl Try.underlying168 info179 rfl (by decide) (by omega) u14 x14_2 (((rd l0 x15_2) + (rd x8_1 x15_2)) % 4294967296) [.int .u32 (((rd l0 x15_2) + (rd x8_1 x15_2)) % 4294967296)] (fun k_ => some k_ ≠ (.slice (some ad221) x8_1.length co41 : Value).ownBlock) (fun _ => False) rfl rfl ?aP (fun _ hk => hk.elim) ?aF ?aO ?aB ?aS ?aL ?_
                        (case aP => exact rfl)
                        (case aB => exact (by repeat (first | (with_reducible first | exact HB.out | apply below_alloc | apply pw_below_drewN | apply below_drew1) | exact HB.out)))
                        (case aF => exact (fun k_ hk => Kd.fresh' (Kd.R_lt (by (with_reducible repeat (first | apply Kd.R_alloc | apply Kd.R_drewN | apply Kd.R_drew)); exact HO_8.out)) k_ hk))
                        (case aO => exact (by (with_reducible repeat (first | apply Kd.R_alloc | apply Kd.R_drewN | apply Kd.R_drew)); exact HO_14.out))
                        (case aS => exact (below_size (by repeat (first | (with_reducible first | exact HB.out | apply below_alloc | apply pw_below_drewN | apply below_drew1) | exact HB.out))))
                        (case aL => have := LMc39.out; omega)
                        intro v223 w42 ho hb hg hat
                        rw [← Ny222.out] at ho
                        have n0_ := Aside0.mk (Kd.R_after (ok := (fun _ => True)) (by (with_reducible repeat (first | apply Kd.R_alloc | apply Kd.R_drewN | apply Kd.R_drew)); exact Kd.R_mono HO_8.out (fun _ hk => ⟨trivial, hk⟩)) hg hat)
                        have n1_ := Aside0.mk (hb)
                        have n2_ := Aside0.mk (ho)
                        clear HO_8
                        clear HB
                        clear HO_14
                        have HO_8 := n0_
                        have HB := n1_
                        have HO224 := n2_
                        clear n0_ n1_ n2_
                        clear ho hb hg hat
                        refine hK.out _ _ ?_
                        clear hK K
                        refine norm_ (a' := ?_) ?_ ?_
                        rotate_left
                        · show Act.put _ (some 136) _ = _
                          simp only [Act.put, List.setIfInBounds_toArray, List.set_cons_zero, List.set_cons_succ, i64_w, i32_w]
                          rfl
                        refine pure_ (i := 12) (N := some 14) (v := ?_) (a' := ?_) #[true, true, true, true, true, true, true, true, true, true, true, true, true] rfl rfl (any_of HT_.out (by kernel_rfl)) (fun _ _ _ h => h) (Or.inl ⟨by rfl, ?_⟩) ?_ ?_
                        rotate_left
                        · intro w'
                          go_simp
                          with_reducible rfl
                        rotate_left
                        · simp only [Act.put, List.setIfInBounds_toArray, List.set_cons_zero, List.set_cons_succ, i64_w, i32_w]
                          rfl
                        refine done_ (done_of HT_.out (by kernel_rfl)) ?_
                        try go_wp2
                        go_roundg k2
                        case measure => have := HK1.out; have := HK2.out; omega
                        case rel => exact ⟨(y222), (wrap64 (x15_2 + 1)), (by first | rfl | (simp; done) | (simp [*]; done) | (simp; omega)), H', ⟨by have := HK1.out; have := HK2.out; omega⟩, ⟨by (with_reducible repeat (first | apply Kd.R_alloc | apply Kd.R_drewN | apply Kd.R_drew)); exact Kd.R_mono HO_8.out (fun _ hk => hk.2)⟩, ⟨by (with_reducible repeat (first | apply Kd.R_alloc | apply Kd.R_drewN | apply Kd.R_drew)); exact HO224.out⟩, ⟨by repeat (first | (with_reducible first | exact HB.out | apply below_alloc | apply pw_below_drewN | apply below_drew1) | exact HB.out)⟩⟩
                      · rw [if_neg c39] at H
                        exact absurd H (by simp)
                    · rw [if_neg c38] at H
                      exact absurd H (by simp)
                  · rw [if_neg c37] at H
                    exact absurd H (by simp)
                · rw [if_neg c36] at H
                  exact absurd H (by simp)
              · rw [if_neg c35] at H
                have c35b0 : decide (x15_2 < 8) = false := decide_eq_false c35
                clear c35
                obtain rfl := Option.some.inj H
                go_wp2
                go_ret
                exact ⟨_, by first | rfl | (simp [errW_none, errW_some] <;> rfl) | (simp [*, errW_none, errW_some] <;> rfl), by (with_reducible repeat (first | apply Kd.R_alloc | apply Kd.R_drewN | apply Kd.R_drew)); exact Kd.R_mono HO_14.out (fun _ hk => trivial), by repeat (first | (with_reducible first | exact HB.out | apply below_alloc | apply pw_below_drewN | apply below_drew1) | exact HB.out)⟩
  · rw [if_neg c5] at H
    exact absurd H (by simp)
end Go.Proofs.Ytoiiacbbfhlocaa.Sa
end
section
namespace Go.Proofs.Ytoiiacbbfhlocaa.Sr
open Go.RowKit Go.Proofs.YtoiiacbbfhlocaaW.PrintWords Go.Proofs.YtoiiacbbfhlocaaW.PrintLast Go.Proofs.YtoiiacbbfhlocaaW.PrintMore
attribute [local go_sem] max2_int min2_int max_two min_two max_three min_three max_four min_four   -- for this text's walks alone
set_option linter.unusedVariables false
set_option linter.unusedSimpArgs false
def errW : Option Int → Value
  | none => .nilIface
  | some c => .iface 0 (.int .i64 c)
theorem errW_none : errW none = .nilIface := rfl
theorem errW_some (c : Int) : errW (some c) = .iface 0 (.int .i64 c) := rfl
-- the values' own types
end Go.Proofs.Ytoiiacbbfhlocaa.Sr
end
section
namespace Go.Proofs.Ytoiiacbbfhlocaa.Sr
open Go.RowKit Go.Proofs.YtoiiacbbfhlocaaW.PrintWords Go.Proofs.YtoiiacbbfhlocaaW.PrintLast Go.Proofs.YtoiiacbbfhlocaaW.PrintMore
attribute [local go_sem] max2_int min2_int max_two min_two max_three min_three max_four min_four   -- for this text's walks alone
set_option linter.unusedVariables false
set_option linter.unusedSimpArgs false
/-! ### bits_RotateLeft32: function 152 -/
def bits_RotateLeft32.f (a0 : Int) (a1 : Int) : Option (Int) := if 0 ≤ (Go.bits .and .u64 (IntKind.u64.wrap (a1)) 31) then (if 0 ≤ (IntKind.u64.wrap (32 - (Go.bits .and .u64 (IntKind.u64.wrap (a1)) 31))) then (some (Go.bits .or .u32 (shl .u32 a0 (Go.bits .and .u64 (IntKind.u64.wrap (a1)) 31)) (shr .u32 a0 (IntKind.u64.wrap (32 - (Go.bits .and .u64 (IntKind.u64.wrap (a1)) 31)))))) else (none)) else (none)
set_option maxHeartbeats 8000000 in
set_option maxRecDepth 100000 in
theorem bits_RotateLeft32.calls (a0 : Int) (a1 : Int) (r : Int) (w : World) (h : bits_RotateLeft32.f a0 a1 = some r) :
    Calls Try.prog 152 #[.int .u32 a0, .int .i64 a1] w fun e w' => e = .returned (.int .u32 r) ∧ Drawn0 w w' := by
  have H : (if 0 ≤ (Go.bits .and .u64 (IntKind.u64.wrap (a1)) 31) then (if 0 ≤ (IntKind.u64.wrap (32 - (Go.bits .and .u64 (IntKind.u64.wrap (a1)) 31))) then (some (Go.bits .or .u32 (shl .u32 a0 (Go.bits .and .u64 (IntKind.u64.wrap (a1)) 31)) (shr .u32 a0 (IntKind.u64.wrap (32 - (Go.bits .and .u64 (IntKind.u64.wrap (a1)) 31)))))) else (none)) else (none)) = some r := h
  clear h
  obtain ⟨ji3, hji3⟩ : ∃ j_ : Int, (Go.bits .and .u64 (IntKind.u64.wrap (a1)) 31) = j_ := ⟨_, rfl⟩
  replace H : (if 0 ≤ (ji3) then (if 0 ≤ (IntKind.u64.wrap (32 - (ji3))) then (some (Go.bits .or .u32 (shl .u32 a0 (ji3)) (shr .u32 a0 (IntKind.u64.wrap (32 - (ji3)))))) else (none)) else (none)) = some r := by first | (rw [hji3] at H; exact H) | (simp only [hji3] at H ⊢; exact H)
  by_cases c4 : 0 ≤ (ji3)
  · rw [if_pos c4] at H
    have c4b0 := eq_true c4
    have c4b1 : decide (0 ≤ (ji3)) = true := decide_eq_true c4
    clear c4
    obtain ⟨ji5, hji5⟩ : ∃ j_ : Int, (shl .u32 a0 (ji3)) = j_ := ⟨_, rfl⟩
    replace H : (if 0 ≤ (IntKind.u64.wrap (32 - (ji3))) then (some (Go.bits .or .u32 (ji5) (shr .u32 a0 (IntKind.u64.wrap (32 - (ji3)))))) else (none)) = some r := by first | (rw [hji5] at H; exact H) | (simp only [hji5] at H ⊢; exact H)
    have hji5_ : (IntKind.u32.wrap (a0 * 2 ^ min (ji3).toNat 32)) = ji5 := hji5
    have hji5z : (ji3) ≤ 32 → (IntKind.u32.wrap (a0 * 2 ^ (ji3).toNat)) = ji5 := shl_small hji5
    obtain ⟨ji6, hji6⟩ : ∃ j_ : Int, (IntKind.u64.wrap (32 - (ji3))) = j_ := ⟨_, rfl⟩
    replace H : (if 0 ≤ (ji6) then (some (Go.bits .or .u32 (ji5) (shr .u32 a0 (ji6)))) else (none)) = some r := by first | (rw [hji6] at H; exact H) | (simp only [hji6] at H ⊢; exact H)
    by_cases c7 : 0 ≤ (ji6)
    · rw [if_pos c7] at H
      have c7b0 := eq_true c7
      have c7b1 : decide (0 ≤ (ji6)) = true := decide_eq_true c7
      clear c7
      obtain ⟨ji8, hji8⟩ : ∃ j_ : Int, (shr .u32 a0 (ji6)) = j_ := ⟨_, rfl⟩
      replace H : (some (Go.bits .or .u32 (ji5) (ji8))) = some r := by first | (rw [hji8] at H; exact H) | (simp only [hji8] at H ⊢; exact H)
      have hji8_ : (a0 / 2 ^ min (ji6).toNat 32) = ji8 := hji8
      have hji8z : (ji6) ≤ 32 → (a0 / 2 ^ (ji6).toNat) = ji8 := shr_small hji8
      obtain rfl := Option.some.inj H
      go_enter Try.func152, Try.ntmps152
      go_wp2
      go_ret
      exact ⟨by first | rfl | (simp; done) | (simp only [← hji3, ← hji5, ← hji6, ← hji8] <;> (first | rfl | simp)) | (simp [*]; done), by repeat (first | exact Drawn0.refl _ | apply Drawn0.step)⟩
    · rw [if_neg c7] at H
      exact absurd H (by simp)
  · rw [if_neg c4] at H
    exact absurd H (by simp)
/-! ### sha256_right: function 151 -/
def sha256_right.f (a0 : Int) (a1 : Int) : Option (Int) := (bits_RotateLeft32.f a0 (wrap64 (-a1))).bind fun t101 => (some t101)
set_option maxHeartbeats 8000000 in
set_option maxRecDepth 100000 in
theorem sha256_right.calls (a0 : Int) (a1 : Int) (r : Int) (w : World) (h : sha256_right.f a0 a1 = some r) :
    Calls Try.prog 151 #[.int .u32 a0, .int .i64 a1] w fun e w' => e = .returned (.int .u32 r) ∧ Drawn0 w w' := by
  have H : ((bits_RotateLeft32.f a0 (wrap64 (-a1))).bind fun t101 => (some t101)) = some r := h
  clear h
  replace H := Option.bind_eq_some_iff.mp H
  obtain ⟨t101, A30, H⟩ := H
  replace H : (some t101) = some r := H
  have A3 := Aside0.mk A30
  clear A30
  obtain rfl := Option.some.inj H
  go_enter Try.func151, Try.ntmps151
  go_wp2_with (first | ((with_reducible refine gate_callee (f := 152) rfl ?_); refine goesL_ (some 8) rfl rfl Try.func152 (by kernel_rfl) rfl #[.int .u32 a0, .int .i64 (wrap64 (-a1))] rfl (by (try simp only [List.map_toArray, List.map_cons, List.map_nil]); first | done | rfl | (simp only [List.length_drop, List.length_take]; rfl)) ?_; (with_reducible refine (bits_RotateLeft32.calls a0 (wrap64 (-a1)) t101 _ A3.out).mono ?_); rintro e w' ⟨rfl, ⟨nd, rfl⟩⟩; refine ⟨_, rfl, ?_⟩))
  go_ret
  exact ⟨by first | rfl | (simp; done) | (simp [*]; done), by repeat (first | exact Drawn0.refl _ | apply Drawn0.step)⟩
end Go.Proofs.Ytoiiacbbfhlocaa.Sr
end
section
namespace Go.Proofs.Ytoiiacbbfhlocaa.Sr
open Go.RowKit Go.Proofs.YtoiiacbbfhlocaaW.PrintWords Go.Proofs.YtoiiacbbfhlocaaW.PrintLast Go.Proofs.YtoiiacbbfhlocaaW.PrintMore
attribute [local go_sem] max2_int min2_int max_two min_two max_three min_three max_four min_four   -- for this text's walks alone
set_option linter.unusedVariables false
set_option linter.unusedSimpArgs false
end Go.Proofs.Ytoiiacbbfhlocaa.Sr
end
section
section
set_option linter.unusedVariables false
set_option linter.unusedSimpArgs false
namespace Go.Proofs.Ytoiiacbbfhlocaa.HSa
open Go.RowKit Go.Proofs.YtoiiacbbfhlocaaW.PrintWords Go.Proofs.YtoiiacbbfhlocaaW.PrintLast Go.Proofs.YtoiiacbbfhlocaaW.PrintMore Go.Proofs.Ytoiiacbbfhlocaa.Kit Go.Proofs.Ytoiiacbbfhlocaa.Sr
def Tells32 (x : Int) (w : World) (e : Ending) (w' : World) : Prop := e = .returned (.int .u32 x) ∧ w' = w
set_option maxHeartbeats 400000 in
theorem rot_any (x n : Int) (k : Int) (w : World) (hk : Go.bits .and .u64 (IntKind.u64.wrap n) 31 = k) (h0 : 0 ≤ k) (h1 : k ≤ 31) :
    Calls Try.prog 152 #[.int .u32 x, .int .i64 n] w (Tells32 (Go.bits .or .u32 (x * 2 ^ k.toNat % 4294967296) (x / 2 ^ (32 - k).toNat)) w) := by
  go_enter Try.func152, Try.ntmps152
  go_wp2
  go_ret
  exact ⟨rfl, rfl⟩
theorem rot_count (n : Int) (h : n = 6 ∨ n = 11 ∨ n = 25 ∨ n = 2 ∨ n = 13 ∨ n = 22 ∨ n = 7 ∨ n = 18 ∨ n = 17 ∨ n = 19) : Go.bits .and .u64 (IntKind.u64.wrap (-n)) 31 = 32 - n := by
  rcases h with rfl | rfl | rfl | rfl | rfl | rfl | rfl | rfl | rfl | rfl <;> decide +kernel
def rotr (x n : Int) : Int := Go.bits .or .u32 (x * 2 ^ (32 - n).toNat % 4294967296) (x / 2 ^ n.toNat)
set_option maxHeartbeats 400000 in
theorem right_any (x n : Int) (w : World) (h : n = 6 ∨ n = 11 ∨ n = 25 ∨ n = 2 ∨ n = 13 ∨ n = 22 ∨ n = 7 ∨ n = 18 ∨ n = 17 ∨ n = 19) :
    Calls Try.prog 151 #[.int .u32 x, .int .i64 n] w (Tells32 (rotr x n) w) := by
  have h4 := rot_any x (-n) (32 - n) w (rot_count n h) (by omega) (by omega)
  rw [show 32 - (32 - n) = n from by omega] at h4
  have H := Lib.hid h4
  clear h4
  have h2 : 0 ≤ n := by omega
  have h3 : n ≤ 25 := by omega
  clear h
  go_enter Try.func151, Try.ntmps151
  go_wp2_with fail
  refine H.out.mono ?_
  rintro e w' ⟨rfl, rfl⟩
  go_wp2
  go_ret
  exact ⟨rfl, rfl⟩
def consts : List Int := [0x428A2F98, 0x71374491, 0xB5C0FBCF, 0xE9B5DBA5, 0x3956C25B, 0x59F111F1, 0x923F82A4, 0xAB1C5ED5,
  0xD807AA98, 0x12835B01, 0x243185BE, 0x550C7DC3, 0x72BE5D74, 0x80DEB1FE, 0x9BDC06A7, 0xC19BF174,
  0xE49B69C1, 0xEFBE4786, 0x0FC19DC6, 0x240CA1CC, 0x2DE92C6F, 0x4A7484AA, 0x5CB0A9DC, 0x76F988DA,
  0x983E5152, 0xA831C66D, 0xB00327C8, 0xBF597FC7, 0xC6E00BF3, 0xD5A79147, 0x06CA6351, 0x14292967,
  0x27B70A85, 0x2E1B2138, 0x4D2C6DFC, 0x53380D13, 0x650A7354, 0x766A0ABB, 0x81C2C92E, 0x92722C85,
  0xA2BFE8A1, 0xA81A664B, 0xC24B8B70, 0xC76C51A3, 0xD192E819, 0xD6990624, 0xF40E3585, 0x106AA070,
  0x19A4C116, 0x1E376C08, 0x2748774C, 0x34B0BCB5, 0x391C0CB3, 0x4ED8AA4A, 0x5B9CCA4F, 0x682E6FF3,
  0x748F82EE, 0x78A5636F, 0x84C87814, 0x8CC70208, 0x90BEFFFA, 0xA4506CEB, 0xBEF9A3F7, 0xC67178F2]
def GivesArr (k : IntKind) (xs : List Int) (w : World) (e : Ending) (w' : World) : Prop := e = .returned (.agg (nums k xs).toArray) ∧ Below w.heap.size w w'
set_option maxHeartbeats 1000000 in
set_option maxRecDepth 100000 in
theorem constants_any (w : World) : Calls Try.prog 150 #[] w (GivesArr .u32 consts w) := by
  go_enter Try.func150, Try.ntmps150
  go_wp2_with (first
    | ((with_reducible refine gate_dst (N := 0) rfl ?_); refine alloc_arr rfl 214 rfl .u32 (List.replicate 64 0) (fun w => Try.zeroValue214 w) (by first | (go_simp; done) | (go_simp; rfl)) ?_; intro w1 hA hB)
    | ((with_reducible refine gate_store (t := 214) (p := 0) rfl ?_); refine store_arr rfl 214 _ _ rfl w.heap.size .u32 consts rfl rfl 214 _ hA rfl (by kernel_rfl) ?_; intro w2 hA2 hw2; subst hw2)
    | fail)
  exact bodyPost_ret (results_arr rfl _ _ w.heap.size .u32 _ _ _ consts rfl hA2 Try.underlying214 (by kernel_rfl)) rfl ⟨rfl, below_setRow hB _ (Nat.le_refl _) _⟩
def word4 (l : List Int) (i : Nat) : Int :=
  Go.bits .or .u32 (Go.bits .or .u32 (Go.bits .or .u32 (l.getD (4 * i) 0 % 4294967296 * 16777216 % 4294967296) (l.getD (4 * i + 1) 0 % 4294967296 * 65536 % 4294967296)) (l.getD (4 * i + 2) 0 % 4294967296 * 256 % 4294967296)) (l.getD (4 * i + 3) 0 % 4294967296)
def s0 (x : Int) : Int := Go.bits .xor .u32 (Go.bits .xor .u32 (rotr x 7) (rotr x 18)) (x / 8)
def s1 (x : Int) : Int := Go.bits .xor .u32 (Go.bits .xor .u32 (rotr x 17) (rotr x 19)) (x / 1024)
def wordN (m : List Int) (i : Nat) : Int := IntKind.u32.wrap (IntKind.u32.wrap (IntKind.u32.wrap (m.getD (i - 16) 0 + m.getD (i - 7) 0) + s0 (m.getD (i - 15) 0)) + s1 (m.getD (i - 2) 0))
def mstep (l m : List Int) (i : Nat) : List Int := m.set i (if i < 16 then word4 l i else wordN m i)
def msg (l : List Int) : Nat → List Int
  | 0 => List.replicate 64 0
  | i + 1 => mstep l (msg l i) i
theorem msg_length (l : List Int) : ∀ n, (msg l n).length = 64
  | 0 => by simp [msg]
  | n + 1 => by simp [msg, mstep, msg_length l n]
set_option maxHeartbeats 1000000 in
set_option maxRecDepth 100000 in
theorem message_any (A : Option Addr) (c : Nat) (l : List Int) (w : World) (hr : Kd.C (Kd.int .u8) w A l.length l) (hl : l.length = 64) :
    Calls Try.prog 149 #[.slice A 64 c] w (GivesArr .u32 (msg l 64) w) := by
  have HR := Lib.hid hr
  have HL := Lib.hid hl
  clear hr hl
  go_enter Try.func149, Try.ntmps149
  go_wp2_with (first
    | ((with_reducible refine gate_dst (N := 2) rfl ?_); refine alloc_arr rfl 214 rfl .u32 (List.replicate 64 0) (fun w => Try.zeroValue214 w) (by first | (go_simp; done) | (go_simp; rfl)) ?_; intro w1 hA1 hB1)
    | ((with_reducible refine gate_dst (N := 3) rfl ?_); refine alloc_arr rfl 214 rfl .u32 (List.replicate 64 0) (fun w => Try.zeroValue214 w) (by first | (go_simp; done) | (go_simp; rfl)) ?_; intro w2 hA2 hB2)
    | fail)
  have hg1 : w.heap.size ≤ w1.heap.size := hB1.size
  have hlt1 := hA1.lt
  generalize hgg : w1.heap.size = g at *
  have HG := Lib.hid hgg
  clear hgg
  have HA0 : Hid (Arr .u32 214 w2 g (msg l 0)) := Lib.hid hA2
  have HB0 := Lib.hid hB2
  clear hA2 hB2
  go_loopw [7] (fun i wr => ∃ k : Nat, k ≤ 64 ∧ i = .int .i64 k ∧ Hid (Arr .u32 214 wr g (msg l k)) ∧ Hid (Below g w1 wr)) (fun i _ => 64 - (intOf i).toNat)
  case atStart => exact ⟨0, by omega, rfl, HA0, HB0⟩
  case round =>
    clear HA0 HB0
    obtain ⟨k, hk, rfl, hA, hB⟩ := hrel
    by_cases h16 : k < 16
    · obtain ⟨b, off, rfl, hc⟩ := C_cells HR.out (by have := HL.out; omega)
      have hbb : Below w.heap.size w wr := below_next hB1 (by rw [HG.out]; exact hB.out)
      have hq : ∀ j, j < 64 → wr.cell? ⟨b, off + j, none⟩ = some (.int .u8 (l.getD j 0)) := fun j hj => by
        have h := hc j (by have := HL.out; omega)
        exact (hbb.cell (World.block_lt_of_cell? w _ h)).trans h
      have hd0 := hq (4 * k) (by omega)
      have hd1 := hq (4 * k + 1) (by omega)
      have hd2 := hq (4 * k + 2) (by omega)
      have hd3 := hq (4 * k + 3) (by omega)
      clear hc hq
      have hcell := hA.out.cellN k (by rw [msg_length]; omega)
      have hfr := hA.out.free k
      go_wp2
      go_region
      have HM : Hid (msg l (k + 1) = (msg l k).set k (word4 l k)) := Lib.hid (by show mstep l (msg l k) k = _; unfold mstep; rw [if_pos h16])
      all_goals
        go_wp2
        go_roundw
        case rel => exact ⟨k + 1, by omega, by go_num, Lib.hid (by rw [HM.out]; exact (hA.out.put k _).drew), Lib.hid (below_drew (below_setCell hB.out _ _ (Nat.le_refl _) _))⟩
        case measure => simp [intOf]; omega
    · by_cases h64 : k < 64
      · have hlen := msg_length l k
        have hc15 := hA.out.cellN (k - 15) (by omega)
        have hc2 := hA.out.cellN (k - 2) (by omega)
        have hc16 := hA.out.cellN (k - 16) (by omega)
        have hc7 := hA.out.cellN (k - 7) (by omega)
        have hcell := hA.out.cellN k (by omega)
        have hfr := hA.out.free k
        have HL2 := Lib.hid hlen
        clear hlen
        go_wp2
        go_region
        all_goals
          go_wp2_with fail
        have hs16 : ∀ v, (wr.setCell ⟨g, k, none⟩ v).cell? ⟨g, k - 16, none⟩ = some (.int .u32 ((msg l k).getD (k - 16) 0)) := fun v => by
          rw [World.cell?_setCell_other]
          · exact hc16
          · intro e; injection e with _ e; omega
        have hs7 : ∀ v, (wr.setCell ⟨g, k, none⟩ v).cell? ⟨g, k - 7, none⟩ = some (.int .u32 ((msg l k).getD (k - 7) 0)) := fun v => by
          rw [World.cell?_setCell_other]
          · exact hc7
          · intro e; injection e with _ e; omega
        have hb16 : (0 : Int) ≤ (k : Int) - 16 := by omega
        have hb7 : (0 : Int) ≤ (k : Int) - 7 := by omega
        have hb16' : (16 : Int) ≤ (k : Int) := by omega
        have hb7' : (7 : Int) ≤ (k : Int) := by omega
        have hu16' : (k : Int) < 80 := by omega
        have hu7' : (k : Int) < 71 := by omega
        have hu16 : (k : Int) - 16 < 64 := by omega
        have hu7 : (k : Int) - 7 < 64 := by omega
        have ht16 : ((k : Int) - 16).toNat = k - 16 := by omega
        have ht7 : ((k : Int) - 7).toNat = k - 7 := by omega
        have hw16 : IntKind.i64.wrap ((k : Int) - 16) = (k : Int) - 16 := IntWalk.i64_in _ (by omega)
        have hw7 : IntKind.i64.wrap ((k : Int) - 7) = (k : Int) - 7 := IntWalk.i64_in _ (by omega)
        have HM : Hid (msg l (k + 1) = (msg l k).set k (wordN (msg l k) k)) := Lib.hid (by show mstep l (msg l k) k = _; unfold mstep; rw [if_neg h16])
        go_region_held3 (fun w' => w'.cell? ⟨g, k - 16, none⟩ = some (.int .u32 ((msg l k).getD (k - 16) 0)) ∧ w'.cell? ⟨g, k - 7, none⟩ = some (.int .u32 ((msg l k).getD (k - 7) 0)))
          (first | go_keep | exact ⟨hs16 _, hs7 _⟩)
          ((go_at_call 151; refine (right_any _ _ _ (by omega)).mono ?_; rintro e w' ⟨rfl, rfl⟩))
        clear hs16 hs7 hw16 hw7 ht16 ht7
        go_wp2
        go_roundw
        case rel => exact ⟨k + 1, by omega, by go_num, Lib.hid (by rw [HM.out]; exact (hA.out.put k _).drew.drew), Lib.hid (below_drew (below_drew (below_setCell hB.out _ _ (Nat.le_refl _) _)))⟩
        case measure => simp [intOf]; omega
      · have hk64 : k = 64 := by omega
        subst hk64
        go_wp2_with (first
          | ((with_reducible refine gate_dst (N := 85) rfl ?_); refine load_arr rfl 214 _ rfl g rfl .u32 _ _ _ _ hA.out Try.underlying214 (by rw [msg_length]; kernel_rfl) ?_)
          | ((with_reducible refine gate_store (t := 214) (p := 2) rfl ?_); refine store_arr rfl 214 _ _ rfl w.heap.size .u32 (msg l 64) rfl rfl 214 _ (hA1.below (by exact hB.out) hlt1) (by rw [msg_length]; rfl) (by rw [msg_length]; kernel_rfl) ?_; intro w3 hA3 hw3; subst hw3)
          | fail)
        exact bodyPost_ret (results_arr rfl _ _ w.heap.size .u32 _ _ _ (msg l 64) rfl hA3 Try.underlying214 (by rw [msg_length]; kernel_rfl)) rfl ⟨rfl, below_setRow (below_next hB1 (by rw [HG.out]; exact hB.out)) _ (Nat.le_refl _) _⟩
end Go.Proofs.Ytoiiacbbfhlocaa.HSa
end
section
set_option linter.unusedVariables false
set_option linter.unusedSimpArgs false
namespace Go.Proofs.Ytoiiacbbfhlocaa.HSa
open Go.RowKit Go.Proofs.YtoiiacbbfhlocaaW.PrintWords Go.Proofs.YtoiiacbbfhlocaaW.PrintLast Go.Proofs.YtoiiacbbfhlocaaW.PrintMore Go.Proofs.Ytoiiacbbfhlocaa.Kit Go.Proofs.Ytoiiacbbfhlocaa.Sr
def big1 (e : Int) : Int := Go.bits .xor .u32 (Go.bits .xor .u32 (rotr e 6) (rotr e 11)) (rotr e 25)
def big0 (a : Int) : Int := Go.bits .xor .u32 (Go.bits .xor .u32 (rotr a 2) (rotr a 13)) (rotr a 22)
def oneS (v : List Int) (c m : Int) : Int :=
  v.getD 7 0 + big1 (v.getD 4 0) + Go.bits .xor .u32 (Go.bits .and .u32 (v.getD 4 0) (v.getD 5 0)) (Go.bits .andNot .u32 (v.getD 6 0) (v.getD 4 0)) + c + m
def twoS (v : List Int) : Int :=
  big0 (v.getD 0 0) + Go.bits .xor .u32 (Go.bits .xor .u32 (Go.bits .and .u32 (v.getD 0 0) (v.getD 1 0)) (Go.bits .and .u32 (v.getD 0 0) (v.getD 2 0))) (Go.bits .and .u32 (v.getD 1 0) (v.getD 2 0))
def vstep (m v : List Int) (i : Nat) : List Int :=
  [(oneS v (consts.getD i 0) (m.getD i 0) + twoS v) % 4294967296, v.getD 0 0, v.getD 1 0, v.getD 2 0, (v.getD 3 0 + oneS v (consts.getD i 0) (m.getD i 0)) % 4294967296, v.getD 4 0, v.getD 5 0, v.getD 6 0]
def vloop (m s : List Int) : Nat → List Int
  | 0 => s
  | i + 1 => vstep m (vloop m s i) i
theorem vloop_length (m s : List Int) (hs : s.length = 8) : ∀ n, (vloop m s n).length = 8
  | 0 => hs
  | n + 1 => rfl
def adds (s v : List Int) : Nat → List Int
  | 0 => s
  | i + 1 => (adds s v i).set i (IntKind.u32.wrap ((adds s v i).getD i 0 + v.getD i 0))
theorem adds_length (s v : List Int) : ∀ n, (adds s v n).length = s.length
  | 0 => rfl
  | n + 1 => by simp [adds, adds_length s v n]
def comeF (s l : List Int) : List Int := adds s (vloop (msg l 64) s 64) 8
theorem comeF_length (s l : List Int) : (comeF s l).length = s.length := adds_length _ _ _
structure ComeEnd (w : World) (gs : Nat) (xs : List Int) (e : Ending) (w' : World) : Prop where
  he : e = .returned (.tuple #[])
  arr : Arr .u32 213 w' gs xs
  grown : w.grownBy w' (some gs)
theorem run_index_nums {P : Program} (T e n : Nat) (k : IntKind) (xs : List Int) (j : Nat) (hu : P.underlying T = some (.array n e)) (he : P.underlying e = some (.int k)) (hi : (P.info? e).map (·.size) = some 1) (hl : xs.length = n) (hj : j < n) (w : World) :
    (Instr.index T (.agg (nums k xs).toArray) (.int .i64 (j : Int))).run P w = .ok (.int k (xs.getD j 0)) w := by
  cases hq : P.info? e with
  | none => simp [hq] at hi
  | some i =>
    have h1 : i.size = 1 := by simpa [hq] using hi
    have hjx : j < xs.length := by omega
    simp [Instr.index, run_underlying hu, sizeOf, typeInfo, hq, h1, asIntOf, hj, part, isAgg, run_underlying he, nums, hjx]
theorem grown_setCell {w W : World} {g : Nat} (h : w.grownBy W (some g)) (j : Nat) (v : Value) : w.grownBy (W.setCell ⟨g, j, none⟩ v) (some g) :=
  ⟨h.os, h.tape, h.output, by simpa using h.size, fun i hi hne => (Go.heap_setCell_other W _ i v (fun e => hne (by rw [e]))).trans (h.block i hi hne)⟩
theorem grown_drew {w W : World} {r : Option Nat} (h : w.grownBy W r) : w.grownBy W.drew r := ⟨h.os, h.tape, h.output, h.size, h.block⟩
theorem below_setCells {B : Nat} {g : Nat} (hg : B ≤ g) : ∀ (cs : List Value) (o : Nat) {w W : World}, Below B w W → Below B w (W.setCells g o cs)
  | [], _, _, _, h => h
  | c :: cs, o, _, _, h => below_setCells hg cs (o + 1) (h.setCell hg c)
attribute [local irreducible] msg vloop adds comeF consts
set_option maxHeartbeats 2000000 in
set_option maxRecDepth 100000 in
theorem come_any (gs : Nat) (s : List Int) (A : Option Addr) (c : Nat) (l : List Int) (w : World) (hs : Arr .u32 213 w gs s) (hs8 : s.length = 8) (hr : Kd.C (Kd.int .u8) w A l.length l) (hl : l.length = 64) :
    Calls Try.prog 148 #[.pointer (some ⟨gs, 0, none⟩), .slice A 64 c] w (ComeEnd w gs (comeF s l)) := by
  have HM := Lib.hid (message_any A c l w hr hl)
  have HS8 := Lib.hid hs8
  clear hr hl hs8
  go_enter Try.func148, Try.ntmps148
  go_wp2_with fail
  refine HM.out.mono ?_
  rintro e w1 ⟨rfl, hB1⟩
  go_wp2_with fail
  refine (constants_any w1).mono ?_
  rintro e w2 ⟨rfl, hB2⟩
  have hB02 := below_next hB1 hB2
  have hs2 := hs.next hB02
  clear hB1 hB2
  have hgs := hs2.lt
  go_wp2_with (first
    | ((with_reducible refine gate_dst (N := 4) rfl ?_); refine alloc_arr rfl 214 rfl .u32 (List.replicate 64 0) (fun w => Try.zeroValue214 w) (by first | (go_simp; done) | (go_simp; rfl)) ?_; intro w3 hA3 hB3; have hs3 := hs2.next hB3)
    | ((with_reducible refine gate_dst (N := 5) rfl ?_); refine alloc_arr rfl 214 rfl .u32 (List.replicate 64 0) (fun w => Try.zeroValue214 w) (by first | (go_simp; done) | (go_simp; rfl)) ?_; intro w4 hA4 hB4; have hA34 := hA3.next hB4; have hs4 := hs3.next hB4; have hg24 := hA3.lt; have hsz4 := hA4.lt; have hB24 := below_next hB3 hB4)
    | ((with_reducible refine gate_store (t := 214) (p := 4) rfl ?_); refine store_arr rfl 214 _ _ rfl w2.heap.size .u32 (msg l 64) rfl rfl 214 _ hA34 (by rw [msg_length]; rfl) (by rw [msg_length]; kernel_rfl) ?_; intro w5 hA5 hw5; have hA45 : Arr .u32 214 w5 w3.heap.size (List.replicate 64 0) := (by rw [hw5]; exact hA4.setRow_far _ (by omega) _); have hs5 : Arr .u32 213 w5 gs s := (by rw [hw5]; exact hs4.setRow_far _ (by omega) _); have hB5 : Below w2.heap.size w2 w5 := (by rw [hw5]; exact below_setRow hB24 _ (Nat.le_refl _) _); have hz5 : w3.heap.size < w5.heap.size := hA45.lt; clear hw5)
    | ((with_reducible refine gate_store (t := 214) (p := 5) rfl ?_); refine store_arr rfl 214 _ _ rfl w3.heap.size .u32 consts rfl rfl 214 _ hA45 (by unfold consts; rfl) (by unfold consts; kernel_rfl) ?_; intro w6 hA6 hw6; have hm6 : Arr .u32 214 w6 w2.heap.size (msg l 64) := (by rw [hw6]; exact hA5.setRow_far _ (by omega) _); have hs6 : Arr .u32 213 w6 gs s := (by rw [hw6]; exact hs5.setRow_far _ (by omega) _); have hB6 : Below w2.heap.size w2 w6 := (by rw [hw6]; exact below_setRow hB5 _ (by omega) _); have hz6 : w3.heap.size < w6.heap.size := hA6.lt; clear hw6)
    | ((with_reducible refine gate_dst (N := 19) rfl ?_); refine load_arr rfl 213 _ rfl gs rfl .u32 _ _ _ _ hs6 Try.underlying213 (by rw [HS8.out]; kernel_rfl) ?_)
    | ((with_reducible refine gate_dst (N := 6) rfl ?_); refine alloc_arr rfl 213 rfl .u32 (List.replicate 8 0) (fun w => Try.zeroValue213 w) (by first | (go_simp; done) | (go_simp; rfl)) ?_; intro w7 hA7 hB7)
    | ((with_reducible refine gate_store (t := 213) (p := 6) rfl ?_); refine store_arr rfl 213 _ _ rfl w6.heap.size .u32 s rfl rfl 213 _ hA7 (by rw [HS8.out]; rfl) (by rw [HS8.out]; kernel_rfl) ?_; intro w8 hA8 hw8; have hm8 : Arr .u32 214 w8 w2.heap.size (msg l 64) := (by rw [hw8]; exact (hm6.next hB7).setRow_far _ (by omega) _); have hc8 : Arr .u32 214 w8 w3.heap.size consts := (by rw [hw8]; exact (hA6.next hB7).setRow_far _ (by omega) _); have hs8 : Arr .u32 213 w8 gs s := (by rw [hw8]; exact (hs6.next hB7).setRow_far _ (by omega) _); have hB8 : Below w2.heap.size w2 w8 := (by rw [hw8]; exact below_setRow (below_then hB6 hB6.size hB7) _ (by omega) _); clear hw8)
    | fail)
  have hw02 : w.heap.size ≤ w2.heap.size := hB02.size
  generalize hgmE : w2.heap.size = gm at *
  have HGM := Lib.hid hgmE
  clear hgmE
  generalize w3.heap.size = gc at *
  generalize w6.heap.size = gv at *
  obtain ⟨M, hM⟩ : ∃ M, M = msg l 64 := ⟨_, rfl⟩
  rw [← hM] at hm8
  have hM64 : M.length = 64 := by rw [hM, msg_length]
  have HMM := Lib.hid hM
  have HM64 := Lib.hid hM64
  clear hM hM64
  have HA0 : Hid (Arr .u32 213 w8 gv (vloop M s 0)) := Lib.hid (by unfold vloop; exact hA8)
  clear hA8
  go_loopw [20] (fun i wr => ∃ k : Nat, k ≤ 64 ∧ i = .int .i64 k ∧ Hid (Arr .u32 213 wr gv (vloop M s k)) ∧ Hid (Below gv w8 wr)) (fun i _ => 64 - (intOf i).toNat)
  case atStart => exact ⟨0, by omega, rfl, HA0, Lib.hid (Below.refl _ _)⟩
  case round =>
    clear HA0
    obtain ⟨k, hk, rfl, hA, hB⟩ := hrel
    have hVlen := vloop_length M s HS8.out k
    have HVS : Hid (vloop M s (k + 1) = vstep M (vloop M s k) k) := Lib.hid (by rw [vloop])
    have HCV : Hid (k = 64 → comeF s l = adds s (vloop M s k) 8) := Lib.hid (fun e => by rw [e, HMM.out]; unfold comeF; rfl)
    generalize vloop M s k = V at *
    have HV8 := Lib.hid hVlen
    clear hVlen
    by_cases h64 : k < 64
    · have hv0 := hA.out.cellN 0 (by rw [HV8.out]; omega)
      have hv1 := hA.out.cellN 1 (by rw [HV8.out]; omega)
      have hv2 := hA.out.cellN 2 (by rw [HV8.out]; omega)
      have hv4 := hA.out.cellN 4 (by rw [HV8.out]; omega)
      have hv5 := hA.out.cellN 5 (by rw [HV8.out]; omega)
      have hv6 := hA.out.cellN 6 (by rw [HV8.out]; omega)
      have hv7 := hA.out.cellN 7 (by rw [HV8.out]; omega)
      have hmk := (hm8.below hB.out (by omega)).cellN k (by rw [HM64.out]; omega)
      have hck := (hc8.below hB.out (by omega)).cellN k (by unfold consts; simp; omega)
      have hk0 : (0 : Int) ≤ (k : Int) := by omega
      go_wp2
      go_region
      go_wp2_with fail
      go_region_held3 (fun w' => w'.cell? ⟨gv, 7, none⟩ = some (.int .u32 (V.getD 7 0)) ∧ w'.cell? ⟨gv, 5, none⟩ = some (.int .u32 (V.getD 5 0)) ∧ w'.cell? ⟨gv, 6, none⟩ = some (.int .u32 (V.getD 6 0)) ∧ w'.cell? ⟨gm, k, none⟩ = some (.int .u32 (M.getD k 0)) ∧ w'.cell? ⟨gc, k, none⟩ = some (.int .u32 (consts.getD k 0)))
        (go_keep)
        ((go_at_call 151; refine (right_any _ _ _ (by omega)).mono ?_; rintro e w' ⟨rfl, rfl⟩))
      go_wp2_with fail
      go_region_held3 (fun w' => w'.cell? ⟨gv, 1, none⟩ = some (.int .u32 (V.getD 1 0)) ∧ w'.cell? ⟨gv, 2, none⟩ = some (.int .u32 (V.getD 2 0)))
        (go_keep)
        ((go_at_call 151; refine (right_any _ _ _ (by omega)).mono ?_; rintro e w' ⟨rfl, rfl⟩))
      go_wp2_with fail
      have hsh : ∃ V' : List Int, V' = [V.getD 0 0, V.getD 0 0, V.getD 1 0, V.getD 2 0, V.getD 3 0, V.getD 4 0, V.getD 5 0, V.getD 6 0] ∧ V.take 1 ++ V.take 7 ++ V.drop (1 + (V.take 7).length) = V' := by
        have hl := HV8.out
        match V, hl with
        | [a0, a1, a2, a3, a4, a5, a6, a7], _ => exact ⟨_, rfl, rfl⟩
      obtain ⟨V', hV', hV'2⟩ := hsh
      have hA9 := hA.out.drew.drew.drew.drew.cells (V.take 7) 1 (by rw [List.length_take, HV8.out]; omega)
      rw [hV'2] at hA9
      have hB9 : Below gv w8 (wr.drew.drew.drew.drew.setCells gv 1 (nums .u32 (V.take 7))) := below_setCells (Nat.le_refl _) _ _ (below_drew (below_drew (below_drew (below_drew hB.out))))
      have HA9 := Lib.hid hA9
      have HB9 := Lib.hid hB9
      have HVV := Lib.hid hV'
      clear hA9 hB9 hV'2 hV'
      have hcp := fun ty => run_copy_cells (P := Try.prog) wr.drew.drew.drew.drew 168 168 ty 179 gv 1 7 7 ⟨gv, 0, none⟩ 7 8 (nums .u32 (V.take 7)) Try.underlying168 (by kernel_rfl) (by simp [nums, HV8.out])
        (fun j v hj => by rw [add_plain]; have := hA.out.drew.drew.drew.drew.range j v (by
          have h7 : j < 7 := by have := (List.getElem?_eq_some_iff.1 hj).1; simp [nums] at this; omega
          rw [← hj]; simp [nums, List.getElem?_take, h7]); simpa using this)
        (fun j hj => by rw [hA.out.drew.drew.drew.drew.cellN (1 + j) (by simp [nums] at hj; rw [HV8.out]; omega)]; rfl) (fun j hj => hA.out.drew.drew.drew.drew.free _) (fun v hv => by simp only [nums, List.mem_map] at hv; obtain ⟨x, _, rfl⟩ := hv; rfl)
      clear hv0 hv1 hv2 hv4 hv5 hv6 hv7 hmk hck
      go_region
      clear hcp
      generalize wr.drew.drew.drew.drew.setCells gv 1 (nums .u32 (V.take 7)) = W9 at *
      rw [HVV.out] at HA9
      have h94 := HA9.out.cellN 4 (by simp)
      have h90 := HA9.out.cellN 0 (by simp)
      have hf4 := HA9.out.free 4
      have hf0 := HA9.out.free 0
      have hne : V'.length = V'.length := rfl
      clear hne
      go_wp2
      go_roundw
      case rel =>
        refine ⟨k + 1, by omega, by go_num, Lib.hid ?_, Lib.hid (below_setCell (below_setCell HB9.out _ _ (Nat.le_refl _) _) _ _ (Nat.le_refl _) _)⟩
        rw [HVS.out]
        exact (HA9.out.put 4 _).put 0 _
      case measure => simp [intOf]; omega
    · have hk64 : k = 64 := by omega
      subst hk64
      go_wp2_with (first
        | ((with_reducible refine gate_dst (N := 93) rfl ?_); refine load_arr rfl 213 _ rfl gv rfl .u32 _ _ _ _ hA.out Try.underlying213 (by rw [HV8.out]; kernel_rfl) ?_)
        | fail)
      have hgw : gs < w.heap.size := hs.lt
      have hS0 : Hid (Arr .u32 213 wr gs (adds s V 0)) := Lib.hid (by unfold adds; exact hs8.below hB.out (by omega))
      have hK0 : Hid (w.grownBy wr (some gs)) := Lib.hid (by
        have h8 : Below w.heap.size w w8 := below_next hB02 (by rw [HGM.out]; exact hB8)
        exact grown_of_below (h8.trans (hB.out.mono (by omega))) _)
      go_loopw [94] (fun i wx => ∃ j : Nat, j ≤ 8 ∧ i = .int .i64 j ∧ Hid (Arr .u32 213 wx gs (adds s V j)) ∧ Hid (w.grownBy wx (some gs))) (fun i _ => 8 - (intOf i).toNat)
      case atStart => exact ⟨0, by omega, rfl, hS0, hK0⟩
      case round =>
        clear hS0 hK0
        rename_i wx _
        obtain ⟨j, hj, rfl, hS, hK⟩ := hrel
        have hal := adds_length s V j
        have HAS : Hid (adds s V (j + 1) = (adds s V j).set j (IntKind.u32.wrap ((adds s V j).getD j 0 + V.getD j 0))) := Lib.hid (by rw [adds])
        have HC : Hid (j = 8 → comeF s l = adds s V j) := Lib.hid (fun e => by rw [e]; exact HCV.out (by first | trivial | rfl))
        generalize adds s V j = S at *
        have HAL := Lib.hid hal
        clear hal
        by_cases hj8 : j < 8
        · have hcj := hS.out.cellN j (by rw [HAL.out, HS8.out]; omega)
          have hfj := hS.out.free j
          have hix := run_index_nums (P := Try.prog) 213 179 8 .u32 V j Try.underlying213 Try.underlying179 (by kernel_rfl) HV8.out hj8
          go_wp2
          go_region
          go_wp2
          go_roundw
          case rel =>
            refine ⟨j + 1, by omega, by go_num, Lib.hid ?_, Lib.hid (grown_drew (grown_setCell hK.out _ _))⟩
            rw [HAS.out]
            exact (hS.out.put j _).drew
          case measure => simp [intOf]; omega
        · have hj8 : j = 8 := by omega
          subst hj8
          go_wp2
          go_end0
          exact ⟨rfl, by rw [HC.out (by first | trivial | rfl)]; exact hS.out, hK.out⟩
end Go.Proofs.Ytoiiacbbfhlocaa.HSa
end
end
section
set_option linter.unusedVariables false
set_option linter.unusedSimpArgs false
namespace Go.Proofs.Ytoiiacbbfhlocaa.HSa
open Go.RowKit Go.Proofs.YtoiiacbbfhlocaaW.PrintWords Go.Proofs.YtoiiacbbfhlocaaW.PrintLast Go.Proofs.YtoiiacbbfhlocaaW.PrintMore Go.Proofs.Ytoiiacbbfhlocaa.Kit Go.Proofs.Ytoiiacbbfhlocaa.Sr
theorem info5 : (Try.prog.info? 5).map (fun i => (i.zero, i.size, i.bytes)) = some (some (.int .u8 0), 1, 1) := by kernel_rfl
def iv : List Int := [0x6A09E667, 0xBB67AE85, 0x3C6EF372, 0xA54FF53A, 0x510E527F, 0x9B05688C, 0x1F83D9AB, 0x5BE0CD19]
def comeN (s l : List Int) : Nat → List Int
  | 0 => s
  | k + 1 => comeF (comeN s l k) ((l.drop (64 * k)).take 64)
theorem comeN_length (s l : List Int) : ∀ n, (comeN s l n).length = s.length
  | 0 => rfl
  | n + 1 => by simp [comeN, comeF_length, comeN_length s l n]
theorem cut64 (A : Option Addr) (n c : Nat) (hn : 64 ≤ n) (hc : n ≤ c) :
    (∀ W : World, (Instr.slice 29 (.slice A n c) none (some (.int .i64 64)) none).run Try.prog W = .ok (.slice A 64 c) W) ∧
    (∀ (w : World) (l : List Int), Kd.C (Kd.int .u8) w A n l → Kd.C (Kd.int .u8) w A 64 (l.take 64)) ∧
    ∃ A', (∀ W : World, (Instr.slice 29 (.slice A n c) (some (.int .i64 64)) none none).run Try.prog W = .ok (.slice A' (n - 64) (c - 64)) W) ∧
      (∀ (w : World) (l : List Int), Kd.C (Kd.int .u8) w A n l → Kd.C (Kd.int .u8) w A' (n - 64) (l.drop 64)) := by
  obtain ⟨i0, hi, hz0, hz1, hz2⟩ := info_parts info5
  obtain ⟨A', h1, h2⟩ := print_cut (P := Try.prog) 29 5 .i64 Try.underlying29 hi hz1 A n c 64 hn
  refine ⟨?_, ?_, A', h1, ?_⟩
  · intro W
    have hx : (List.replicate n (0 : Int)).length = n := by simp
    have h3 := (print_take_int (P := Try.prog) (k := .u8) 29 5 Try.underlying29 hi hz1 A c (List.replicate n 0) 64 (by omega) (by simp; omega) (by simp; omega)).1 W
    simpa [Nat.min_eq_left hn] using h3
  · intro w l hr
    have hl : l.length = n := hr.1
    have h3 := (print_take_int (P := Try.prog) (k := .u8) 29 5 Try.underlying29 hi hz1 A c l 64 (by omega) (by omega) (by omega)).2.1 w (by rw [hl]; exact Kd.reads_of_C (enc := Value.int .u8) (d := (0 : Int)) (h1 := fun _ => rfl) hr)
    have h4 := Kd.C_of_reads (enc := Value.int .u8) (d := (0 : Int)) (h1 := fun _ => rfl) h3
    have e : (l.take (64 : Int).toNat).length = 64 := by simp; omega
    rw [e] at h4
    exact h4
  · intro w l hr
    have h3 := h2 w .u8 l hc (Kd.reads_of_C (enc := Value.int .u8) (d := (0 : Int)) (h1 := fun _ => rfl) hr)
    exact Kd.C_of_reads (enc := Value.int .u8) (d := (0 : Int)) (h1 := fun _ => rfl) h3
theorem new_arr {P : Program} {ops : Array Oper} {rest : List Oper} {o : Oper} {a : Act} {Q : Exit → Act → World → Prop} {W : World} (hgd : o.guard = none) (T : TypeId) (k : IntKind) (xs : List Int)
    (hrun : (execOp a.eval o).run P W = .ok (.value (.pointer (some ⟨W.heap.size, 0, none⟩))) (W.alloc (.cells (nums k xs).toArray T)))
    (h : ∀ w1, Arr k T w1 W.heap.size xs → Below W.heap.size W w1 → wpList P ops Q rest (a.put o.dst (.pointer (some ⟨W.heap.size, 0, none⟩))) w1) : wpList P ops Q (o :: rest) a W :=
  Kd.event_run hgd hrun (h _ (Arr.new W k T xs) (below_alloc (Below.refl _ _) _))
def lenB (n j : Nat) : Int := (n : Int) * 8 / 2 ^ (56 - 8 * j) % 256
def outB (st : List Int) (j : Nat) : Int := st.getD (j / 4) 0 / 2 ^ (24 - j % 4 * 8) % 256
def outN (st : List Int) (j : Nat) : List Int := (List.range j).map (outB st) ++ List.replicate (32 - j) 0
theorem outN_length (st : List Int) (j : Nat) (hj : j ≤ 32) : (outN st j).length = 32 := by simp [outN]; omega
theorem outN_step (st : List Int) (j : Nat) (hj : j < 32) : (outN st j).set j (outB st j) = outN st (j + 1) := by
  unfold outN
  have e : List.replicate (32 - j) (0 : Int) = 0 :: List.replicate (32 - (j + 1)) 0 := by rw [show 32 - j = (32 - (j + 1)) + 1 from by omega, List.replicate_succ]
  rw [e, List.set_append_right _ _ (by simp)]
  simp [List.range_succ]
def tailF (l : List Int) : List Int :=
  l.drop (64 * (l.length / 64)) ++ [128] ++ List.replicate ((119 - l.length % 64) % 64) 0 ++ (List.range 8).map (lenB l.length)
def sumF (l : List Int) : List Int := outN (comeN (comeN iv l (l.length / 64)) (tailF l) ((tailF l).length / 64)) 32
theorem grown_trans {w W W1 : World} {r : Option Nat} (h : w.grownBy W r) (h' : W.grownBy W1 r) : w.grownBy W1 r :=
  ⟨h'.os.trans h.os, h'.tape.trans h.tape, h'.output.trans h.output, Nat.le_trans h.size h'.size, fun i hi hne => (h'.block i (Nat.lt_of_lt_of_le hi h.size) hne).trans (h.block i hi hne)⟩
theorem Arr.grown {k : IntKind} {T : TypeId} {w w1 : World} {g gs : Nat} {xs : List Int} (h : Arr k T w g xs) (hg : w.grownBy w1 (some gs)) (hne : g ≠ gs) : Arr k T w1 g xs := ⟨(hg.block g h.lt (fun e => hne (by injection e))).trans h.out⟩
attribute [local irreducible] comeN comeF iv
set_option maxHeartbeats 2000000 in
set_option maxRecDepth 100000 in
theorem sum_any (A : Option Addr) (c : Nat) (l : List Int) (w : World) (hr : Kd.C (Kd.int .u8) w A l.length l) (hc : l.length ≤ c) (hl : l.length ≤ 1000000) :
    Calls Try.prog 144 #[.slice A l.length c] w (GivesArr .u8 (sumF l) w) := by
  have HR := Lib.hid hr
  obtain ⟨n, hn⟩ : ∃ n, n = l.length := ⟨_, rfl⟩
  have HN := Lib.hid hn
  rw [← hn] at hc hl ⊢
  clear hr hn
  have hmf : ∀ (fn : Fn) (first cap : Array Value) (w : World), (Instr.makeFunc fn first cap).run Try.prog w = .ok (.func fn first cap) w := fun _ _ _ _ => rfl
  go_enter Try.func144, Try.ntmps144
  go_wp2_with (first
    | ((with_reducible refine gate_dst (N := 2) rfl ?_); refine alloc_arr rfl 23 rfl .u8 (List.replicate 32 0) (fun w => Try.zeroValue23 w) (by first | (go_simp; done) | (go_simp; rfl)) ?_; intro w1 hA1 hB1)
    | ((with_reducible refine gate_dst (N := 11) rfl ?_); refine new_arr rfl 213 .u32 iv (by first | (go_simp; done) | (go_simp; unfold iv; rfl)) ?_; intro w2 hA2 hB2)
    | fail)
  have hg12 := hA1.lt
  have hA1' := hA1.next hB2
  have hBw2 := below_next hB1 hB2
  generalize w1.heap.size = gs at *
  have HS0 : Hid (Arr .u32 213 w2 gs (comeN iv l 0)) := Lib.hid (by unfold comeN; exact hA2)
  have HR0 : Hid (Kd.C (Kd.int .u8) w A n (l.drop (64 * 0))) := Lib.hid (by simpa [HN.out] using HR.out)
  clear hA2 hB2 hB1 hA1
  have hnn := hc
  go_loopw [0] (fun v wr => ∃ (k : Nat) (A' : Option Addr) (n' c' : Nat), v = .slice A' n' c' ∧ n' + 64 * k = n ∧ n' ≤ c' ∧ Hid (Kd.C (Kd.int .u8) w A' n' (l.drop (64 * k))) ∧ Hid (Arr .u32 213 wr gs (comeN iv l k)) ∧ Hid (w2.grownBy wr (some gs))) (fun v _ => match v with | .slice _ n _ => n | _ => 0)
  case atStart => exact ⟨0, A, n, c, rfl, by omega, hc, HR0, HS0, Lib.hid (grown_of_below (Below.refl _ _) _)⟩
  case round =>
    clear HS0 HR0
    obtain ⟨k, A', n', c', rfl, hk, hc', hR, hS, hG⟩ := hrel
    have hbw : Below w.heap.size w wr := pw_below_grown hBw2 (some gs) hBw2.size hG.out (fun k hk => by cases hk; omega)
    by_cases h64 : 64 ≤ n'
    · obtain ⟨hsl1, hC1, A'', hsl2, hC2⟩ := cut64 A' n' c' h64 hc'
      have hcl := comeN_length iv l k
      have HC1 := Lib.hid (hC1 wr _ (Kd.C_below hR.out hbw))
      have HC2 := Lib.hid (hC2 w _ hR.out)
      clear hC1 hC2
      have HCL : Hid ((comeN iv l k).length = 8) := Lib.hid (by rw [hcl]; unfold iv; rfl)
      clear hcl
      go_wp2_with fail
      have hlen : ((l.drop (64 * k)).take 64).length = 64 := HC1.out.1
      refine (come_any gs (comeN iv l k) A' c' ((l.drop (64 * k)).take 64) wr hS.out HCL.out (by rw [hlen]; exact HC1.out) hlen).mono ?_
      rintro e w' ⟨rfl, hS', hG'⟩
      have HS2 : Hid (Arr .u32 213 w' gs (comeN iv l (k + 1))) := Lib.hid (by rw [comeN]; exact hS')
      have HG2 := Lib.hid (grown_trans hG.out hG')
      clear hS' hG' hlen
      go_wp2
      go_roundw
      case rel =>
        refine ⟨k + 1, A'', n' - 64, c' - 64, rfl, by omega, by omega, ?_, HS2, HG2⟩
        have h := HC2.out
        rw [List.drop_drop, show 64 * k + 64 = 64 * (k + 1) from by omega] at h
        exact Lib.hid h
      case measure => simp; omega
    · have hlt : n' < 64 := by omega
      obtain ⟨wa, hwa⟩ : ∃ wa : World, wa = wr := ⟨_, rfl⟩
      subst hwa
      have hge : ¬ (64 : Int) ≤ (n' : Int) := by omega
      have HRw := Lib.hid (Kd.C_below hR.out hbw)
      go_wp2_with (first
        | ((with_reducible refine gate_dst (N := 27) rfl ?_); refine Kd.R_lit (Kd.int .u8) (w0 := wa) wa.heap.size 5 ?hg (N := 27) ?hd (xs := ([] : List Int)) (inner := []) (ok := fun _ => True) (okp := fun _ => True) ?hr ?hp (fun _ hk => hk) trivial (Below.refl _ _) (Nat.le_refl _) (by simp) ?_; (case hd => rfl); (case hg => rfl); (case hr => first | (go_simp; done) | (go_simp; rfl)); (case hp => exact (Reps.none _ _)); intro v3 w3 ho3 hb3 hg_ hnew_; clear hg_ hnew_; have HO3 := Aside0.mk ho3; have HB3 := Aside0.mk hb3; clear ho3 hb3)
        | ((with_reducible refine gate_builtin (b := .append) (xs := #[.tmp 27, .tmp 28]) rfl ?_); at_builtin; refine Kd.R_append_rows (Kd.int .u8) (w0 := wa) wa.heap.size rfl (.tmp 27) (.tmp 28) 29 5 (.int .u8 0) 1 rfl Try.underlying29 info5 rfl (by decide) (by omega) v3 [] (l.drop (64 * k)) A' n' c' (fun _ => True) (fun _ => False) rfl rfl HO3.out (by exact Kd.C_below HRw.out HB3.out) (fun _ _ h => h) (fun _ h => h.elim) (fun _ _ => trivial) HB3.out HB3.out.size ?aL ?_; (case aL => simp; omega); intro v4 w4 ho4 hb4 hg4 hat4; have HO4 := Aside0.mk ho4; have HB4 := Aside0.mk hb4; clear ho4 hb4 hg4 hat4)
        | ((with_reducible refine gate_builtin (b := .append) (xs := #[.tmp 29, .tmp 30]) rfl ?_); at_builtin; refine Kd.R_append (Kd.int .u8) (w0 := wa) wa.heap.size rfl (.tmp 29) (.tmp 30) 29 5 (.int .u8 0) 1 rfl Try.underlying29 info5 rfl (by decide) (by omega) v4 ([] ++ l.drop (64 * k)) 128 [.int .u8 128] (fun _ => True) (fun _ => False) rfl rfl ?aP (fun _ hk => hk.elim) (fun _ _ => trivial) HO4.out HB4.out HB4.out.size ?aL2 ?_; (case aP => exact rfl); (case aL2 => have := HRw.out.1; simp at this; simp; omega); intro v5 w5 ho5 hb5 hg5 hat5; have HO5 := Aside0.mk ho5; have HB5 := Aside0.mk hb5; clear ho5 hb5 hg5 hat5)
        | fail)
      obtain ⟨rest, hrest⟩ : ∃ r : List Int, r = ([] ++ l.drop (64 * k)) ++ [128] := ⟨_, rfl⟩
      rw [← hrest] at HO5
      have hrl : rest.length = n' + 1 := by rw [hrest]; have := HRw.out.1; simp at this ⊢; omega
      have HRL := Lib.hid hrl
      have HRE := Lib.hid hrest
      clear hrl hrest HO3 HB3 HO4 HB4
      obtain ⟨A5, c5, hv5, hc5, _⟩ := Kd.R_reads HO5.out
      rw [HRL.out] at hv5
      subst hv5
      have H50 : Hid (Kd.R (Kd.int .u8) 5 w5 wa.heap.size (fun _ => True) (.slice A5 (n' + 1) c5) (rest ++ List.replicate 0 0)) := Lib.hid (by simpa using HO5.out)
      have HB50 := Lib.hid HB5.out
      clear HO5 HB5
      have hz64 : (119 - n') % 64 < 64 := Nat.mod_lt _ (by omega)
      go_loopw [6] (fun v wx => ∃ (m q : Nat) (A6 : Option Addr) (c6 : Nat), v = .slice A6 q c6 ∧ q = n' + 1 + m ∧ m ≤ (119 - n') % 64 ∧ Hid (Kd.R (Kd.int .u8) 5 wx wa.heap.size (fun _ => True) (.slice A6 q c6) (rest ++ List.replicate m 0)) ∧ Hid (Below wa.heap.size wa wx)) (fun v _ => match v with | .slice _ n _ => 200 - n | _ => 0)
      case atStart => exact ⟨0, n' + 1, A5, c5, rfl, by omega, by omega, H50, HB50⟩
      case round =>
        clear H50 HB50
        obtain ⟨m, q, A6, c6, rfl, hq, hm, hO, hB⟩ := hrel
        have HQ := Lib.hid hq
        have hq200 : q ≤ 128 := by omega
        by_cases hz : m < (119 - n') % 64
        · have hmod : ¬ (q : Int) % 64 = 56 := by omega
          have hq1 : ((q : Int) % 64 == 56) = false := by simpa using hmod
          have hq2 : ((q : Int) % 64 != 56) = true := by simpa using hmod
          clear hq hmod
          go_wp2_with (first
            | ((with_reducible refine gate_builtin (b := .append) (xs := #[.tmp 36, .tmp 37]) rfl ?_); at_builtin; refine Kd.R_append (Kd.int .u8) (w0 := wa) wa.heap.size rfl (.tmp 36) (.tmp 37) 29 5 (.int .u8 0) 1 rfl Try.underlying29 info5 rfl (by decide) (by omega) (.slice A6 q c6) (rest ++ List.replicate m 0) 0 [.int .u8 0] (fun _ => True) (fun _ => False) rfl rfl ?aP (fun _ hk => hk.elim) (fun _ _ => trivial) hO.out hB.out hB.out.size ?aL2 ?_; (case aP => exact rfl); (case aL2 => have := HRL.out; have := HQ.out; simp; omega); intro v7 w7 ho7 hb7 hg7 hat7; have HO7 := Aside0.mk ho7; have HB7 := Aside0.mk hb7; clear ho7 hb7 hg7 hat7)
            | fail)
          obtain ⟨A7, c7, hv7, hc7, _⟩ := Kd.R_reads HO7.out
          have hl7 : (rest ++ List.replicate m 0 ++ [0]).length = q + 1 := by have := HRL.out; have := HQ.out; simp; omega
          rw [hl7] at hv7
          subst hv7
          have he : rest ++ List.replicate m (0 : Int) ++ [0] = rest ++ List.replicate (m + 1) 0 := by rw [List.append_assoc, ← List.replicate_succ']
          rw [he] at HO7
          have HO7' := Lib.hid HO7.out
          have HB7' := Lib.hid HB7.out
          clear he hl7 HO7 HB7
          go_roundw
          case rel => exact ⟨m + 1, q + 1, A7, c7, rfl, by have := HQ.out; omega, by omega, HO7', HB7'⟩
          case measure => simp; omega
        · have hmod : (q : Int) % 64 = 56 := by omega
          have hq1 : ((q : Int) % 64 == 56) = true := by simpa using hmod
          have hq2 : ((q : Int) % 64 != 56) = false := by simpa using hmod
          clear hq hmod
          go_wp2
          obtain ⟨wb, hwb⟩ : ∃ wb : World, wb = wr := ⟨_, rfl⟩
          subst hwb
          have HZ : Hid (m = (119 - n') % 64) := Lib.hid (by omega)
          obtain ⟨fil, hfil⟩ : ∃ f : List Int, f = rest ++ List.replicate m 0 := ⟨_, rfl⟩
          rw [← hfil] at hO
          have HFE := Lib.hid hfil
          have HFL : Hid (fil.length = q) := Lib.hid (by rw [hfil]; have := HRL.out; have := HQ.out; simp; omega)
          clear hfil hq1 hq2
          have H70 : Hid (Kd.R (Kd.int .u8) 5 wb wa.heap.size (fun _ => True) (.slice A6 q c6) (fil ++ (List.range 0).map (lenB n))) := Lib.hid (by simpa using hO.out)
          have HB70 := Lib.hid hB.out
          clear hO hB
          go_loopw [39, 6] (fun i v wx => ∃ (j p : Nat) (A6 : Option Addr) (c6 : Nat), i = .int .i64 j ∧ v = .slice A6 p c6 ∧ p = q + j ∧ j ≤ 8 ∧ Hid (Kd.R (Kd.int .u8) 5 wx wa.heap.size (fun _ => True) (.slice A6 p c6) (fil ++ (List.range j).map (lenB n))) ∧ Hid (Below wa.heap.size wa wx)) (fun i _ _ => 8 - (intOf i).toNat)
          case atStart => exact ⟨0, q, A6, c6, rfl, rfl, by omega, by omega, H70, HB70⟩
          case round =>
            clear H70 HB70
            obtain ⟨j, p, A6, c6, rfl, rfl, hp, hj, hO, hB⟩ := hrel
            have HP := Lib.hid hp
            have hp200 : p ≤ 136 := by omega
            clear hp
            by_cases hj8 : j < 8
            · have hs1 : 0 ≤ 56 - 8 * (j : Int) := by omega
              have hs2 : 8 * (j : Int) ≤ 56 := by omega
              have hs3 : (56 - 8 * (j : Int)).toNat = 56 - 8 * j := by omega
              go_wp2_with (first
                | ((with_reducible refine gate_builtin (b := .append) (xs := #[.tmp 42, .tmp 49]) rfl ?_); at_builtin; refine Kd.R_append (Kd.int .u8) (w0 := wa) wa.heap.size rfl (.tmp 42) (.tmp 49) 29 5 (.int .u8 0) 1 rfl Try.underlying29 info5 rfl (by decide) (by omega) (.slice A6 p c6) (fil ++ (List.range j).map (lenB n)) (lenB n j) [.int .u8 (lenB n j)] (fun _ => True) (fun _ => False) rfl rfl ?aP (fun _ hk => hk.elim) (fun _ _ => trivial) hO.out hB.out hB.out.size ?aL2 ?_; (case aP => exact rfl); (case aL2 => have := HFL.out; have := HP.out; simp; omega); intro v7 w7 ho7 hb7 hg7 hat7; have HO7 := Aside0.mk ho7; have HB7 := Aside0.mk hb7; clear ho7 hb7 hg7 hat7)
                | fail)
              obtain ⟨A7, c7, hv7, hc7, _⟩ := Kd.R_reads HO7.out
              have hl7 : (fil ++ (List.range j).map (lenB n) ++ [lenB n j]).length = p + 1 := by have := HFL.out; have := HP.out; simp; omega
              rw [hl7] at hv7
              subst hv7
              have he : fil ++ (List.range j).map (lenB n) ++ [lenB n j] = fil ++ (List.range (j + 1)).map (lenB n) := by rw [List.append_assoc, List.range_succ, List.map_append]; rfl
              rw [he] at HO7
              have HO7' := Lib.hid HO7.out
              have HB7' := Lib.hid HB7.out
              clear he hl7 HO7 HB7 hs3
              go_wp2
              go_roundw
              case rel => exact ⟨j + 1, p + 1, A7, c7, by go_num, rfl, by have := HP.out; omega, by omega, HO7', HB7'⟩
              case measure => simp [intOf]; omega
            · have hj8' : j = 8 := by omega
              subst hj8'
              obtain ⟨wc, hwc⟩ : ∃ wc : World, wc = wr := ⟨_, rfl⟩
              subst hwc
              obtain ⟨F, hF⟩ : ∃ F : List Int, F = fil ++ (List.range 8).map (lenB n) := ⟨_, rfl⟩
              rw [← hF] at hO
              have HFF := Lib.hid hF
              have HFl : Hid (F.length = p) := Lib.hid (by rw [hF]; have := HFL.out; have := HP.out; simp; omega)
              have hp64 : p % 64 = 0 := by have := HP.out; have := HQ.out; have := HZ.out; omega
              clear hF
              rw [show ((8 : Nat) : Int) = 8 from rfl]
              have hgsa : gs < wa.heap.size := hS.out.lt
              have hpc : p ≤ c6 := (Kd.R_reads' hO.out).2.1
              obtain ⟨S0, hS0⟩ : ∃ S0, S0 = comeN iv l k := ⟨_, rfl⟩
              rw [← hS0] at hS
              have HS0 := Lib.hid hS0
              have HS08 : Hid (S0.length = 8) := Lib.hid (by rw [hS0, comeN_length]; unfold iv; rfl)
              clear hS0
              have HA0 : Hid (Arr .u32 213 wc gs (comeN S0 F 0)) := Lib.hid (by unfold comeN; exact hS.out.next hB.out)
              go_wp2
              go_loopw [6] (fun v wx => ∃ (i p' : Nat) (A'' : Option Addr) (c'' : Nat), v = .slice A'' p' c'' ∧ p' + 64 * i = p ∧ p' ≤ c'' ∧ Hid (∀ W, Kd.C (Kd.int .u8) W A6 p F → Kd.C (Kd.int .u8) W A'' p' (F.drop (64 * i))) ∧ Hid (Arr .u32 213 wx gs (comeN S0 F i)) ∧ Hid (wc.grownBy wx (some gs))) (fun v _ => match v with | .slice _ n _ => n | _ => 0)
              case atStart => exact ⟨0, p, A6, c6, rfl, by omega, hpc, Lib.hid (fun W h => by simpa using h), HA0, Lib.hid (grown_of_below (Below.refl _ _) _)⟩
              case round =>
                clear HA0
                obtain ⟨i, p', A'', c'', rfl, hpi, hpc', hT, hSS, hGG⟩ := hrel
                have hRx := Kd.R_grown (ok := fun k => k ≠ gs) (Kd.R_mono (Kd.R_bound hO.out) (fun k hk => by have := hk.2.1; omega)) hGG.out (fun k hk e => hk (by injection e))
                have HCx := Lib.hid (hT.out wr (by have := (Kd.R_reads' hRx).2.2; rw [HFl.out] at this; exact this))
                clear hRx
                by_cases hp0 : 64 ≤ p'
                · obtain ⟨hsl1, hC1, A3, hsl2, hC2⟩ := cut64 A'' p' c'' hp0 hpc'
                  have HC1 := Lib.hid (hC1 wr _ HCx.out)
                  have HT2 : Hid (∀ W, Kd.C (Kd.int .u8) W A6 p F → Kd.C (Kd.int .u8) W A3 (p' - 64) (F.drop (64 * (i + 1)))) := Lib.hid (fun W h => by
                    have h2 := hC2 W _ (hT.out W h)
                    rw [List.drop_drop, show 64 * i + 64 = 64 * (i + 1) from by omega] at h2
                    exact h2)
                  clear hC1 hC2
                  have HCL : Hid ((comeN S0 F i).length = 8) := Lib.hid (by rw [comeN_length]; exact HS08.out)
                  have hpp : (0 : Int) < (p' : Int) := by omega
                  go_wp2_with fail
                  have hlen : ((F.drop (64 * i)).take 64).length = 64 := HC1.out.1
                  refine (come_any gs (comeN S0 F i) A'' c'' ((F.drop (64 * i)).take 64) wr hSS.out HCL.out (by rw [hlen]; exact HC1.out) hlen).mono ?_
                  rintro e w' ⟨rfl, hS', hG'⟩
                  have HS2 : Hid (Arr .u32 213 w' gs (comeN S0 F (i + 1))) := Lib.hid (by rw [comeN]; exact hS')
                  have HG2 := Lib.hid (grown_trans hGG.out hG')
                  clear hS' hG' hlen
                  go_wp2
                  go_roundw
                  case rel => exact ⟨i + 1, p' - 64, A3, c'' - 64, rfl, by omega, by omega, HT2, HS2, HG2⟩
                  case measure => simp; omega
                · have hp00 : p' = 0 := by omega
                  subst hp00
                  have hlt32 : w.heap.size < wr.heap.size := by have := hSS.out.lt; omega
                  have hbwc : Below w.heap.size w wc := below_next hbw hB.out
                  have hbwr : Below w.heap.size w wr := pw_below_grown hbwc (some gs) hbwc.size hGG.out (fun k hk => by cases hk; omega)
                  have hA32 : Arr .u8 23 wr w.heap.size (List.replicate 32 0) := Arr.grown ((Arr.grown hA1' hG.out (by omega)).below hB.out (by omega)) hGG.out (by omega)
                  go_wp2_with (first
                    | ((with_reducible refine gate_dst (N := 8) rfl ?_); refine alloc_arr rfl 23 rfl .u8 (List.replicate 32 0) (fun w => Try.zeroValue23 w) (by first | (go_simp; done) | (go_simp; rfl)) ?_; intro wd hAd hBd; have hSd := hSS.out.next hBd; have hA32d := hA32.next hBd; have hbd := below_next hbwr hBd)
                    | fail)
                  obtain ⟨st, hst⟩ : ∃ st, st = comeN S0 F i := ⟨_, rfl⟩
                  rw [← hst] at hSd
                  have HST := Lib.hid hst
                  have HST8 : Hid (st.length = 8) := Lib.hid (by rw [hst, comeN_length]; exact HS08.out)
                  have HII : Hid (i = p / 64) := Lib.hid (by omega)
                  clear hst
                  have hgd : wr.heap.size < wd.heap.size := hAd.lt
                  have hgsd : gs < wr.heap.size := hSS.out.lt
                  generalize wr.heap.size = gd at *
                  have HO0 : Hid (Arr .u8 23 wd gd (outN st 0)) := Lib.hid hAd
                  have HSD := Lib.hid hSd
                  have HA32D := Lib.hid hA32d
                  have HBDD := Lib.hid hbd
                  clear hAd hBd hSd hA32d hbd hA32 hbwr hbwc
                  obtain ⟨we, hwe⟩ : ∃ we : World, we = wr := ⟨_, rfl⟩
                  subst hwe
                  go_loopw [61] (fun i wx => ∃ j : Nat, i = .int .i64 j ∧ j ≤ 32 ∧ Hid (Arr .u8 23 wx gd (outN st j)) ∧ Hid (Below gd wd wx)) (fun i _ => 32 - (intOf i).toNat)
                  case atStart => exact ⟨0, rfl, by omega, HO0, Lib.hid (Below.refl _ _)⟩
                  case round =>
                    clear HO0
                    obtain ⟨j, rfl, hj, hO5, hB5⟩ := hrel
                    have hlen5 := outN_length st j hj
                    by_cases hj32 : j < 32
                    · have hcs := (HSD.out.below hB5.out (by omega)).cellN (j / 4) (by rw [HST8.out]; omega)
                      have hcd := hO5.out.cellN j (by omega)
                      have hfd := hO5.out.free j
                      have hm1 : 0 ≤ 24 - (j : Int) % 4 * 8 := by omega
                      have hm2 : (j : Int) % 4 * 8 ≤ 24 := by omega
                      have hm3 : (24 - (j : Int) % 4 * 8).toNat = 24 - j % 4 * 8 := by omega
                      have hd1 : (j : Int) / 4 < 8 := by omega
                      have HL5 := Lib.hid hlen5
                      clear hlen5
                      go_wp2
                      go_roundw
                      case rel =>
                        refine ⟨j + 1, by go_num, by omega, Lib.hid ?_, Lib.hid (below_setCell hB5.out _ _ (Nat.le_refl _) _)⟩
                        rw [← outN_step st j hj32]
                        exact hO5.out.put j _
                      case measure => simp [intOf]; omega
                    · have hj32' : j = 32 := by omega
                      subst hj32'
                      have HLL := Lib.hid hlen5
                      clear hlen5
                      go_wp2_with (first
                        | ((with_reducible refine gate_dst (N := 79) rfl ?_); refine load_arr rfl 23 _ rfl gd rfl .u8 _ _ _ _ hO5.out Try.underlying23 (by rw [HLL.out]; kernel_rfl) ?_)
                        | ((with_reducible refine gate_store (t := 23) (p := 2) rfl ?_); refine store_arr rfl 23 _ _ rfl w.heap.size .u8 (outN st 32) rfl rfl 23 _ (HA32D.out.below hB5.out hlt32) (by rw [HLL.out]; rfl) (by rw [HLL.out]; kernel_rfl) ?_; intro wz hAz hwz; subst hwz)
                        | fail)
                      have HSF : sumF l = outN st 32 := by
                        have ek : l.length / 64 = k := by have := HN.out; omega
                        have en : l.length % 64 = n' := by have := HN.out; omega
                        have eF : tailF l = F := by
                          rw [HFF.out, HFE.out, HRE.out, HZ.out]
                          unfold tailF
                          rw [ek, en, ← HN.out, List.nil_append]
                        unfold sumF
                        rw [eF, HFl.out, ek, ← HII.out, ← HS0.out, ← HST.out]
                      exact bodyPost_ret (results_arr rfl _ _ w.heap.size .u8 _ _ _ (outN st 32) rfl hAz Try.underlying23 (by rw [HLL.out]; kernel_rfl)) rfl ⟨by rw [HSF], below_setRow (HBDD.out.trans (hB5.out.mono (by omega))) _ (Nat.le_refl _) _⟩
end Go.Proofs.Ytoiiacbbfhlocaa.HSa
end
section
section
set_option linter.unusedVariables false
set_option linter.unusedSimpArgs false
namespace Go.Proofs.Ytoiiacbbfhlocaa.HSa
open Go.RowKit Go.Proofs.YtoiiacbbfhlocaaW.PrintWords Go.Proofs.Ytoiiacbbfhlocaa.Kit Go.Proofs.Ytoiiacbbfhlocaa.Sa
def W32 (x : Int) : Prop := 0 ≤ x ∧ x < 4294967296
def turnN (x i : Nat) : Nat := x / 2 ^ i + x % 2 ^ i * 2 ^ (32 - i)
theorem turnN_zero (x : Nat) : turnN x 0 = x := by simp [turnN, Nat.mod_one]
theorem turnN_succ (x i : Nat) (h : i < 32) : turnN x (i + 1) = turnN x i / 2 + turnN x i % 2 * 2147483648 := by
  unfold turnN
  obtain ⟨p, hp⟩ : ∃ p, p = 2 ^ i := ⟨_, rfl⟩
  obtain ⟨q, hq⟩ : ∃ q, q = 2 ^ (31 - i) := ⟨_, rfl⟩
  have h1 : 2 ^ (i + 1) = p * 2 := by rw [Nat.pow_succ, hp]
  have h2 : 2 ^ (32 - i) = q * 2 := by rw [show 32 - i = (31 - i) + 1 from by omega, Nat.pow_succ, hq]
  have h3 : 2 ^ (32 - (i + 1)) = q := by rw [show 32 - (i + 1) = 31 - i from by omega, hq]
  have h4 : p * q = 2147483648 := by rw [hp, hq, ← Nat.pow_add, show i + (31 - i) = 31 from by omega]
  rw [h1, h2, h3, ← hp]
  have h5 : x / (p * 2) = x / p / 2 := (Nat.div_div_eq_div_mul x p 2).symm
  have h6 : x % (p * 2) = x % p + p * (x / p % 2) := Nat.mod_mul
  rw [h5, h6]
  have h7 : x % p * (q * 2) = 2 * (x % p * q) := by rw [← Nat.mul_assoc, Nat.mul_comm]
  have h8 : (x % p + p * (x / p % 2)) * q = x % p * q + (x / p % 2) * 2147483648 := by
    rw [Nat.add_mul, ← h4, Nat.mul_comm p (x / p % 2), Nat.mul_assoc]
  rw [h7, h8]
  generalize x / p = a
  generalize x % p * q = b
  omega
theorem turnN_lt (x i : Nat) (h : i ≤ 32) (hx : x < 4294967296) : turnN x i < 4294967296 := by
  unfold turnN
  obtain ⟨p, hp⟩ : ∃ p, p = 2 ^ i := ⟨_, rfl⟩
  obtain ⟨q, hq⟩ : ∃ q, q = 2 ^ (32 - i) := ⟨_, rfl⟩
  have h4 : p * q = 4294967296 := by rw [hp, hq, ← Nat.pow_add, show i + (32 - i) = 32 from by omega]
  rw [← hp, ← hq]
  have hp0 : 0 < p := by rw [hp]; exact Nat.two_pow_pos i
  have h1 : x / p < q := by rw [Nat.div_lt_iff_lt_mul hp0, Nat.mul_comm, h4]; exact hx
  have h2 : x % p < p := Nat.mod_lt _ hp0
  have h3 : (x % p + 1) * q ≤ p * q := Nat.mul_le_mul_right q h2
  rw [Nat.add_mul, h4] at h3
  omega
theorem rotr_nat (x n : Nat) (h : 0 < n ∧ n < 32) (hx : x < 4294967296) : rotr x n = (turnN x n : Int) := by
  unfold rotr turnN
  obtain ⟨p, hp⟩ : ∃ p, p = 2 ^ n := ⟨_, rfl⟩
  obtain ⟨q, hq⟩ : ∃ q, q = 2 ^ (32 - n) := ⟨_, rfl⟩
  have h4 : p * q = 4294967296 := by rw [hp, hq, ← Nat.pow_add, show n + (32 - n) = 32 from by omega]
  have hp0 : 0 < p := by rw [hp]; exact Nat.two_pow_pos n
  have h1 : x / p < q := by rw [Nat.div_lt_iff_lt_mul hp0, Nat.mul_comm, h4]; exact hx
  have e1 : ((x : Int) * 2 ^ (32 - (n : Int)).toNat % 4294967296) = ((x * q % 4294967296 : Nat) : Int) := by
    rw [show (32 - (n : Int)).toNat = 32 - n from by omega]
    rw [show (2 : Int) ^ (32 - n) = ((2 ^ (32 - n) : Nat) : Int) from by rw [Int.natCast_pow]; rfl, ← hq]
    rw [Int.natCast_emod, Int.natCast_mul, show ((4294967296 : Nat) : Int) = 4294967296 from rfl]
  have e2 : ((x : Int) / 2 ^ (n : Int).toNat) = ((x / p : Nat) : Int) := by
    rw [show (n : Int).toNat = n from by omega, hp, Int.natCast_ediv, Int.natCast_pow]; rfl
  rw [e1, e2, bor32 _ _ (Nat.mod_lt _ (by decide)) (by have := Nat.div_le_self x p; omega), ← hp, ← hq]
  have e3 : x * q % 4294967296 = x % p * q := by rw [← h4, Nat.mul_mod_mul_right]
  rw [e3, Nat.add_comm, Nat.mul_comm (x % p) q, hq, Nat.two_pow_add_eq_or_of_lt (by rw [← hq]; exact h1)]
theorem turn_loop (x n : Nat) (hn : n < 32) (hx : x < 4294967296) : ∀ d i k, i + d = n → padlockref01_Turn.l0 (k + d + 1) (turnN x i : Int) n i = some (turnN x n : Int)
  | 0, i, k, hi => by
    have : i = n := by omega
    subst this
    simp only [padlockref01_Turn.l0]
    rw [if_neg (by omega)]
  | d + 1, i, k, hi => by
    have ih := turn_loop x n hn hx d (i + 1) k (by omega)
    have hl := turnN_lt x i (by omega) hx
    generalize hK : k + (d + 1) = K
    simp only [padlockref01_Turn.l0]
    subst hK
    rw [if_pos (by omega), show wrap64 ((i : Int) + 1) = ((i + 1 : Nat) : Int) from by unfold wrap64; omega]
    rw [← ih, turnN_succ x i (by omega)]
    rw [Int.tdiv_eq_ediv_of_nonneg (by omega), Int.tmod_eq_emod_of_nonneg (by omega)]
    have e : (((turnN x i : Int) / 2 % 4294967296 + (turnN x i : Int) % 2 * 2147483648 % 4294967296) % 4294967296) = ((turnN x i / 2 + turnN x i % 2 * 2147483648 : Nat) : Int) := by
      omega
    rw [e]
    rfl
theorem turn_tells (x n : Int) (h : 0 < n ∧ n < 32) (hx : W32 x) (k : Nat) : padlockref01_Turn.f (k + 33) x n = some (rotr x n) := by
  obtain ⟨a, rfl⟩ := Int.eq_ofNat_of_zero_le hx.1
  obtain ⟨b, rfl⟩ := Int.eq_ofNat_of_zero_le (by omega : 0 ≤ n)
  have ha : a < 4294967296 := by have := hx.2; omega
  rw [rotr_nat a b (by omega) ha]
  have := turn_loop a b (by omega) ha b 0 (k + 33 - b - 1) (by omega)
  rw [turnN_zero, show k + 33 - b - 1 + b + 1 = k + 33 from by omega] at this
  exact this
theorem or_add (a b i p : Nat) (hp : p = 2 ^ i) (hb : b < p) : a * p ||| b = a * p + b := by
  subst hp
  rw [Nat.mul_comm, ← Nat.two_pow_add_eq_or_of_lt hb]
theorem word4_sum (l : List Int) (hl : Bytes l) (i : Nat) : word4 l i = ((l.getD (4 * i) 0 * 256 + l.getD (4 * i + 1) 0) * 256 + l.getD (4 * i + 2) 0) * 256 + l.getD (4 * i + 3) 0 := by
  have hb : ∀ j, 0 ≤ l.getD j 0 ∧ l.getD j 0 < 256 := fun j => by have := hl.at_ (j : Int); simpa [rd] using this
  unfold word4
  have h0 := hb (4 * i)
  have h1 := hb (4 * i + 1)
  have h2 := hb (4 * i + 2)
  have h3 := hb (4 * i + 3)
  obtain ⟨a, ea⟩ := Int.eq_ofNat_of_zero_le h0.1
  obtain ⟨b, eb⟩ := Int.eq_ofNat_of_zero_le h1.1
  obtain ⟨c, ec⟩ := Int.eq_ofNat_of_zero_le h2.1
  obtain ⟨d, ed⟩ := Int.eq_ofNat_of_zero_le h3.1
  rw [ea] at h0
  rw [eb] at h1
  rw [ec] at h2
  rw [ed] at h3
  rw [ea, eb, ec, ed]
  have e0 : ((a : Int) % 4294967296 * 16777216 % 4294967296) = ((a * 16777216 : Nat) : Int) := by omega
  have e1 : ((b : Int) % 4294967296 * 65536 % 4294967296) = ((b * 65536 : Nat) : Int) := by omega
  have e2 : ((c : Int) % 4294967296 * 256 % 4294967296) = ((c * 256 : Nat) : Int) := by omega
  have e3 : ((d : Int) % 4294967296) = ((d : Nat) : Int) := by omega
  rw [e0, e1, e2, e3, bor32 _ _ (by omega) (by omega), or_add a (b * 65536) 24 16777216 rfl (by omega)]
  rw [show a * 16777216 + b * 65536 = (a * 256 + b) * 65536 from by omega, bor32 _ _ (by omega) (by omega), or_add _ (c * 256) 16 65536 rfl (by omega)]
  rw [show (a * 256 + b) * 65536 + c * 256 = ((a * 256 + b) * 256 + c) * 256 from by omega, bor32 _ _ (by omega) (by omega), or_add _ d 8 256 rfl (by omega)]
  omega
theorem word4_w (l : List Int) (hl : Bytes l) (i : Nat) : W32 (word4 l i) := by
  have hb : ∀ j, 0 ≤ l.getD j 0 ∧ l.getD j 0 < 256 := fun j => by have := hl.at_ (j : Int); simpa [rd] using this
  rw [word4_sum l hl]
  have h0 := hb (4 * i)
  have h1 := hb (4 * i + 1)
  have h2 := hb (4 * i + 2)
  have h3 := hb (4 * i + 3)
  exact ⟨by omega, by omega⟩
theorem andNot_eq (a b : Int) (ha : W32 a) (hb : W32 b) : Go.bits .andNot .u32 a b = Go.bits .and .u32 ((4294967295 - b) % 4294967296) a := by
  obtain ⟨a, rfl⟩ := Int.eq_ofNat_of_zero_le ha.1
  obtain ⟨b, rfl⟩ := Int.eq_ofNat_of_zero_le hb.1
  have h1 : a < 4294967296 := by have := ha.2; omega
  have h2 : b < 4294967296 := by have := hb.2; omega
  rw [u32_andNot _ _ ha.1 ha.2 hb.1 hb.2, show (4294967295 - (b : Int)) % 4294967296 = ((4294967295 - b : Nat) : Int) from by omega, band32 _ _ (by omega) h1, Nat.and_comm]
  rfl
end Go.Proofs.Ytoiiacbbfhlocaa.HSa
end
section
set_option linter.unusedVariables false
set_option linter.unusedSimpArgs false
namespace Go.Proofs.Ytoiiacbbfhlocaa.HSa
open Go.RowKit Go.Proofs.YtoiiacbbfhlocaaW.PrintWords Go.Proofs.Ytoiiacbbfhlocaa.Kit Go.Proofs.Ytoiiacbbfhlocaa.Sa
def msgV (l : List Int) (i : Nat) : Int := if i < 16 then word4 l i else wordN (msg l i) i
theorem take_set_next (m : List Int) (i : Nat) (v : Int) (h : i < m.length) : (m.set i v).take (i + 1) = m.take i ++ [v] := by
  rw [List.take_add_one, List.getElem?_set_self h, List.take_set_of_le (Nat.le_refl i)]
  rfl
theorem msg_take (l : List Int) (i : Nat) (h : i < 64) : (msg l (i + 1)).take (i + 1) = (msg l i).take i ++ [msgV l i] := by
  show ((msg l i).set i _).take (i + 1) = _
  rw [take_set_next _ _ _ (by rw [msg_length]; exact h)]
  rfl
theorem set_w (m : List Int) (i : Nat) (v : Int) (hm : ∀ j, W32 (m.getD j 0)) (hv : W32 v) (j : Nat) : W32 ((m.set i v).getD j 0) := by
  rw [List.getD_eq_getElem?_getD, List.getElem?_set]
  split
  · split
    · exact hv
    · exact ⟨by decide, by decide⟩
  · rw [← List.getD_eq_getElem?_getD]; exact hm j
theorem mod_w (x : Int) : W32 (IntKind.u32.wrap x) := by rw [IntKind.wrap_u32]; exact ⟨by omega, by omega⟩
theorem msg_w (l : List Int) (hl : Bytes l) : ∀ n j, W32 ((msg l n).getD j 0)
  | 0, j => by
    show W32 ((List.replicate 64 (0 : Int)).getD j 0)
    rw [List.getD_eq_getElem?_getD, List.getElem?_replicate]
    split <;> exact ⟨by decide, by decide⟩
  | n + 1, j => by
    show W32 (((msg l n).set n (if n < 16 then word4 l n else wordN (msg l n) n)).getD j 0)
    refine set_w _ _ _ (msg_w l hl n) ?_ j
    split
    · exact word4_w l hl n
    · exact mod_w _
theorem rd_nat (l : List Int) (j : Nat) : rd l (j : Int) = l.getD j 0 := rfl
theorem at_nat {l : List Int} (hb : Bytes l) (j : Nat) : 0 ≤ l.getD j 0 ∧ l.getD j 0 < 256 := hb.at_ (j : Int)
theorem rd_take (m : List Int) (i : Nat) (j : Int) (h0 : 0 ≤ j) (h1 : j < i) : rd (m.take i) j = m.getD j.toNat 0 := by
  unfold rd
  rw [List.getD_eq_getElem?_getD, List.getElem?_take, if_pos (by omega), ← List.getD_eq_getElem?_getD]
theorem s_eq (x : Int) (hx : W32 x) (t1 t2 : Int) (c : Int) (hc : 0 < c) : Go.bits .xor .u32 (Go.bits .xor .u32 t1 t2) ((Int.tdiv x c) % 4294967296) = Go.bits .xor .u32 (Go.bits .xor .u32 t1 t2) (x / c) := by
  rw [Int.tdiv_eq_ediv_of_nonneg hx.1]
  have h1 : 0 ≤ x / c := Int.ediv_nonneg hx.1 (by omega)
  have h2 : x / c ≤ x := Int.ediv_le_self c hx.1
  rw [Int.emod_eq_of_lt h1 (by have := hx.2; omega)]
attribute [local irreducible] msg
theorem words_byte (l x3 : List Int) (i : Nat) (k : Nat) (hi : i < 16) (hl : l.length = 64) (j : Nat) (hj : j < 4) (x : Int) (hx : 0 ≤ x ∧ x < 16777216) (hb : Bytes l) :
    padlockref01_Words.l1 (k + 1) l x3 i x j = padlockref01_Words.l1 k l x3 i (x * 256 + l.getD (4 * i + j) 0) ((j + 1 : Nat) : Int) := by
  have e : wrap64 (wrap64 (4 * (i : Int)) + (j : Int)) = ((4 * i + j : Nat) : Int) := by unfold wrap64; omega
  have hbj : 0 ≤ l.getD (4 * i + j) 0 ∧ l.getD (4 * i + j) 0 < 256 := at_nat hb _
  have er : rd l ((4 * i + j : Nat) : Int) = l.getD (4 * i + j) 0 := rd_nat _ _
  simp only [padlockref01_Words.l1]
  rw [e, er, if_pos (by omega), if_pos (by omega), if_pos (by omega), show wrap64 ((j : Int) + 1) = ((j + 1 : Nat) : Int) from by unfold wrap64; omega]
  generalize l.getD (4 * i + j) 0 = b at *
  rw [show (x * 256 % 4294967296 + b % 4294967296) % 4294967296 = x * 256 + b from by omega]
theorem words_four (l x3 : List Int) (i : Nat) (k : Nat) (hi : i < 16) (hl : l.length = 64) (hb : Bytes l) (h3 : x3.length ≤ 64) :
    padlockref01_Words.l1 (k + 5) l x3 i 0 0 = padlockref01_Words.l0 k l (x3 ++ [word4 l i]) ((i + 1 : Nat) : Int) := by
  have hg : ∀ j, 0 ≤ l.getD j 0 ∧ l.getD j 0 < 256 := at_nat hb
  have g0 := hg (4 * i)
  have g1 := hg (4 * i + 1)
  have g2 := hg (4 * i + 2)
  have g3 := hg (4 * i + 3)
  have s0 := words_byte l x3 i (k + 4) hi hl 0 (by decide) 0 (by omega) hb
  have s1 := words_byte l x3 i (k + 3) hi hl 1 (by decide) (0 * 256 + l.getD (4 * i) 0) (by omega) hb
  have s2 := words_byte l x3 i (k + 2) hi hl 2 (by decide) ((0 * 256 + l.getD (4 * i) 0) * 256 + l.getD (4 * i + 1) 0) (by omega) hb
  have s3 := words_byte l x3 i (k + 1) hi hl 3 (by decide) (((0 * 256 + l.getD (4 * i) 0) * 256 + l.getD (4 * i + 1) 0) * 256 + l.getD (4 * i + 2) 0) (by omega) hb
  refine s0.trans (s1.trans (s2.trans (s3.trans ?_)))
  rw [word4_sum l hb]
  simp only [padlockref01_Words.l1]
  rw [if_neg (by omega), if_pos (by omega), show wrap64 ((i : Int) + 1) = ((i + 1 : Nat) : Int) from by unfold wrap64; omega]
  simp
theorem words_loop (l : List Int) (hl : l.length = 64) (hb : Bytes l) : ∀ d i K, i + d = 64 → 34 + 6 * d ≤ K → padlockref01_Words.l0 K l ((msg l i).take i) i = some (msg l 64)
  | 0, i, K, hi, hK => by
    obtain ⟨k, rfl⟩ : ∃ k, K = k + 1 := ⟨K - 1, by omega⟩
    have : i = 64 := by omega
    subst this
    simp only [padlockref01_Words.l0]
    rw [if_neg (by omega), List.take_of_length_le (by rw [msg_length]; exact Nat.le_refl _)]
  | d + 1, i, K, hi, hK => by
    have hlen : ((msg l i).take i).length = i := by rw [List.length_take, msg_length]; omega
    by_cases h16 : i < 16
    · obtain ⟨k, rfl⟩ : ∃ k, K = k + 5 + 1 := ⟨K - 6, by omega⟩
      have ih := words_loop l hl hb d (i + 1) k (by omega) (by omega)
      rw [msg_take l i (by omega), show msgV l i = word4 l i from if_pos h16] at ih
      rw [← ih, ← words_four l _ i k h16 hl hb (by omega)]
      generalize hK5 : k + 5 = K5
      simp only [padlockref01_Words.l0]
      rw [if_pos (by omega), if_pos (by omega)]
    · obtain ⟨k, rfl⟩ : ∃ k, K = k + 33 + 1 := ⟨K - 34, by omega⟩
      have ih := words_loop l hl hb d (i + 1) (k + 33) (by omega) (by omega)
      rw [msg_take l i (by omega), show msgV l i = wordN (msg l i) i from if_neg h16] at ih
      have hw := msg_w l hb i
      have r15 : rd ((msg l i).take i) ((i - 15 : Nat) : Int) = (msg l i).getD (i - 15) 0 := rd_take _ _ _ (by omega) (by omega)
      have r2 : rd ((msg l i).take i) ((i - 2 : Nat) : Int) = (msg l i).getD (i - 2) 0 := rd_take _ _ _ (by omega) (by omega)
      have r16 : rd ((msg l i).take i) ((i - 16 : Nat) : Int) = (msg l i).getD (i - 16) 0 := rd_take _ _ _ (by omega) (by omega)
      have r7 : rd ((msg l i).take i) ((i - 7 : Nat) : Int) = (msg l i).getD (i - 7) 0 := rd_take _ _ _ (by omega) (by omega)
      have w15 : wrap64 ((i : Int) - 15) = ((i - 15 : Nat) : Int) := by unfold wrap64; omega
      have w2 : wrap64 ((i : Int) - 2) = ((i - 2 : Nat) : Int) := by unfold wrap64; omega
      have w16 : wrap64 ((i : Int) - 16) = ((i - 16 : Nat) : Int) := by unfold wrap64; omega
      have w7 : wrap64 ((i : Int) - 7) = ((i - 7 : Nat) : Int) := by unfold wrap64; omega
      have w1 : wrap64 ((i : Int) + 1) = ((i + 1 : Nat) : Int) := by unfold wrap64; omega
      unfold wordN s0 s1 at ih
      simp only [IntKind.wrap_u32] at ih
      rw [← ih]
      generalize hT : (msg l i).take i = t at *
      generalize hK5 : k + 33 = K5
      simp only [padlockref01_Words.l0]
      rw [w15, w2, w16, w7, w1, r15, r2, r16, r7]
      subst hK5
      have h15 := hw (i - 15)
      have h2 := hw (i - 2)
      clear hw r15 r2 r16 r7 w15 w2 w16 w7 w1 ih hT
      generalize (msg l i).getD (i - 15) 0 = a15 at *
      generalize (msg l i).getD (i - 2) 0 = a2 at *
      generalize (msg l i).getD (i - 16) 0 = a16 at *
      generalize (msg l i).getD (i - 7) 0 = a7 at *
      have t1 := turn_tells a15 7 (by decide) h15 k
      have t2 := turn_tells a15 18 (by decide) h15 k
      have t3 := turn_tells a2 17 (by decide) h2 k
      have t4 := turn_tells a2 19 (by decide) h2 k
      have e1 := s_eq a15 h15 (rotr a15 7) (rotr a15 18) 8 (by decide)
      have e2 := s_eq a2 h2 (rotr a2 17) (rotr a2 19) 1024 (by decide)
      rw [if_pos (by omega), if_neg (by omega), if_pos (by omega), if_pos (by omega), if_pos (by omega), if_pos (by omega), if_pos (by omega), if_pos (by omega), if_pos (by omega), if_pos (by omega)]
      rw [t1, t2, t3, t4]
      simp only [Option.bind_some]
      rw [e1, e2, if_pos (by omega)]
theorem words_tells (l : List Int) (hl : l.length = 64) (hb : Bytes l) (k : Nat) : padlockref01_Words.f (k + 418) l = some (msg l 64) := by
  have := words_loop l hl hb 64 0 (k + 418) rfl (by omega)
  exact this
end Go.Proofs.Ytoiiacbbfhlocaa.HSa
end
section
set_option linter.unusedVariables false
set_option linter.unusedSimpArgs false
namespace Go.Proofs.Ytoiiacbbfhlocaa.HSa
open Go.RowKit Go.Proofs.YtoiiacbbfhlocaaW.PrintWords Go.Proofs.Ytoiiacbbfhlocaa.Kit Go.Proofs.Ytoiiacbbfhlocaa.Sa
theorem consts_length : consts.length = 64 := by decide
theorem vstep_w (m v : List Int) (i : Nat) (hv : ∀ j, W32 (v.getD j 0)) : ∀ j, W32 ((vstep m v i).getD j 0)
  | 0 => ⟨by simp [vstep]; omega, by simp [vstep]; omega⟩
  | 1 => hv 0
  | 2 => hv 1
  | 3 => hv 2
  | 4 => ⟨by simp [vstep]; omega, by simp [vstep]; omega⟩
  | 5 => hv 4
  | 6 => hv 5
  | 7 => hv 6
  | n + 8 => ⟨by simp [vstep], by simp [vstep]⟩
theorem vloop_w (m s : List Int) (hs : ∀ j, W32 (s.getD j 0)) : ∀ n j, W32 ((vloop m s n).getD j 0)
  | 0, j => hs j
  | n + 1, j => vstep_w m _ n (vloop_w m s hs n) j
theorem adds_w (s v : List Int) (hs : ∀ j, W32 (s.getD j 0)) : ∀ n j, W32 ((adds s v n).getD j 0)
  | 0, j => hs j
  | n + 1, j => set_w _ _ _ (adds_w s v hs n) (mod_w _) j
theorem comeF_w (s l : List Int) (hs : ∀ j, W32 (s.getD j 0)) (j : Nat) : W32 ((comeF s l).getD j 0) := adds_w s _ hs 8 j
theorem adds_later (s v : List Int) : ∀ n j, n ≤ j → (adds s v n).getD j 0 = s.getD j 0
  | 0, j, _ => rfl
  | n + 1, j, h => by
    show ((adds s v n).set n _).getD j 0 = _
    rw [List.getD_eq_getElem?_getD, List.getElem?_set_ne (by omega), ← List.getD_eq_getElem?_getD]
    exact adds_later s v n j (by omega)
theorem adds_take (s v : List Int) (i : Nat) (h : i < s.length) : (adds s v (i + 1)).take (i + 1) = (adds s v i).take i ++ [(s.getD i 0 + v.getD i 0) % 4294967296] := by
  show ((adds s v i).set i _).take (i + 1) = _
  rw [take_set_next _ _ _ (by rw [adds_length]; exact h), adds_later s v i i (Nat.le_refl i), IntKind.wrap_u32]
theorem come_out (s v : List Int) (hs : s.length = 8) (hv : v.length = 8) : ∀ d i k, i + d = 8 → padlockref01_Come.l1 (k + d + 1) s v ((adds s v i).take i) i = some (adds s v 8)
  | 0, i, k, hi => by
    have : i = 8 := by omega
    subst this
    simp only [padlockref01_Come.l1]
    rw [if_neg (by omega), List.take_of_length_le (by rw [adds_length, hs]; exact Nat.le_refl _)]
  | d + 1, i, k, hi => by
    have ih := come_out s v hs hv d (i + 1) k (by omega)
    have hlen : ((adds s v i).take i).length = i := by rw [List.length_take, adds_length]; omega
    rw [adds_take s v i (by omega)] at ih
    rw [← ih]
    generalize hK : k + (d + 1) = K
    simp only [padlockref01_Come.l1]
    subst hK
    rw [rd_nat, rd_nat, if_pos (by omega), if_pos (by omega), if_pos (by omega), if_pos (by omega), if_pos (by omega), show wrap64 ((i : Int) + 1) = ((i + 1 : Nat) : Int) from by unfold wrap64; omega]
theorem come_step (s m v : List Int) (i k : Nat) (hi : i < 64) (hm : m.length = 64) (hv : v.length = 8) (hw : ∀ j, W32 (v.getD j 0)) :
    padlockref01_Come.l0 (k + 33 + 1) s consts m v i = padlockref01_Come.l0 (k + 33) s consts m (vstep m v i) ((i + 1 : Nat) : Int) := by
  have hc := consts_length
  unfold vstep oneS twoS big0 big1
  have r0 : rd v 0 = v.getD 0 0 := rfl
  have r1 : rd v 1 = v.getD 1 0 := rfl
  have r2 : rd v 2 = v.getD 2 0 := rfl
  have r3 : rd v 3 = v.getD 3 0 := rfl
  have r4 : rd v 4 = v.getD 4 0 := rfl
  have r5 : rd v 5 = v.getD 5 0 := rfl
  have r6 : rd v 6 = v.getD 6 0 := rfl
  have r7 : rd v 7 = v.getD 7 0 := rfl
  have rc : rd consts (i : Int) = consts.getD i 0 := rfl
  have rm : rd m (i : Int) = m.getD i 0 := rfl
  have w1 : wrap64 ((i : Int) + 1) = ((i + 1 : Nat) : Int) := by unfold wrap64; omega
  rw [andNot_eq _ _ (hw 6) (hw 4)]
  have h4 := hw 4
  have h0 := hw 0
  generalize hC : consts = C at *
  generalize hK : k + 33 = K
  simp only [padlockref01_Come.l0]
  subst hK
  rw [r0, r1, r2, r3, r4, r5, r6, r7, rc, rm, w1]
  clear r0 r1 r2 r3 r4 r5 r6 r7 rc rm w1 hw
  generalize v.getD 0 0 = v0 at *
  generalize v.getD 1 0 = v1 at *
  generalize v.getD 2 0 = v2 at *
  generalize v.getD 3 0 = v3 at *
  generalize v.getD 4 0 = v4 at *
  generalize v.getD 5 0 = v5 at *
  generalize v.getD 6 0 = v6 at *
  generalize v.getD 7 0 = v7 at *
  generalize C.getD i 0 = c at *
  generalize m.getD i 0 = mi at *
  have t1 := turn_tells v4 6 (by decide) h4 k
  have t2 := turn_tells v4 11 (by decide) h4 k
  have t3 := turn_tells v4 25 (by decide) h4 k
  have t4 := turn_tells v0 2 (by decide) h0 k
  have t5 := turn_tells v0 13 (by decide) h0 k
  have t6 := turn_tells v0 22 (by decide) h0 k
  rw [if_pos (by omega), if_pos (by omega), if_pos (by omega), if_pos (by omega), t1, t2, t3, t4, t5, t6]
  simp only [Option.bind_some]
  rw [if_pos (by omega), if_pos (by omega), if_pos (by omega), if_pos (by omega), if_pos (by omega), if_pos (by omega), if_pos (by omega), if_pos (by omega)]
  generalize Go.bits .xor .u32 (Go.bits .xor .u32 (rotr v4 6) (rotr v4 11)) (rotr v4 25) = x1
  generalize Go.bits .xor .u32 (Go.bits .xor .u32 (rotr v0 2) (rotr v0 13)) (rotr v0 22) = x2
  generalize Go.bits .xor .u32 (Go.bits .and .u32 v4 v5) (Go.bits .and .u32 ((4294967295 - v4) % 4294967296) v6) = x3
  generalize Go.bits .xor .u32 (Go.bits .xor .u32 (Go.bits .and .u32 v0 v1) (Go.bits .and .u32 v0 v2)) (Go.bits .and .u32 v1 v2) = x4
  have e1 : ((((((v7 + x1) % 4294967296 + x3) % 4294967296 + c) % 4294967296 + mi) % 4294967296 + (x2 + x4) % 4294967296) % 4294967296) = (v7 + x1 + x3 + c + mi + (x2 + x4)) % 4294967296 := by omega
  have e2 : ((v3 + ((((v7 + x1) % 4294967296 + x3) % 4294967296 + c) % 4294967296 + mi) % 4294967296) % 4294967296) = (v3 + (v7 + x1 + x3 + c + mi)) % 4294967296 := by omega
  rw [e1, e2]
attribute [local irreducible] vstep consts
theorem come_loop (s m : List Int) (hm : m.length = 64) (hs : s.length = 8) (hw : ∀ j, W32 (s.getD j 0)) : ∀ d i k, i + d = 64 → padlockref01_Come.l0 (k + 33 + d + 1) s consts m (vloop m s i) i = some (adds s (vloop m s 64) 8)
  | 0, i, k, hi => by
    have : i = 64 := by omega
    subst this
    have ho := come_out s (vloop m s 64) hs (vloop_length m s hs 64) 8 0 (k + 24) rfl
    rw [show k + 24 + 8 + 1 = k + 33 from by omega] at ho
    rw [← ho]
    generalize hK : k + 33 + 0 = K
    simp only [padlockref01_Come.l0]
    subst hK
    rw [if_neg (by omega)]
    rfl
  | d + 1, i, k, hi => by
    have ih := come_loop s m hm hs hw d (i + 1) k (by omega)
    rw [← ih]
    have h := come_step s m (vloop m s i) i (k + (d + 1)) (by omega) hm (vloop_length m s hs i) (vloop_w m s hw i)
    rw [show k + (d + 1) + 33 + 1 = k + 33 + (d + 1) + 1 from by omega, show k + (d + 1) + 33 = k + 33 + d + 1 from by omega] at h
    exact h
theorem come_tells (s l : List Int) (hs : s.length = 8) (hw : ∀ j, W32 (s.getD j 0)) (hl : l.length = 64) (hb : Bytes l) (k : Nat) :
    padlockref01_Come.f (k + 418) s l consts = some (comeF s l) := by
  have h := come_loop s (msg l 64) (msg_length l 64) hs hw 64 0 (k + 320) rfl
  rw [show k + 320 + 33 + 64 + 1 = k + 418 from by omega] at h
  unfold padlockref01_Come.f
  rw [words_tells l hl hb k]
  simp only [Option.bind_some]
  rw [if_pos (by simp; omega)]
  exact h
end Go.Proofs.Ytoiiacbbfhlocaa.HSa
end
end
section
set_option linter.unusedVariables false
set_option linter.unusedSimpArgs false
namespace Go.Proofs.Ytoiiacbbfhlocaa.HSa
open Go.RowKit Go.Proofs.YtoiiacbbfhlocaaW.PrintWords Go.Proofs.YtoiiacbbfhlocaaW.PrintLast Go.Proofs.YtoiiacbbfhlocaaW.PrintMore Go.Proofs.Ytoiiacbbfhlocaa.Kit Go.Proofs.Ytoiiacbbfhlocaa.Sa
def bytes4 (x : Int) : List Int := [IntKind.u8.wrap (IntKind.u32.wrap (x.tdiv 16777216)), IntKind.u8.wrap (IntKind.u32.wrap (x.tdiv 65536)), IntKind.u8.wrap (IntKind.u32.wrap (x.tdiv 256)), IntKind.u8.wrap x]
def outR (st : List Int) (n : Nat) : List Int := (List.range n).flatMap fun i => bytes4 (st.getD i 0)
theorem outR_length (st : List Int) : ∀ n, (outR st n).length = 4 * n
  | 0 => rfl
  | n + 1 => by
    have := outR_length st n
    unfold outR at this ⊢
    rw [List.range_succ, List.flatMap_append, List.length_append, this]
    simp [bytes4]; omega
theorem outR_succ (st : List Int) (n : Nat) : outR st (n + 1) = outR st n ++ bytes4 (st.getD n 0) := by
  unfold outR
  rw [List.range_succ, List.flatMap_append]
  simp
structure Steps32 (k : Nat) (all s0 cs : List Int) (st : Nat → List Int) : Prop where
  zero : st 0 = s0
  step : ∀ j, 64 * j < all.length → padlockref01_Come.f k (st j) ((all.drop (64 * j)).take 64) cs = some (st (j + 1))
  len : ∀ j, (st j).length = 8
  mul : all.length % 64 = 0
  small : all.length ≤ 1000000
def OutB (w : World) (r : List Int) (e : Ending) (w' : World) : Prop :=
  ∃ v0_ : Value, e = .returned (v0_) ∧ Kd.R (Kd.int .u8) 5 w' w.heap.size (fun _ => True) v0_ r ∧ Below w.heap.size w w'
attribute [local irreducible] outR
set_option maxHeartbeats 2000000 in
set_option maxRecDepth 100000 in
theorem summed_any (k : Nat) (A0 : Option Addr) (c0 : Nat) (l0 : List Int) (A1 : Option Addr) (c1 : Nat) (s0 : List Int) (A2 : Option Addr) (c2 : Nat) (cs all : List Int) (st : Nat → List Int) (w : World)
    (hr0 : Kd.C (Kd.int .u8) w A0 l0.length l0) (hc0 : l0.length ≤ c0) (hr1 : Kd.C (Kd.int .u32) w A1 s0.length s0) (hc1 : s0.length ≤ c1) (hr2 : Kd.C (Kd.int .u32) w A2 cs.length cs) (hc2 : cs.length ≤ c2)
    (hF : padlockref01_Filled.f k l0 = some all) (hS : Steps32 k all s0 cs st) :
    Calls Try.prog 111 #[.slice A0 l0.length c0, .slice A1 s0.length c1, .slice A2 cs.length c2] w (OutB w (outR (st (all.length / 64)) 8)) := by
  have HR2 := Lib.hid hr2
  have HR1 := Lib.hid hr1
  have HF := Lib.hid (padlockref01_Filled.calls k A0 c0 l0 all w hr0 hc0 hF)
  clear hr0 hr1 hr2 hF
  have HS := Lib.hid hS
  have hs8 : s0.length = 8 := by rw [← hS.zero]; exact hS.len 0
  clear hS
  have HS8 := Lib.hid hs8
  have hc18 : 8 ≤ c1 := by omega
  rw [hs8]
  clear hs8
  go_enter Try.func111, Try.ntmps111
  go_wp2_with fail
  refine HF.out.mono ?_
  rintro e w1 ⟨v1, rfl, hO, hB⟩
  obtain ⟨A, c, rfl, hcl, _⟩ := Kd.R_reads hO
  have HO := Lib.hid hO
  have HB := Lib.hid hB
  have hw1 : w.heap.size ≤ w1.heap.size := hB.size
  clear hO hB
  obtain ⟨n, hn⟩ : ∃ n, n = all.length := ⟨_, rfl⟩
  have hsm : n ≤ 1000000 := by have := HS.out.small; omega
  have hmul : n % 64 = 0 := by have := HS.out.mul; omega
  have HN := Lib.hid hn
  rw [← hn] at hcl HO ⊢
  clear hn
  have HI : Hid (Kd.C (Kd.int .u32) w1 A1 8 (st 0)) := Lib.hid (by rw [HS.out.zero]; have := Kd.C_below HR1.out HB.out; rw [HS8.out] at this; exact this)
  go_wp2
  go_loopw [7, 9] (fun v i wr => ∃ (j a : Nat) (A' : Option Addr) (c' : Nat), v = .slice A' 8 c' ∧ i = .int .i64 a ∧ a = 64 * j ∧ a ≤ n ∧ 8 ≤ c' ∧ Hid (Kd.C (Kd.int .u32) wr A' 8 (st j)) ∧ Hid (Below w1.heap.size w1 wr)) (fun _ i _ => n - (intOf i).toNat)
  case atStart => exact ⟨0, 0, A1, c1, rfl, rfl, by omega, by omega, hc18, HI, Lib.hid (Below.refl _ _)⟩
  case round =>
    clear HI
    obtain ⟨j, a, A', c', rfl, rfl, ha, han, hc', hC, hBr⟩ := hrel
    have HA := Lib.hid ha
    have ha64 : a % 64 = 0 := by omega
    clear ha
    by_cases hlt : a < n
    · have hle : a + 64 ≤ n := by omega
      obtain ⟨i0, hi, hz0, hz1, hz2⟩ := info_parts info5
      obtain ⟨A'', hsl, hrd, hcp⟩ := print_mid_int (P := Try.prog) (k := .u8) 29 5 Try.underlying29 hi hz1 A c all (a : Int) ((a : Int) + 64) (by omega) (by omega) (by have := HN.out; omega) (by have := HN.out; omega)
      have hbl : (all.take ((a : Int) + 64).toNat).drop (a : Int).toNat = (all.drop (64 * j)).take 64 := by
        rw [HA.out, show (((64 * j : Nat) : Int) + 64).toNat = 64 * j + 64 from by omega, show ((64 * j : Nat) : Int).toNat = 64 * j from by omega, List.drop_take]
        congr 1
        omega
      have hbl64 : ((all.drop (64 * j)).take 64).length = 64 := by simp; have := HN.out; have := HA.out; omega
      rw [hbl, hbl64] at hsl
      rw [hbl] at hrd hcp
      rw [← HN.out] at hsl
      have HBR := Lib.hid (Kd.C_of_reads (enc := Value.int .u8) (d := (0 : Int)) (h1 := fun _ => rfl) (hrd wr (Kd.reads_of_C (enc := Value.int .u8) (d := (0 : Int)) (h1 := fun _ => rfl) (Kd.R_reads' (Kd.R_below (by have := HO.out; rw [HN.out] at this; exact this) hBr.out)).2.2)))
      have HCP := Lib.hid hcp
      have H64 := Lib.hid hbl64
      have HST := Lib.hid (HS.out.step j (by have := HN.out; have := HA.out; omega))
      have HC := Lib.hid (padlockref01_Come.calls k A' c' (st j) A'' (c - (a : Int).toNat) ((all.drop (64 * j)).take 64) A2 c2 cs (st (j + 1)) wr (by rw [HS.out.len j]; exact hC.out) (by rw [HS.out.len j]; exact hc') HBR.out HCP.out (Kd.C_below HR2.out (below_next HB.out hBr.out)) hc2 HST.out)
      rw [HS.out.len j, H64.out] at HC
      clear hrd hcp hbl hbl64
      rw [Int.toNat_natCast] at HC
      go_wp2_with fail
      refine HC.out.mono ?_
      rintro e w2 ⟨v2, rfl, hO2, hB2⟩
      obtain ⟨A2', c2', rfl, hcl2, hrd2⟩ := Kd.R_reads hO2
      rw [HS.out.len (j + 1)] at hrd2 hcl2 ⊢
      have HRD2 := Lib.hid hrd2
      have HBB := Lib.hid (below_next hBr.out hB2)
      clear hO2 hB2 hrd2 hsl
      go_wp2
      go_roundw
      case rel => exact ⟨j + 1, a + 64, A2', c2', rfl, by go_num, by have := HA.out; omega, by omega, hcl2, HRD2, HBB⟩
      case measure => simp [intOf]; omega
    · have haN : a = n := by omega
      have HJ : Hid (j = all.length / 64) := Lib.hid (by have := HA.out; have := HN.out; omega)
      subst haN
      obtain ⟨wa, hwa⟩ : ∃ wa : World, wa = wr := ⟨_, rfl⟩
      subst hwa
      obtain ⟨s, hs⟩ : ∃ s, s = st j := ⟨_, rfl⟩
      rw [← hs] at hC
      have HSJ := Lib.hid hs
      clear hs
      obtain ⟨b, off, rfl, hcell⟩ := C_cells hC.out (by omega)
      have hblt : b < wa.heap.size := World.block_lt_of_cell? wa _ (hcell 0 (by omega))
      have HCE := Lib.hid hcell
      clear hcell
      have H0 : Hid (Kd.R (Kd.int .u8) 5 wa wa.heap.size (fun _ => True) (.slice none 0 0) (outR s 0)) := Lib.hid (by unfold outR; exact Kd.R_nil _ _ _ _ _)
      go_wp2
      go_loopw [10, 11] (fun v i wr => ∃ q : Nat, i = .int .i64 q ∧ q ≤ 8 ∧ Hid (Kd.R (Kd.int .u8) 5 wr wa.heap.size (fun _ => True) v (outR s q)) ∧ Hid (Below wa.heap.size wa wr)) (fun _ i _ => 8 - (intOf i).toNat)
      case atStart => exact ⟨0, rfl, by omega, H0, Lib.hid (Below.refl _ _)⟩
      case round =>
        clear H0
        rename_i v10 _
        obtain ⟨q, rfl, hq, hO3, hB3⟩ := hrel
        by_cases hq8 : q < 8
        · have hcq : wr.cell? ⟨b, off + q, none⟩ = some (.int .u32 (s.getD q 0)) := (hB3.out.cell (p := ⟨b, off + q, none⟩) hblt).trans (HCE.out q hq8)
          have hblt2 : b < wr.heap.size := World.block_lt_of_cell? wr _ hcq
          go_wp2_with fail
          go_region_held3 (fun w' => w'.cell? ⟨b, off + q, none⟩ = some (.int .u32 (s.getD q 0)))
            (first | go_keep | assumption | exact hc4)
            ((go_loud (refine Kd.R_append_rows_step (Kd.int .u8) (w0 := wa) wa.heap.size (by rfl) (.tmp 33) (.tmp 57) 29 5 (.int .u8 0) 1 (by rfl) Try.underlying29 info5 rfl (by decide) (by omega) u10 (outR s q) (bytes4 (s.getD q 0)) _ 4 4 (fun _ => True) (fun _ => False) (by rfl) (by rfl) (by exact Kd.R_drew (Kd.R_alloc hO3.out _)) (by exact Kd.C_drew (lit_reads .u8 (bytes4 (s.getD q 0)) rfl rfl (by simp [bytes4]) wr _)) (fun _ _ h => h) (fun _ h => h.elim) (fun _ _ => trivial) (by exact below_drew (below_alloc hB3.out _)) (by have := hB3.out.size; simp; omega) (by rw [outR_length]; omega) ?_; intro v4 w4 ho4 hb4 hg4 hat4; have hc4 : w4.cell? ⟨b, off + q, none⟩ = some (.int .u32 (s.getD q 0)) := (hb4.cell (p := ⟨b, off + q, none⟩) hblt).trans (HCE.out q hq8); have HO4 := Lib.hid ho4; have HB4 := Lib.hid hb4; clear ho4 hb4 hat4)))
          have HO5 := HO4.out
          rw [← outR_succ] at HO5
          have HO6 := Lib.hid HO5
          clear HO5
          go_wp2
          go_roundw
          case rel => exact ⟨q + 1, by go_num, by omega, HO6, HB4⟩
          case measure => simp [intOf]; omega
        · have hq8' : q = 8 := by omega
          subst hq8'
          go_wp2
          go_ret
          refine ⟨_, rfl, ?_, ?_⟩
          · rw [← HJ.out, ← HSJ.out]
            exact Kd.R_lower (by simpa using hO3.out) (by have := hBr.out.size; omega)
          · have h1 := below_next HB.out hBr.out
            exact below_next h1 hB3.out
end Go.Proofs.Ytoiiacbbfhlocaa.HSa
end
section
set_option linter.unusedVariables false
set_option linter.unusedSimpArgs false
namespace Go.Proofs.Ytoiiacbbfhlocaa.HSa
open Go.RowKit Go.Proofs.YtoiiacbbfhlocaaW.PrintWords Go.Proofs.Ytoiiacbbfhlocaa.Kit Go.Proofs.Ytoiiacbbfhlocaa.Sa
def zerosN (n : Nat) : Nat := (119 - n % 64) % 64
def endF (n : Nat) : List Int := (List.range 8).map (lenB n)
def allF (l : List Int) : List Int := l ++ [128] ++ List.replicate (zerosN l.length) 0 ++ endF l.length
theorem endF_length (n : Nat) : (endF n).length = 8 := rfl
theorem allF_length (l : List Int) : (allF l).length = l.length + 1 + zerosN l.length + 8 := by simp [allF, endF_length]; omega
theorem allF_mul (l : List Int) : (allF l).length % 64 = 0 := by rw [allF_length, zerosN]; omega
theorem fill_byte (x3 : List Int) (N : Int) (x5 : List Int) (j k : Nat) (hj : j < 8) (hN : 0 ≤ N ∧ N < 1000000000) (h5 : x5.length ≤ 8) :
    padlockref01_Filled.l1 (k + 1) x3 N x5 j = padlockref01_Filled.l1 k x3 (N / 256) (N % 256 :: x5) ((j + 1 : Nat) : Int) := by
  simp only [padlockref01_Filled.l1]
  rw [if_pos (by omega)]
  simp only [Option.bind_some]
  rw [if_pos (by simp; omega), Int.tmod_eq_emod_of_nonneg hN.1, Int.tdiv_eq_ediv_of_nonneg hN.1, show wrap64 ((j : Int) + 1) = ((j + 1 : Nat) : Int) from by unfold wrap64; omega, show N % 256 % 256 = N % 256 from by omega, show IntKind.u64.wrap (N / 256) = N / 256 from by rw [IntKind.wrap_u64]; omega]
  rfl
theorem fill_end (x3 : List Int) (n k : Nat) (hn : n ≤ 1000000) (h3 : x3.length ≤ 2000000) : padlockref01_Filled.l1 (k + 9) x3 ((n * 8 : Nat) : Int) [] 0 = some (x3 ++ endF n) := by
  obtain ⟨N, hN⟩ : ∃ N : Int, N = ((n * 8 : Nat) : Int) := ⟨_, rfl⟩
  have h0 : 0 ≤ N ∧ N < 1000000000 := by omega
  rw [← hN]
  refine (fill_byte x3 N [] 0 (k + 8) (by decide) h0 (by decide)).trans ?_
  have h1 : 0 ≤ N / 256 ∧ N / 256 < 1000000000 := by omega
  refine (fill_byte x3 _ _ 1 (k + 7) (by decide) h1 (by simp)).trans ?_
  generalize e1 : N / 256 = N1 at *
  have h2 : 0 ≤ N1 / 256 ∧ N1 / 256 < 1000000000 := by omega
  refine (fill_byte x3 _ _ 2 (k + 6) (by decide) h2 (by simp)).trans ?_
  generalize e2 : N1 / 256 = N2 at *
  have h3' : 0 ≤ N2 / 256 ∧ N2 / 256 < 1000000000 := by omega
  refine (fill_byte x3 _ _ 3 (k + 5) (by decide) h3' (by simp)).trans ?_
  generalize e3 : N2 / 256 = N3 at *
  have h4 : 0 ≤ N3 / 256 ∧ N3 / 256 < 1000000000 := by omega
  refine (fill_byte x3 _ _ 4 (k + 4) (by decide) h4 (by simp)).trans ?_
  generalize e4 : N3 / 256 = N4 at *
  have h5 : 0 ≤ N4 / 256 ∧ N4 / 256 < 1000000000 := by omega
  refine (fill_byte x3 _ _ 5 (k + 3) (by decide) h5 (by simp)).trans ?_
  generalize e5 : N4 / 256 = N5 at *
  have h6 : 0 ≤ N5 / 256 ∧ N5 / 256 < 1000000000 := by omega
  refine (fill_byte x3 _ _ 6 (k + 2) (by decide) h6 (by simp)).trans ?_
  generalize e6 : N5 / 256 = N6 at *
  have h7 : 0 ≤ N6 / 256 ∧ N6 / 256 < 1000000000 := by omega
  refine (fill_byte x3 _ _ 7 (k + 1) (by decide) h7 (by simp)).trans ?_
  generalize e7 : N6 / 256 = N7 at *
  simp only [padlockref01_Filled.l1]
  rw [if_neg (by omega), if_pos (by simp; omega)]
  have q : endF n = [N7 % 256, N6 % 256, N5 % 256, N4 % 256, N3 % 256, N2 % 256, N1 % 256, N % 256] := by
    have hN' : (n : Int) * 8 = N := by omega
    unfold endF
    rw [show List.range 8 = [0, 1, 2, 3, 4, 5, 6, 7] from rfl]
    simp only [List.map_cons, List.map_nil, lenB, hN']
    rw [show (2 : Int) ^ (56 - 8 * 0) = 72057594037927936 from by decide, show (2 : Int) ^ (56 - 8 * 1) = 281474976710656 from by decide, show (2 : Int) ^ (56 - 8 * 2) = 1099511627776 from by decide, show (2 : Int) ^ (56 - 8 * 3) = 4294967296 from by decide, show (2 : Int) ^ (56 - 8 * 4) = 16777216 from by decide, show (2 : Int) ^ (56 - 8 * 5) = 65536 from by decide, show (2 : Int) ^ (56 - 8 * 6) = 256 from by decide, show (2 : Int) ^ (56 - 8 * 7) = 1 from by decide]
    rw [show N / 72057594037927936 = N7 from by omega, show N / 281474976710656 = N6 from by omega, show N / 1099511627776 = N5 from by omega, show N / 4294967296 = N4 from by omega, show N / 16777216 = N3 from by omega, show N / 65536 = N2 from by omega, e1, show N / 1 = N from by omega]
  rw [q]
theorem fill_zeros (l : List Int) (hl : l.length ≤ 1000000) : ∀ d j k, j + d = zerosN l.length → padlockref01_Filled.l0 (k + 10 + d) l (l ++ [128] ++ List.replicate j 0) = some (allF l)
  | 0, j, k, hj => by
    have e := fill_end (l ++ [128] ++ List.replicate j 0) l.length k hl (by simp; unfold zerosN at hj; omega)
    have hz : zerosN l.length = j := by omega
    unfold allF
    rw [hz, ← e]
    generalize hK : k + 9 = K
    rw [show k + 10 + 0 = K + 1 from by omega]
    simp only [padlockref01_Filled.l0]
    rw [if_pos (by simp; unfold zerosN at hz; omega), show IntKind.u64.wrap (IntKind.u64.wrap (l.length : Int) * 8) = ((l.length * 8 : Nat) : Int) from by rw [IntKind.wrap_u64, IntKind.wrap_u64]; omega]
  | d + 1, j, k, hj => by
    have ih := fill_zeros l hl d (j + 1) k (by omega)
    rw [← ih]
    generalize hK : k + 10 + d = K
    rw [show k + 10 + (d + 1) = K + 1 from by omega]
    simp only [padlockref01_Filled.l0]
    rw [if_neg (by simp; unfold zerosN at hj; omega), if_pos (by simp; unfold zerosN at hj; omega), List.append_assoc _ _ [0], List.append_assoc _ _ [0] |>.symm]
    rw [List.append_assoc, ← List.replicate_succ']
theorem filled_tells (l : List Int) (hl : l.length ≤ 1000000) (k : Nat) : padlockref01_Filled.f (k + 418) l = some (allF l) := by
  have h := fill_zeros l hl (zerosN l.length) 0 (k + 408 - zerosN l.length) (by omega)
  have hz : zerosN l.length < 64 := by unfold zerosN; omega
  rw [show k + 408 - zerosN l.length + 10 + zerosN l.length = k + 418 from by omega] at h
  unfold padlockref01_Filled.f
  simp only [Option.bind_some]
  rw [if_pos (by simp; omega), if_pos (by simp; omega)]
  simpa using h
theorem allF_split (l : List Int) : allF l = l.take (64 * (l.length / 64)) ++ tailF l := by
  unfold allF tailF zerosN endF
  conv => lhs; rw [← List.take_append_drop (64 * (l.length / 64)) l]
  simp only [List.append_assoc, List.length_append, List.length_take, List.length_drop]
  rw [show min (64 * (l.length / 64)) l.length + (l.length - 64 * (l.length / 64)) = l.length from by omega]
theorem comeN_left (s a b : List Int) : ∀ n, 64 * n ≤ a.length → comeN s (a ++ b) n = comeN s a n
  | 0, _ => rfl
  | n + 1, h => by
    show comeF (comeN s (a ++ b) n) _ = comeF (comeN s a n) _
    rw [comeN_left s a b n (by omega), List.drop_append_of_le_length (by omega), List.take_append_of_le_length (by rw [List.length_drop]; omega)]
theorem comeN_append (s a b : List Int) (q : Nat) (ha : a.length = 64 * q) : ∀ n, comeN s (a ++ b) (q + n) = comeN (comeN s a q) b n
  | 0 => comeN_left s a b q (by omega)
  | n + 1 => by
    show comeF (comeN s (a ++ b) (q + n)) (((a ++ b).drop (64 * (q + n))).take 64) = comeF (comeN (comeN s a q) b n) _
    rw [comeN_append s a b q ha n, show 64 * (q + n) = a.length + 64 * n from by omega, List.drop_append]
    rw [List.drop_eq_nil_of_le (by omega), List.nil_append, show a.length + 64 * n - a.length = 64 * n from by omega]
theorem comeN_all (s l : List Int) : comeN s (allF l) ((allF l).length / 64) = comeN (comeN s l (l.length / 64)) (tailF l) ((tailF l).length / 64) := by
  have ht : (l.take (64 * (l.length / 64))).length = 64 * (l.length / 64) := by rw [List.length_take]; omega
  have hlen : (allF l).length / 64 = l.length / 64 + (tailF l).length / 64 := by
    have := allF_split l
    have h2 := congrArg List.length this
    rw [List.length_append, ht] at h2
    omega
  rw [hlen]
  conv => lhs; rw [allF_split l]
  rw [comeN_append s _ (tailF l) (l.length / 64) ht]
  congr 1
  have h := comeN_left s (l.take (64 * (l.length / 64))) (l.drop (64 * (l.length / 64))) (l.length / 64) (by omega)
  rw [List.take_append_drop] at h
  exact h.symm
theorem comeN_w (s l : List Int) (hs : ∀ j, W32 (s.getD j 0)) : ∀ n j, W32 ((comeN s l n).getD j 0)
  | 0, j => hs j
  | n + 1, j => comeF_w _ _ (comeN_w s l hs n) j
theorem iv_w : ∀ j, W32 (iv.getD j 0)
  | 0 => ⟨by decide, by decide⟩
  | 1 => ⟨by decide, by decide⟩
  | 2 => ⟨by decide, by decide⟩
  | 3 => ⟨by decide, by decide⟩
  | 4 => ⟨by decide, by decide⟩
  | 5 => ⟨by decide, by decide⟩
  | 6 => ⟨by decide, by decide⟩
  | 7 => ⟨by decide, by decide⟩
  | n + 8 => ⟨by simp [iv], by simp [iv]⟩
theorem out_bytes (x : Int) (hx : W32 x) : bytes4 x = [x / 16777216 % 256, x / 65536 % 256, x / 256 % 256, x % 256] := by
  unfold bytes4
  simp only [IntKind.wrap_u8, IntKind.wrap_u32]
  rw [Int.tdiv_eq_ediv_of_nonneg hx.1, Int.tdiv_eq_ediv_of_nonneg hx.1, Int.tdiv_eq_ediv_of_nonneg hx.1]
  have h0 := hx.1
  have h1 := hx.2
  rw [show x / 16777216 % 4294967296 % 256 = x / 16777216 % 256 from by omega, show x / 65536 % 4294967296 % 256 = x / 65536 % 256 from by omega, show x / 256 % 4294967296 % 256 = x / 256 % 256 from by omega]
theorem outR_map (st : List Int) (hw : ∀ j, W32 (st.getD j 0)) : ∀ n, outR st n = (List.range (4 * n)).map (outB st)
  | 0 => rfl
  | n + 1 => by
    rw [outR_succ, outR_map st hw n, out_bytes _ (hw n)]
    rw [show 4 * (n + 1) = 4 * n + 1 + 1 + 1 + 1 from by omega]
    simp only [List.range_succ, List.map_append, List.map_cons, List.map_nil, List.append_assoc]
    congr 1
    unfold outB
    rw [show 4 * n / 4 = n from by omega, show (4 * n + 1) / 4 = n from by omega, show (4 * n + 1 + 1) / 4 = n from by omega, show (4 * n + 1 + 1 + 1) / 4 = n from by omega]
    rw [show 4 * n % 4 = 0 from by omega, show (4 * n + 1) % 4 = 1 from by omega, show (4 * n + 1 + 1) % 4 = 2 from by omega, show (4 * n + 1 + 1 + 1) % 4 = 3 from by omega]
    simp
theorem outR_out (st : List Int) (hw : ∀ j, W32 (st.getD j 0)) : outR st 8 = outN st 32 := by
  rw [outR_map st hw]
  simp [outN]
theorem bytes_all (l : List Int) (hb : Bytes l) : Bytes (allF l) := by
  intro x hx
  unfold allF at hx
  simp only [List.mem_append, List.mem_singleton, List.mem_replicate] at hx
  rcases hx with ((h | h) | h) | h
  · exact hb x h
  · subst h; decide
  · rw [h.2]; decide
  · unfold endF at h
    obtain ⟨j, _, rfl⟩ := List.mem_map.mp h
    unfold lenB
    exact ⟨by omega, by omega⟩
theorem bytes_part (l : List Int) (hb : Bytes l) (a n : Nat) : Bytes ((l.drop a).take n) := fun x hx => hb x (List.mem_of_mem_drop (List.mem_of_mem_take hx))
theorem steps_tell (l : List Int) (hb : Bytes l) (hl : l.length ≤ 100000) (k : Nat) : Steps32 (k + 418) (allF l) iv consts (fun j => comeN iv (allF l) j) where
  zero := rfl
  step := fun j hj => by
    have hm := allF_mul l
    exact come_tells _ _ (by rw [comeN_length]; rfl) (comeN_w iv _ iv_w j) (by rw [List.length_take, List.length_drop]; omega) (bytes_part _ (bytes_all l hb) _ _) k
  len := fun j => by rw [comeN_length]; rfl
  mul := allF_mul l
  small := by rw [allF_length]; unfold zerosN; omega
theorem sumF_eq (l : List Int) : outR (comeN iv (allF l) ((allF l).length / 64)) 8 = sumF l := by
  rw [outR_out _ (comeN_w iv _ iv_w _), comeN_all]
  rfl
end Go.Proofs.Ytoiiacbbfhlocaa.HSa
end
section
set_option linter.unusedVariables false
set_option linter.unusedSimpArgs false
namespace Go.Proofs.Ytoiiacbbfhlocaa.HSa
open Go.RowKit Go.Proofs.YtoiiacbbfhlocaaW.PrintWords Go.Proofs.Ytoiiacbbfhlocaa.Kit Go.Proofs.Ytoiiacbbfhlocaa.Sa
theorem sumF_len (l : List Int) : (sumF l).length = 32 := outN_length _ 32 (by decide)
theorem sumF_bytes (l : List Int) : Bytes (sumF l) := by
  rw [← sumF_eq, outR_out _ (comeN_w iv _ iv_w _)]
  intro x hx
  obtain ⟨j, hj, rfl⟩ : ∃ j, j < 32 ∧ x = outB (comeN iv (allF l) ((allF l).length / 64)) j := by
    unfold outN at hx
    simp only [List.mem_append, List.mem_map, List.mem_range, List.mem_replicate] at hx
    rcases hx with ⟨j, hj, rfl⟩ | h
    · exact ⟨j, hj, rfl⟩
    · exact absurd h.1 (by decide)
  unfold outB
  exact ⟨by omega, by omega⟩
end Go.Proofs.Ytoiiacbbfhlocaa.HSa
end
section
set_option linter.unusedVariables false
set_option linter.unusedSimpArgs false
namespace Go.Proofs.Ytoiiacbbfhlocaa.Kit
open Go.RowKit Go.Proofs.YtoiiacbbfhlocaaW.PrintWords Go.Proofs.YtoiiacbbfhlocaaW.PrintLast Go.Proofs.YtoiiacbbfhlocaaW.PrintMore
theorem rows_at {e : Nat} {k : IntKind} {w : World} {A : Option Addr} {n : Nat} {ps : List (List Int)} (h : Kd.C (Kd.slice e (Kd.int k)) w A n ps) (hn : 0 < n) :
    ∃ b off, A = some ⟨b, off, none⟩ ∧ ∀ j, j < n → ∃ A' c', w.cell? ⟨b, off + j, none⟩ = some (.slice A' (ps.getD j []).length c') ∧ (ps.getD j []).length ≤ c' ∧ Kd.C (Kd.int k) w A' (ps.getD j []).length (ps.getD j []) := by
  obtain ⟨hl, _, hc⟩ := h
  obtain ⟨⟨b, off, s⟩, e1, hcell⟩ := hc hn
  have key : ∀ j, j < n → ∃ A' c', w.cell? ((⟨b, off, s⟩ : Addr).add j) = some (.slice A' (ps.getD j []).length c') ∧ (ps.getD j []).length ≤ c' ∧ Kd.C (Kd.int k) w A' (ps.getD j []).length (ps.getD j []) := fun j hj => by
    obtain ⟨cs, hl2, ⟨A', c', rfl, hle, hr⟩, hcc⟩ := hcell j (ps.getD j []) (by rw [List.getD_eq_getElem?_getD, List.getElem?_eq_getElem (by omega)]; rfl)
    refine ⟨A', c', ?_, hle, hr⟩
    have := hcc 0 _ rfl
    simpa [Kd.slice] using this
  cases s with
  | some s =>
    exfalso
    obtain ⟨A', c', h0, _⟩ := key 0 hn
    simp only [Addr.add] at h0
    unfold World.cell? at h0
    split at h0 <;> simp at h0
  | none =>
    refine ⟨b, off, e1, fun j hj => ?_⟩
    obtain ⟨A', c', h0, h1⟩ := key j hj
    refine ⟨A', c', ?_, h1⟩
    rw [← h0]
    congr 1
    unfold Addr.add
    split <;> simp_all
end Go.Proofs.Ytoiiacbbfhlocaa.Kit
end
