/- Machine-made by a program of this session (wip/tools/hprint.py, which drives the kit's printer). -/
import Derived.Test.YtljmjeaocojnmaaSa0
import Derived.Test.YtljmjeaocojnmaaSa2
namespace Go.Proofs.Ytljmjeaocojnmaa.Sa
open Go.RowKit Go.Proofs.YtljmjeaocojnmaaW.PrintWords Go.Proofs.YtljmjeaocojnmaaW.PrintLast Go.Proofs.YtljmjeaocojnmaaW.PrintMore
attribute [local go_sem] max2_int min2_int max_two min_two max_three min_three max_four min_four   -- for this text's walks alone
set_option linter.unusedVariables false
set_option linter.unusedSimpArgs false

/-! ### padlockref01_Words: function 100 -/
mutual
def padlockref01_Words.l0 : Nat → List Int → List Int → Int → Option (List Int)
  | 0, _, _, _ => none
  | k + 1, x0, x3, x4 => if x4 < 64 then (if x4 < 16 then (padlockref01_Words.l1 k x0 x3 x4 0 0) else (if 0 ≤ (wrap64 (x4 - 15)) then (if (wrap64 (x4 - 15)) < (x3.length : Int) then (if 0 ≤ (wrap64 (x4 - 2)) then (if (wrap64 (x4 - 2)) < (x3.length : Int) then (if 0 ≤ (wrap64 (x4 - 16)) then (if (wrap64 (x4 - 16)) < (x3.length : Int) then (if 0 ≤ (wrap64 (x4 - 7)) then (if (wrap64 (x4 - 7)) < (x3.length : Int) then ((padlockref01_Turn.f k (rd x3 (wrap64 (x4 - 15))) 7).bind fun t177 => ((padlockref01_Turn.f k (rd x3 (wrap64 (x4 - 15))) 18).bind fun t178 => ((padlockref01_Turn.f k (rd x3 (wrap64 (x4 - 2))) 17).bind fun t179 => ((padlockref01_Turn.f k (rd x3 (wrap64 (x4 - 2))) 19).bind fun t180 => (if x3.length < 35184372088832 then (padlockref01_Words.l0 k x0 (x3 ++ [((((((rd x3 (wrap64 (x4 - 16))) + (rd x3 (wrap64 (x4 - 7)))) % 4294967296) + (Go.bits .xor .u32 (Go.bits .xor .u32 t177 t178) ((Int.tdiv (rd x3 (wrap64 (x4 - 15))) 8) % 4294967296))) % 4294967296) + (Go.bits .xor .u32 (Go.bits .xor .u32 t179 t180) ((Int.tdiv (rd x3 (wrap64 (x4 - 2))) 1024) % 4294967296))) % 4294967296]) (wrap64 (x4 + 1))) else (none)))))) else (none)) else (none)) else (none)) else (none)) else (none)) else (none)) else (none)) else (none))) else (some x3)
def padlockref01_Words.l1 : Nat → List Int → List Int → Int → Int → Int → Option (List Int)
  | 0, _, _, _, _, _ => none
  | k + 1, x0, x3, x4, x5, x6 => if x6 < 4 then (if 0 ≤ (wrap64 ((wrap64 (4 * x4)) + x6)) then (if (wrap64 ((wrap64 (4 * x4)) + x6)) < (x0.length : Int) then (padlockref01_Words.l1 k x0 x3 x4 ((((x5 * 256) % 4294967296) + ((rd x0 (wrap64 ((wrap64 (4 * x4)) + x6))) % 4294967296)) % 4294967296) (wrap64 (x6 + 1))) else (none)) else (none)) else (if x3.length < 35184372088832 then (padlockref01_Words.l0 k x0 (x3 ++ [x5]) (wrap64 (x4 + 1))) else (none))
end
def padlockref01_Words.f (k : Nat) (l0 : List Int) : Option (List Int) := padlockref01_Words.l0 k l0 ([] : List Int) 0
theorem padlockref01_Words.mono_l : ∀ k, (∀ y0 y1 y2, LeO (padlockref01_Words.l0 k y0 y1 y2) (padlockref01_Words.l0 (k + 1) y0 y1 y2)) ∧ (∀ y0 y1 y2 y3 y4, LeO (padlockref01_Words.l1 k y0 y1 y2 y3 y4) (padlockref01_Words.l1 (k + 1) y0 y1 y2 y3 y4))
  | 0 => ⟨fun _ _ _ r h => by simp [padlockref01_Words.l0] at h, fun _ _ _ _ _ r h => by simp [padlockref01_Words.l1] at h⟩
  | k + 1 => by
    obtain ⟨ih0, ih1⟩ := padlockref01_Words.mono_l k
    refine ⟨?_, ?_⟩
    · intro y0 y1 y2
      unfold padlockref01_Words.l0
      repeat' first
      | (with_reducible exact ih0 _ _ _)
      | (with_reducible exact ih1 _ _ _ _ _)
      | (with_reducible exact padlockref01_Turn.mono _ _ _)
      | (with_reducible exact LeO.refl _)
      | (with_reducible exact LeO.none _)
      | (with_reducible refine LeO.ite ?_ ?_)
      | (with_reducible refine LeO.bind ?_ (fun _ => ?_))
      | exact ih0 _ _ _
      | exact ih1 _ _ _ _ _
      | exact padlockref01_Turn.mono _ _ _
      | exact LeO.none _
      | refine LeO.ite ?_ ?_
      | refine LeO.bind ?_ (fun _ => ?_)
    · intro y0 y1 y2 y3 y4
      unfold padlockref01_Words.l1
      repeat' first
      | (with_reducible exact ih0 _ _ _)
      | (with_reducible exact ih1 _ _ _ _ _)
      | (with_reducible exact padlockref01_Turn.mono _ _ _)
      | (with_reducible exact LeO.refl _)
      | (with_reducible exact LeO.none _)
      | (with_reducible refine LeO.ite ?_ ?_)
      | (with_reducible refine LeO.bind ?_ (fun _ => ?_))
      | exact ih0 _ _ _
      | exact ih1 _ _ _ _ _
      | exact padlockref01_Turn.mono _ _ _
      | exact LeO.none _
      | refine LeO.ite ?_ ?_
      | refine LeO.bind ?_ (fun _ => ?_)
theorem padlockref01_Words.mono : ∀ a0 k, LeO (padlockref01_Words.f k a0) (padlockref01_Words.f (k + 1) a0) := by
  intro a0 k
  obtain ⟨ih0, ih1⟩ := padlockref01_Words.mono_l k
  unfold padlockref01_Words.f
  repeat' first
      | (with_reducible exact ih0 _ _ _)
      | (with_reducible exact ih1 _ _ _ _ _)
      | (with_reducible exact padlockref01_Turn.mono _ _ _)
      | (with_reducible exact LeO.refl _)
      | (with_reducible exact LeO.none _)
      | (with_reducible refine LeO.ite ?_ ?_)
      | (with_reducible refine LeO.bind ?_ (fun _ => ?_))
      | exact ih0 _ _ _
      | exact ih1 _ _ _ _ _
      | exact padlockref01_Turn.mono _ _ _
      | exact LeO.none _
      | refine LeO.ite ?_ ?_
      | refine LeO.bind ?_ (fun _ => ?_)
def padlockref01_Words.T13 : Bool × List (List Nat × List Nat) := (true, [([], []), ([], []), ([1], [1]), ([0, 2], [0, 2]), ([3], [3]), ([], []), ([], []), ([6], [6]), ([5, 7], [5, 7]), ([8], [8]), ([4, 9], [4, 9]), ([], []), ([11], [11]), ([], []), ([13, 12], [13]), ([12, 14], [12, 14]), ([], []), ([16], [16]), ([15, 17], [15, 17]), ([10, 18], [10, 18]), ([], []), ([20, 14], [20]), ([], []), ([22, 21], [22]), ([21, 23], [21, 23]), ([], []), ([25], [25]), ([24, 26], [24, 26]), ([19, 27], [19, 27]), ([28, 23, 0, 1, 2, 3, 4, 5, 6, 7, 8, 9, 10, 11, 12, 13, 14, 15, 16, 17, 18, 19, 20, 21, 22, 23, 24, 25, 26, 27, 28], [28])])
def padlockref01_Words.B13 : List Nat := [0, 0, 2, 7, 15, 0, 0, 64, 224, 480, 1023, 0, 2048, 0, 14336, 30720, 0, 65536, 260096, 524287, 0, 1079296, 0, 7370752, 15759360, 0, 33554432, 133199872, 268435455, 536870911]
theorem padlockref01_Words.tab13 : rtab .any (opsOf Try.f100 13) = padlockref01_Words.T13 := by kernel_rfl
theorem padlockref01_Words.bits13 : waitsOk padlockref01_Words.T13.2 padlockref01_Words.B13 = true := by kernel_rfl
set_option maxHeartbeats 8000000 in
set_option maxRecDepth 100000 in
theorem padlockref01_Words.calls (k : Nat) (A0 : Option Addr) (c0 : Nat) (l0 : List Int) (r : List Int) (w : World) (hr0 : Kd.C (Kd.int .u8) w A0 l0.length l0) (hc0 : l0.length ≤ c0) (h : padlockref01_Words.f k l0 = some r) :
    Calls Try.prog 100 #[.slice A0 l0.length c0] w fun e w' => ∃ v0_ : Value, e = .returned (v0_) ∧ Kd.R (Kd.int .u32) 112 w' w.heap.size (fun _ => True) v0_ r ∧ Below w.heap.size w w' := by
  have HR0 := Aside0.mk hr0
  have HC0 := Aside0.mk hc0
  clear hr0 hc0
  have HB := Aside0.mk (Below.refl w.heap.size w)
  have H : (padlockref01_Words.l0 k l0 ([] : List Int) 0) = some r := h
  clear h
  have H' := Aside0.mk H
  clear H
  go_enter Try.func100, Try.ntmps100
  go_wp2
  go_loopg [3, 4] k (fun kq v3 v4 w' => ∃ (x3_1 : List Int) (x4_1 : Int), v4 = .int .i64 x4_1 ∧ Aside0 (padlockref01_Words.l0 kq l0 x3_1 x4_1 = some r) ∧ Aside0 (kq ≤ k) ∧ Aside0 (Kd.R (Kd.int .u32) 112 w' w.heap.size (fun _ => True) v3 x3_1) ∧ Aside0 (Below w.heap.size w w'))
  case atStart => exact ⟨(([] : List Int)), (0), (by first | rfl | (simp; done) | (simp [*]; done) | (simp; omega)), H', ⟨Nat.le_refl _⟩, ⟨by first | exact Kd.R_nil _ _ _ _ _ | exact Kd.N_nil _ _ _ _ _ | exact Kd.V_nil _ _ _ _ _ | exact Kd.Q_nil _ _ _ _ _ | exact Kd.S_nil _ _ _ _ _⟩, ⟨by repeat (first | (with_reducible first | exact HB.out | apply below_alloc | apply pw_below_drewN | apply below_drew1) | exact HB.out)⟩⟩
  case round =>
    clear H'
    try clear c1
    obtain ⟨x3_1, x4_1, rfl, HA, HK1, HO_3, HB⟩ := hrel
    cases gk with
    | zero => exact absurd HA.out (by simp [padlockref01_Words.l0])
    | succ k1 =>
      have H := HA.out
      clear HA
      simp only [padlockref01_Words.l0] at H
      by_cases c2 : x4_1 < 64
      · rw [if_pos c2] at H
        have c2b0 : decide (x4_1 < 64) = true := decide_eq_true c2
        clear c2
        by_cases c3 : x4_1 < 16
        · rw [if_pos c3] at H
          have c3b0 : decide (x4_1 < 16) = true := decide_eq_true c3
          clear c3
          have H' := Aside0.mk H
          clear H
          go_wp2
          go_loopg [5, 6] k1 (fun kq v5 v6 w' => ∃ (x5_2 : Int) (x6_2 : Int), v5 = .int .u32 x5_2 ∧ v6 = .int .i64 x6_2 ∧ Aside0 (padlockref01_Words.l1 kq l0 x3_1 x4_1 x5_2 x6_2 = some r) ∧ Aside0 (kq ≤ k1) ∧ Aside0 (Kd.R (Kd.int .u32) 112 w' w.heap.size (fun _ => True) u3 x3_1) ∧ Aside0 (Below w.heap.size w w'))
          case atStart => exact ⟨(0), (0), (by first | rfl | (simp; done) | (simp [*]; done) | (simp; omega)), (by first | rfl | (simp; done) | (simp [*]; done) | (simp; omega)), H', ⟨Nat.le_refl _⟩, ⟨by (with_reducible repeat (first | apply Kd.R_alloc | apply Kd.R_drewN | apply Kd.R_drew)); exact HO_3.out⟩, ⟨by repeat (first | (with_reducible first | exact HB.out | apply below_alloc | apply pw_below_drewN | apply below_drew1) | exact HB.out)⟩⟩
          case round =>
            clear H'
            try clear c1
            try clear c2
            try clear c2b0
            try clear p2
            try clear c3
            try clear c3b0
            obtain ⟨x5_2, x6_2, rfl, rfl, HA, HK2, HO_3, HB⟩ := hrel
            cases gk with
            | zero => exact absurd HA.out (by simp [padlockref01_Words.l1])
            | succ k2 =>
              have H := HA.out
              clear HA
              simp only [padlockref01_Words.l1] at H
              by_cases c4 : x6_2 < 4
              · rw [if_pos c4] at H
                have c4b0 : decide (x6_2 < 4) = true := decide_eq_true c4
                clear c4
                obtain ⟨ji5, hji5⟩ : ∃ j_ : Int, (wrap64 ((wrap64 (4 * x4_1)) + x6_2)) = j_ := ⟨_, rfl⟩
                replace H : (if 0 ≤ (ji5) then (if (ji5) < (l0.length : Int) then (padlockref01_Words.l1 k2 l0 x3_1 x4_1 ((((x5_2 * 256) % 4294967296) + ((rd l0 (ji5)) % 4294967296)) % 4294967296) (wrap64 (x6_2 + 1))) else (none)) else (none)) = some r := by first | (rw [hji5] at H; exact H) | (simp only [hji5] at H ⊢; exact H)
                have hji5w : (IntKind.i64.wrap ((wrap64 (4 * x4_1)) + x6_2)) = ji5 := (i64_w _).trans hji5
                by_cases c6 : 0 ≤ (ji5)
                · rw [if_pos c6] at H
                  have c6b0 : decide (0 ≤ (ji5)) = true := decide_eq_true c6
                  clear c6
                  by_cases c7 : (ji5) < (l0.length : Int)
                  · rw [if_pos c7] at H
                    have c7b0 : decide ((ji5) < (l0.length : Int)) = true := decide_eq_true c7
                    clear c7
                    have H' := Aside0.mk H
                    clear H
                    have p169 : 0 ≤ ((ji5) : Int) := of_decide_eq_true (by first | (with_reducible assumption) | assumption)
                    have q169 : (ji5) < (l0.length : Int) := of_decide_eq_true (by first | (with_reducible assumption) | assumption)
                    obtain ⟨ad169, e169, hx169_0⟩ := Kd.at_int HR0.out (ji5) p169 q169
                    cases e169
                    replace hx169_0 := (HB.out.cell (World.block_lt_of_cell? w _ hx169_0)).trans hx169_0
                    replace p169 := eq_true p169
                    replace q169 := eq_true q169
                    go_wp2
                    go_roundg k2
                    case measure => have := HK1.out; have := HK2.out; omega
                    case rel => exact ⟨((((x5_2 * 256) % 4294967296) + ((rd l0 (ji5)) % 4294967296)) % 4294967296), (wrap64 (x6_2 + 1)), (by first | rfl | (simp; done) | (simp only [← hji5] <;> (first | rfl | simp)) | (simp [*]; done)), (by first | rfl | (simp; done) | (simp [*]; done) | (simp; omega)), H', ⟨by have := HK1.out; have := HK2.out; omega⟩, ⟨by (with_reducible repeat (first | apply Kd.R_alloc | apply Kd.R_drewN | apply Kd.R_drew)); exact HO_3.out⟩, ⟨by repeat (first | (with_reducible first | exact HB.out | apply below_alloc | apply pw_below_drewN | apply below_drew1) | exact HB.out)⟩⟩
                  · rw [if_neg c7] at H
                    exact absurd H (by simp)
                · rw [if_neg c6] at H
                  exact absurd H (by simp)
              · rw [if_neg c4] at H
                have c4b0 : decide (x6_2 < 4) = false := decide_eq_false c4
                clear c4
                by_cases c8 : x3_1.length < 35184372088832
                · rw [if_pos c8] at H
                  have LMc8 := Aside0.mk c8
                  clear c8
                  obtain ⟨y170, hy170⟩ : ∃ y_ : List Int, y_ = (x3_1 ++ [x5_2]) := ⟨_, rfl⟩
                  replace H : (padlockref01_Words.l0 k2 l0 y170 (wrap64 (x4_1 + 1))) = some r := by first | (rw [hy170]; with_reducible exact H) | (have H2_ := (Option.bind_some _ _).symm.trans H; rw [hy170]; with_reducible exact H2_) | (have H2_ := (Option.bind_some _ _).symm.trans H; with_reducible exact H2_) | with_reducible exact H | (rw [hy170]; exact H) | exact H
                  have Ny170 := Aside0.mk hy170
                  clear hy170
                  have H' := Aside0.mk H
                  clear H
                  go_wp2_with (first | ((with_reducible refine gate_builtin (b := .append) (xs := #[.tmp 69, .tmp 71]) rfl ?_); at_builtin; refine Kd.R_append (Kd.int .u32) (w0 := w) w.heap.size rfl (.tmp 69) (.tmp 71) 29 112 (.int .u32 0) 4 rfl Try.underlying29 info112 rfl (by decide) (by omega) u3 x3_1 x5_2 [.int .u32 x5_2] (fun _ => True) (fun _ => False) rfl rfl ?aP (fun _ hk => hk.elim) ?aF ?aO ?aB ?aS ?aL ?_; (case aP => exact rfl); (case aB => exact (by repeat (first | (with_reducible first | exact HB.out | apply below_alloc | apply pw_below_drewN | apply below_drew1) | exact HB.out))); (case aF => exact (fun _ _ => trivial)); (case aO => exact (by (with_reducible repeat (first | apply Kd.R_alloc | apply Kd.R_drewN | apply Kd.R_drew)); exact HO_3.out)); (case aS => exact (below_size (by repeat (first | (with_reducible first | exact HB.out | apply below_alloc | apply pw_below_drewN | apply below_drew1) | exact HB.out)))); (case aL => have := LMc8.out; omega); intro v171 w9 ho hb hg hat; rw [← Ny170.out] at ho; have n0_ := Aside0.mk (hb); have n1_ := Aside0.mk (ho); clear HB; clear HO_3; have HB := n0_; have HO172 := n1_; clear n0_ n1_; clear ho hb hg hat))
                  go_roundg k2
                  case measure => have := HK1.out; have := HK2.out; omega
                  case rel => exact ⟨(y170), (wrap64 (x4_1 + 1)), (by first | rfl | (simp; done) | (simp [*]; done) | (simp; omega)), H', ⟨by have := HK1.out; have := HK2.out; omega⟩, ⟨by (with_reducible repeat (first | apply Kd.R_alloc | apply Kd.R_drewN | apply Kd.R_drew)); exact HO172.out⟩, ⟨by repeat (first | (with_reducible first | exact HB.out | apply below_alloc | apply pw_below_drewN | apply below_drew1) | exact HB.out)⟩⟩
                · rw [if_neg c8] at H
                  exact absurd H (by simp)
        · rw [if_neg c3] at H
          have c3b0 : decide (x4_1 < 16) = false := decide_eq_false c3
          clear c3
          obtain ⟨ji10, hji10⟩ : ∃ j_ : Int, (wrap64 (x4_1 - 15)) = j_ := ⟨_, rfl⟩
          replace H : (if 0 ≤ (ji10) then (if (ji10) < (x3_1.length : Int) then (if 0 ≤ (wrap64 (x4_1 - 2)) then (if (wrap64 (x4_1 - 2)) < (x3_1.length : Int) then (if 0 ≤ (wrap64 (x4_1 - 16)) then (if (wrap64 (x4_1 - 16)) < (x3_1.length : Int) then (if 0 ≤ (wrap64 (x4_1 - 7)) then (if (wrap64 (x4_1 - 7)) < (x3_1.length : Int) then ((padlockref01_Turn.f k1 (rd x3_1 (ji10)) 7).bind fun t177 => ((padlockref01_Turn.f k1 (rd x3_1 (ji10)) 18).bind fun t178 => ((padlockref01_Turn.f k1 (rd x3_1 (wrap64 (x4_1 - 2))) 17).bind fun t179 => ((padlockref01_Turn.f k1 (rd x3_1 (wrap64 (x4_1 - 2))) 19).bind fun t180 => (if x3_1.length < 35184372088832 then (padlockref01_Words.l0 k1 l0 (x3_1 ++ [((((((rd x3_1 (wrap64 (x4_1 - 16))) + (rd x3_1 (wrap64 (x4_1 - 7)))) % 4294967296) + (Go.bits .xor .u32 (Go.bits .xor .u32 t177 t178) ((Int.tdiv (rd x3_1 (ji10)) 8) % 4294967296))) % 4294967296) + (Go.bits .xor .u32 (Go.bits .xor .u32 t179 t180) ((Int.tdiv (rd x3_1 (wrap64 (x4_1 - 2))) 1024) % 4294967296))) % 4294967296]) (wrap64 (x4_1 + 1))) else (none)))))) else (none)) else (none)) else (none)) else (none)) else (none)) else (none)) else (none)) else (none)) = some r := by first | (rw [hji10] at H; exact H) | (simp only [hji10] at H ⊢; exact H)
          have hji10w : (IntKind.i64.wrap (x4_1 - 15)) = ji10 := (i64_w _).trans hji10
          by_cases c11 : 0 ≤ (ji10)
          · rw [if_pos c11] at H
            have c11b0 : decide (0 ≤ (ji10)) = true := decide_eq_true c11
            clear c11
            by_cases c12 : (ji10) < (x3_1.length : Int)
            · rw [if_pos c12] at H
              have c12b0 : decide ((ji10) < (x3_1.length : Int)) = true := decide_eq_true c12
              clear c12
              obtain ⟨ji13, hji13⟩ : ∃ j_ : Int, (wrap64 (x4_1 - 2)) = j_ := ⟨_, rfl⟩
              replace H : (if 0 ≤ (ji13) then (if (ji13) < (x3_1.length : Int) then (if 0 ≤ (wrap64 (x4_1 - 16)) then (if (wrap64 (x4_1 - 16)) < (x3_1.length : Int) then (if 0 ≤ (wrap64 (x4_1 - 7)) then (if (wrap64 (x4_1 - 7)) < (x3_1.length : Int) then ((padlockref01_Turn.f k1 (rd x3_1 (ji10)) 7).bind fun t177 => ((padlockref01_Turn.f k1 (rd x3_1 (ji10)) 18).bind fun t178 => ((padlockref01_Turn.f k1 (rd x3_1 (ji13)) 17).bind fun t179 => ((padlockref01_Turn.f k1 (rd x3_1 (ji13)) 19).bind fun t180 => (if x3_1.length < 35184372088832 then (padlockref01_Words.l0 k1 l0 (x3_1 ++ [((((((rd x3_1 (wrap64 (x4_1 - 16))) + (rd x3_1 (wrap64 (x4_1 - 7)))) % 4294967296) + (Go.bits .xor .u32 (Go.bits .xor .u32 t177 t178) ((Int.tdiv (rd x3_1 (ji10)) 8) % 4294967296))) % 4294967296) + (Go.bits .xor .u32 (Go.bits .xor .u32 t179 t180) ((Int.tdiv (rd x3_1 (ji13)) 1024) % 4294967296))) % 4294967296]) (wrap64 (x4_1 + 1))) else (none)))))) else (none)) else (none)) else (none)) else (none)) else (none)) else (none)) = some r := by first | (rw [hji13] at H; exact H) | (simp only [hji13] at H ⊢; exact H)
              have hji13w : (IntKind.i64.wrap (x4_1 - 2)) = ji13 := (i64_w _).trans hji13
              by_cases c14 : 0 ≤ (ji13)
              · rw [if_pos c14] at H
                have c14b0 : decide (0 ≤ (ji13)) = true := decide_eq_true c14
                clear c14
                by_cases c15 : (ji13) < (x3_1.length : Int)
                · rw [if_pos c15] at H
                  have c15b0 : decide ((ji13) < (x3_1.length : Int)) = true := decide_eq_true c15
                  clear c15
                  obtain ⟨ji16, hji16⟩ : ∃ j_ : Int, (wrap64 (x4_1 - 16)) = j_ := ⟨_, rfl⟩
                  replace H : (if 0 ≤ (ji16) then (if (ji16) < (x3_1.length : Int) then (if 0 ≤ (wrap64 (x4_1 - 7)) then (if (wrap64 (x4_1 - 7)) < (x3_1.length : Int) then ((padlockref01_Turn.f k1 (rd x3_1 (ji10)) 7).bind fun t177 => ((padlockref01_Turn.f k1 (rd x3_1 (ji10)) 18).bind fun t178 => ((padlockref01_Turn.f k1 (rd x3_1 (ji13)) 17).bind fun t179 => ((padlockref01_Turn.f k1 (rd x3_1 (ji13)) 19).bind fun t180 => (if x3_1.length < 35184372088832 then (padlockref01_Words.l0 k1 l0 (x3_1 ++ [((((((rd x3_1 (ji16)) + (rd x3_1 (wrap64 (x4_1 - 7)))) % 4294967296) + (Go.bits .xor .u32 (Go.bits .xor .u32 t177 t178) ((Int.tdiv (rd x3_1 (ji10)) 8) % 4294967296))) % 4294967296) + (Go.bits .xor .u32 (Go.bits .xor .u32 t179 t180) ((Int.tdiv (rd x3_1 (ji13)) 1024) % 4294967296))) % 4294967296]) (wrap64 (x4_1 + 1))) else (none)))))) else (none)) else (none)) else (none)) else (none)) = some r := by first | (rw [hji16] at H; exact H) | (simp only [hji16] at H ⊢; exact H)
                  have hji16w : (IntKind.i64.wrap (x4_1 - 16)) = ji16 := (i64_w _).trans hji16
                  by_cases c17 : 0 ≤ (ji16)
                  · rw [if_pos c17] at H
                    have c17b0 : decide (0 ≤ (ji16)) = true := decide_eq_true c17
                    clear c17
                    by_cases c18 : (ji16) < (x3_1.length : Int)
                    · rw [if_pos c18] at H
                      have c18b0 : decide ((ji16) < (x3_1.length : Int)) = true := decide_eq_true c18
                      clear c18
                      obtain ⟨ji19, hji19⟩ : ∃ j_ : Int, (wrap64 (x4_1 - 7)) = j_ := ⟨_, rfl⟩
                      replace H : (if 0 ≤ (ji19) then (if (ji19) < (x3_1.length : Int) then ((padlockref01_Turn.f k1 (rd x3_1 (ji10)) 7).bind fun t177 => ((padlockref01_Turn.f k1 (rd x3_1 (ji10)) 18).bind fun t178 => ((padlockref01_Turn.f k1 (rd x3_1 (ji13)) 17).bind fun t179 => ((padlockref01_Turn.f k1 (rd x3_1 (ji13)) 19).bind fun t180 => (if x3_1.length < 35184372088832 then (padlockref01_Words.l0 k1 l0 (x3_1 ++ [((((((rd x3_1 (ji16)) + (rd x3_1 (ji19))) % 4294967296) + (Go.bits .xor .u32 (Go.bits .xor .u32 t177 t178) ((Int.tdiv (rd x3_1 (ji10)) 8) % 4294967296))) % 4294967296) + (Go.bits .xor .u32 (Go.bits .xor .u32 t179 t180) ((Int.tdiv (rd x3_1 (ji13)) 1024) % 4294967296))) % 4294967296]) (wrap64 (x4_1 + 1))) else (none)))))) else (none)) else (none)) = some r := by first | (rw [hji19] at H; exact H) | (simp only [hji19] at H ⊢; exact H)
                      have hji19w : (IntKind.i64.wrap (x4_1 - 7)) = ji19 := (i64_w _).trans hji19
                      by_cases c20 : 0 ≤ (ji19)
                      · rw [if_pos c20] at H
                        have c20b0 : decide (0 ≤ (ji19)) = true := decide_eq_true c20
                        clear c20
                        by_cases c21 : (ji19) < (x3_1.length : Int)
                        · rw [if_pos c21] at H
                          have c21b0 : decide ((ji19) < (x3_1.length : Int)) = true := decide_eq_true c21
                          clear c21
                          replace H := Option.bind_eq_some_iff.mp H
                          obtain ⟨t177, A220, H⟩ := H
                          replace H : ((padlockref01_Turn.f k1 (rd x3_1 (ji10)) 18).bind fun t178 => ((padlockref01_Turn.f k1 (rd x3_1 (ji13)) 17).bind fun t179 => ((padlockref01_Turn.f k1 (rd x3_1 (ji13)) 19).bind fun t180 => (if x3_1.length < 35184372088832 then (padlockref01_Words.l0 k1 l0 (x3_1 ++ [((((((rd x3_1 (ji16)) + (rd x3_1 (ji19))) % 4294967296) + (Go.bits .xor .u32 (Go.bits .xor .u32 t177 t178) ((Int.tdiv (rd x3_1 (ji10)) 8) % 4294967296))) % 4294967296) + (Go.bits .xor .u32 (Go.bits .xor .u32 t179 t180) ((Int.tdiv (rd x3_1 (ji13)) 1024) % 4294967296))) % 4294967296]) (wrap64 (x4_1 + 1))) else (none))))) = some r := H
                          have A22 := Aside0.mk A220
                          clear A220
                          replace H := Option.bind_eq_some_iff.mp H
                          obtain ⟨t178, A230, H⟩ := H
                          replace H : ((padlockref01_Turn.f k1 (rd x3_1 (ji13)) 17).bind fun t179 => ((padlockref01_Turn.f k1 (rd x3_1 (ji13)) 19).bind fun t180 => (if x3_1.length < 35184372088832 then (padlockref01_Words.l0 k1 l0 (x3_1 ++ [((((((rd x3_1 (ji16)) + (rd x3_1 (ji19))) % 4294967296) + (Go.bits .xor .u32 (Go.bits .xor .u32 t177 t178) ((Int.tdiv (rd x3_1 (ji10)) 8) % 4294967296))) % 4294967296) + (Go.bits .xor .u32 (Go.bits .xor .u32 t179 t180) ((Int.tdiv (rd x3_1 (ji13)) 1024) % 4294967296))) % 4294967296]) (wrap64 (x4_1 + 1))) else (none)))) = some r := H
                          have A23 := Aside0.mk A230
                          clear A230
                          replace H := Option.bind_eq_some_iff.mp H
                          obtain ⟨t179, A240, H⟩ := H
                          replace H : ((padlockref01_Turn.f k1 (rd x3_1 (ji13)) 19).bind fun t180 => (if x3_1.length < 35184372088832 then (padlockref01_Words.l0 k1 l0 (x3_1 ++ [((((((rd x3_1 (ji16)) + (rd x3_1 (ji19))) % 4294967296) + (Go.bits .xor .u32 (Go.bits .xor .u32 t177 t178) ((Int.tdiv (rd x3_1 (ji10)) 8) % 4294967296))) % 4294967296) + (Go.bits .xor .u32 (Go.bits .xor .u32 t179 t180) ((Int.tdiv (rd x3_1 (ji13)) 1024) % 4294967296))) % 4294967296]) (wrap64 (x4_1 + 1))) else (none))) = some r := H
                          have A24 := Aside0.mk A240
                          clear A240
                          replace H := Option.bind_eq_some_iff.mp H
                          obtain ⟨t180, A250, H⟩ := H
                          replace H : (if x3_1.length < 35184372088832 then (padlockref01_Words.l0 k1 l0 (x3_1 ++ [((((((rd x3_1 (ji16)) + (rd x3_1 (ji19))) % 4294967296) + (Go.bits .xor .u32 (Go.bits .xor .u32 t177 t178) ((Int.tdiv (rd x3_1 (ji10)) 8) % 4294967296))) % 4294967296) + (Go.bits .xor .u32 (Go.bits .xor .u32 t179 t180) ((Int.tdiv (rd x3_1 (ji13)) 1024) % 4294967296))) % 4294967296]) (wrap64 (x4_1 + 1))) else (none)) = some r := H
                          have A25 := Aside0.mk A250
                          clear A250
                          by_cases c26 : x3_1.length < 35184372088832
                          · rw [if_pos c26] at H
                            have LMc26 := Aside0.mk c26
                            clear c26
                            obtain ⟨y181, hy181⟩ : ∃ y_ : List Int, y_ = (x3_1 ++ [((((((rd x3_1 (ji16)) + (rd x3_1 (ji19))) % 4294967296) + (Go.bits .xor .u32 (Go.bits .xor .u32 t177 t178) ((Int.tdiv (rd x3_1 (ji10)) 8) % 4294967296))) % 4294967296) + (Go.bits .xor .u32 (Go.bits .xor .u32 t179 t180) ((Int.tdiv (rd x3_1 (ji13)) 1024) % 4294967296))) % 4294967296]) := ⟨_, rfl⟩
                            replace H : (padlockref01_Words.l0 k1 l0 y181 (wrap64 (x4_1 + 1))) = some r := by first | (rw [hy181]; with_reducible exact H) | (have H2_ := (Option.bind_some _ _).symm.trans H; rw [hy181]; with_reducible exact H2_) | (have H2_ := (Option.bind_some _ _).symm.trans H; with_reducible exact H2_) | with_reducible exact H | (rw [hy181]; exact H) | exact H
                            have Ny181 := Aside0.mk hy181
                            clear hy181
                            have H' := Aside0.mk H
                            clear H
                            obtain ⟨Ao27, co27, eo27⟩ := Kd.R_slice HO_3.out
                            subst eo27
                            have p173 : 0 ≤ ((ji10) : Int) := of_decide_eq_true (by first | (with_reducible assumption) | assumption)
                            have q173 : (ji10) < (x3_1.length : Int) := of_decide_eq_true (by first | (with_reducible assumption) | assumption)
                            obtain ⟨ad173, e173, hx173_0⟩ := Kd.at_int (Kd.R_reads' HO_3.out).2.2 (ji10) p173 q173
                            cases e173
                            replace p173 := eq_true p173
                            replace q173 := eq_true q173
                            have p174 : 0 ≤ ((ji13) : Int) := of_decide_eq_true (by first | (with_reducible assumption) | assumption)
                            have q174 : (ji13) < (x3_1.length : Int) := of_decide_eq_true (by first | (with_reducible assumption) | assumption)
                            obtain ⟨ad174, e174, hx174_0⟩ := Kd.at_int (Kd.R_reads' HO_3.out).2.2 (ji13) p174 q174
                            obtain rfl : ad173 = ad174 := (by injection e174)
                            replace p174 := eq_true p174
                            replace q174 := eq_true q174
                            try go_wp2
                            have n0_ := Aside0.mk (Kd.R_drew HO_3.out)
                            have n1_ := Aside0.mk (below_drew1 HB.out)
                            clear HO_3
                            clear HB
                            have HO_3 := n0_
                            have HB := n1_
                            clear n0_ n1_
                            have p175 : 0 ≤ ((ji16) : Int) := of_decide_eq_true (by first | (with_reducible assumption) | assumption)
                            have q175 : (ji16) < (x3_1.length : Int) := of_decide_eq_true (by first | (with_reducible assumption) | assumption)
                            obtain ⟨ad175, e175, hx175_0⟩ := Kd.at_int (Kd.R_reads' HO_3.out).2.2 (ji16) p175 q175
                            obtain rfl : ad173 = ad175 := (by injection e175)
                            replace p175 := eq_true p175
                            replace q175 := eq_true q175
                            have p176 : 0 ≤ ((ji19) : Int) := of_decide_eq_true (by first | (with_reducible assumption) | assumption)
                            have q176 : (ji19) < (x3_1.length : Int) := of_decide_eq_true (by first | (with_reducible assumption) | assumption)
                            obtain ⟨ad176, e176, hx176_0⟩ := Kd.at_int (Kd.R_reads' HO_3.out).2.2 (ji19) p176 q176
                            obtain rfl : ad173 = ad176 := (by injection e176)
                            replace p176 := eq_true p176
                            replace q176 := eq_true q176
                            refine start_ (n := 30) (S := fun w' => w'.cell? (ad173.add ((ji16)).toNat) = some (.int .u32 (rd x3_1 (ji16))) ∧ w'.cell? (ad173.add ((ji19)).toNat) = some (.int .u32 (rd x3_1 (ji19)))) (ds := []) #[false, false, false, false, false, false, false, false, false, false, false, false, false, false, false, false, false, false, false, false, false, false, false, false, false, false, false, false, false, false] (by kernel_rfl) rfl rfl ⟨hx175_0, hx176_0⟩ (fun hHeld => ?_); refine with_tabW padlockref01_Words.tab13 padlockref01_Words.bits13 (fun HT_ HW_ => ?_)
                            generalize wr.drew = w28 at HO_3 HB hx175_0 hx176_0 hHeld ⊢
                            refine pure_ (i := 0) (N := some 40) (v := ?_) (a' := ?_) #[true, false, false, false, false, false, false, false, false, false, false, false, false, false, false, false, false, false, false, false, false, false, false, false, false, false, false, false, false, false] rfl rfl (any_of HT_.out (by kernel_rfl)) (fun _ _ _ h => h) (Or.inl ⟨by rfl, ?_⟩) ?_ ?_
                            rotate_left
                            · intro w'
                              go_simp
                              with_reducible rfl
                            rotate_left
                            · simp only [Act.put, List.setIfInBounds_toArray, List.set_cons_zero, List.set_cons_succ, i64_w, i32_w]
                              rfl
                            refine pure_ (i := 1) (N := some 41) (v := ?_) (a' := ?_) #[true, true, false, false, false, false, false, false, false, false, false, false, false, false, false, false, false, false, false, false, false, false, false, false, false, false, false, false, false, false] rfl rfl (any_of HT_.out (by kernel_rfl)) (fun _ _ _ h => h) (Or.inl ⟨by rfl, ?_⟩) ?_ ?_
                            rotate_left
                            · intro w'
                              go_simp
                              with_reducible rfl
                            rotate_left
                            · simp only [Act.put, List.setIfInBounds_toArray, List.set_cons_zero, List.set_cons_succ, i64_w, i32_w]
                              rfl
                            refine pure_ (i := 2) (N := some 42) (v := ?_) (a' := ?_) #[true, true, true, false, false, false, false, false, false, false, false, false, false, false, false, false, false, false, false, false, false, false, false, false, false, false, false, false, false, false] rfl rfl (any_of HT_.out (by kernel_rfl)) (fun _ _ _ h => h) (Or.inl ⟨by rfl, ?_⟩) ?_ ?_
                            rotate_left
                            · intro w'
                              go_simp
                              with_reducible rfl
                            rotate_left
                            · simp only [Act.put, List.setIfInBounds_toArray, List.set_cons_zero, List.set_cons_succ, i64_w, i32_w]
                              rfl
                            refine pure_ (i := 3) (N := some 43) (v := ?_) (a' := ?_) #[true, true, true, true, false, false, false, false, false, false, false, false, false, false, false, false, false, false, false, false, false, false, false, false, false, false, false, false, false, false] rfl rfl (any_of HT_.out (by kernel_rfl)) (fun _ _ _ h => h) (Or.inl ⟨by rfl, ?_⟩) ?_ ?_
                            rotate_left
                            · intro w'
                              go_simp
                              with_reducible rfl
                            rotate_left
                            · simp only [Act.put, List.setIfInBounds_toArray, List.set_cons_zero, List.set_cons_succ, i64_w, i32_w]
                              rfl
                            refine pure_ (i := 5) (N := some 45) (v := ?_) (a' := ?_) #[true, true, true, true, false, true, false, false, false, false, false, false, false, false, false, false, false, false, false, false, false, false, false, false, false, false, false, false, false, false] rfl rfl (any_of HT_.out (by kernel_rfl)) (fun _ _ _ h => h) (Or.inl ⟨by rfl, ?_⟩) ?_ ?_
                            rotate_left
                            · intro w'
                              go_simp
                              with_reducible rfl
                            rotate_left
                            · simp only [Act.put, List.setIfInBounds_toArray, List.set_cons_zero, List.set_cons_succ, i64_w, i32_w]
                              rfl
                            refine pure_ (i := 6) (N := some 46) (v := ?_) (a' := ?_) #[true, true, true, true, false, true, true, false, false, false, false, false, false, false, false, false, false, false, false, false, false, false, false, false, false, false, false, false, false, false] rfl rfl (any_of HT_.out (by kernel_rfl)) (fun _ _ _ h => h) (Or.inl ⟨by rfl, ?_⟩) ?_ ?_
                            rotate_left
                            · intro w'
                              go_simp
                              with_reducible rfl
                            rotate_left
                            · simp only [Act.put, List.setIfInBounds_toArray, List.set_cons_zero, List.set_cons_succ, i64_w, i32_w]
                              rfl
                            refine pure_ (i := 7) (N := some 47) (v := ?_) (a' := ?_) #[true, true, true, true, false, true, true, true, false, false, false, false, false, false, false, false, false, false, false, false, false, false, false, false, false, false, false, false, false, false] rfl rfl (any_of HT_.out (by kernel_rfl)) (fun _ _ _ h => h) (Or.inl ⟨by rfl, ?_⟩) ?_ ?_
                            rotate_left
                            · intro w'
                              go_simp
                              with_reducible rfl
                            rotate_left
                            · simp only [Act.put, List.setIfInBounds_toArray, List.set_cons_zero, List.set_cons_succ, i64_w, i32_w]
                              rfl
                            refine pure_ (i := 8) (N := some 48) (v := ?_) (a' := ?_) #[true, true, true, true, false, true, true, true, true, false, false, false, false, false, false, false, false, false, false, false, false, false, false, false, false, false, false, false, false, false] rfl rfl (any_of HT_.out (by kernel_rfl)) (fun _ _ _ h => h) (Or.inl ⟨by rfl, ?_⟩) ?_ ?_
                            rotate_left
                            · intro w'
                              go_simp
                              with_reducible rfl
                            rotate_left
                            · simp only [Act.put, List.setIfInBounds_toArray, List.set_cons_zero, List.set_cons_succ, i64_w, i32_w]
                              rfl
                            refine pure_ (i := 11) (N := some 51) (v := ?_) (a' := ?_) #[true, true, true, true, false, true, true, true, true, false, false, true, false, false, false, false, false, false, false, false, false, false, false, false, false, false, false, false, false, false] rfl rfl (any_of HT_.out (by kernel_rfl)) (fun _ _ _ h => h) (Or.inl ⟨by rfl, ?_⟩) ?_ ?_
                            rotate_left
                            · intro w'
                              go_simp
                              with_reducible rfl
                            rotate_left
                            · simp only [Act.put, List.setIfInBounds_toArray, List.set_cons_zero, List.set_cons_succ, i64_w, i32_w]
                              rfl
                            refine pure_ (i := 13) (N := some 53) (v := ?_) (a' := ?_) #[true, true, true, true, false, true, true, true, true, false, false, true, false, true, false, false, false, false, false, false, false, false, false, false, false, false, false, false, false, false] rfl rfl (any_of HT_.out (by kernel_rfl)) (fun _ _ _ h => h) (Or.inl ⟨by rfl, ?_⟩) ?_ ?_
                            rotate_left
                            · intro w'
                              go_simp
                              with_reducible rfl
                            rotate_left
                            · simp only [Act.put, List.setIfInBounds_toArray, List.set_cons_zero, List.set_cons_succ, i64_w, i32_w]
                              rfl
                            refine pure_ (i := 16) (N := some 56) (v := ?_) (a' := ?_) #[true, true, true, true, false, true, true, true, true, false, false, true, false, true, false, false, true, false, false, false, false, false, false, false, false, false, false, false, false, false] rfl rfl (any_of HT_.out (by kernel_rfl)) (fun _ _ _ h => h) (Or.inl ⟨by rfl, ?_⟩) ?_ ?_
                            rotate_left
                            · intro w'
                              go_simp
                              with_reducible rfl
                            rotate_left
                            · simp only [Act.put, List.setIfInBounds_toArray, List.set_cons_zero, List.set_cons_succ, i64_w, i32_w]
                              rfl
                            refine pure_ (i := 17) (N := some 57) (v := ?_) (a' := ?_) #[true, true, true, true, false, true, true, true, true, false, false, true, false, true, false, false, true, true, false, false, false, false, false, false, false, false, false, false, false, false] rfl rfl (any_of HT_.out (by kernel_rfl)) (fun _ _ _ h => h) (Or.inl ⟨by rfl, ?_⟩) ?_ ?_
                            rotate_left
                            · intro w'
                              go_simp
                              with_reducible rfl
                            rotate_left
                            · simp only [Act.put, List.setIfInBounds_toArray, List.set_cons_zero, List.set_cons_succ, i64_w, i32_w]
                              rfl
                            refine pure_ (i := 20) (N := some 60) (v := ?_) (a' := ?_) #[true, true, true, true, false, true, true, true, true, false, false, true, false, true, false, false, true, true, false, false, true, false, false, false, false, false, false, false, false, false] rfl rfl (any_of HT_.out (by kernel_rfl)) (fun _ _ _ h => h) (Or.inl ⟨by rfl, ?_⟩) ?_ ?_
                            rotate_left
                            · intro w'
                              go_simp
                              with_reducible rfl
                            rotate_left
                            · simp only [Act.put, List.setIfInBounds_toArray, List.set_cons_zero, List.set_cons_succ, i64_w, i32_w]
                              rfl
                            refine pure_ (i := 22) (N := some 62) (v := ?_) (a' := ?_) #[true, true, true, true, false, true, true, true, true, false, false, true, false, true, false, false, true, true, false, false, true, false, true, false, false, false, false, false, false, false] rfl rfl (any_of HT_.out (by kernel_rfl)) (fun _ _ _ h => h) (Or.inl ⟨by rfl, ?_⟩) ?_ ?_
                            rotate_left
                            · intro w'
                              go_simp
                              with_reducible rfl
                            rotate_left
                            · simp only [Act.put, List.setIfInBounds_toArray, List.set_cons_zero, List.set_cons_succ, i64_w, i32_w]
                              rfl
                            refine pure_ (i := 25) (N := some 65) (v := ?_) (a' := ?_) #[true, true, true, true, false, true, true, true, true, false, false, true, false, true, false, false, true, true, false, false, true, false, true, false, false, true, false, false, false, false] rfl rfl (any_of HT_.out (by kernel_rfl)) (fun _ _ _ h => h) (Or.inl ⟨by rfl, ?_⟩) ?_ ?_
                            rotate_left
                            · intro w'
                              go_simp
                              with_reducible rfl
                            rotate_left
                            · simp only [Act.put, List.setIfInBounds_toArray, List.set_cons_zero, List.set_cons_succ, i64_w, i32_w]
                              rfl
                            refine pure_ (i := 26) (N := some 66) (v := ?_) (a' := ?_) #[true, true, true, true, false, true, true, true, true, false, false, true, false, true, false, false, true, true, false, false, true, false, true, false, false, true, true, false, false, false] rfl rfl (any_of HT_.out (by kernel_rfl)) (fun _ _ _ h => h) (Or.inl ⟨by rfl, ?_⟩) ?_ ?_
                            rotate_left
                            · intro w'
                              go_simp
                              with_reducible rfl
                            rotate_left
                            · simp only [Act.put, List.setIfInBounds_toArray, List.set_cons_zero, List.set_cons_succ, i64_w, i32_w]
                              rfl
                            refine take_ (i := 4) (N := some 44) (v := ?_) (a' := ?_) #[true, true, true, true, true, true, true, true, true, false, false, true, false, true, false, false, true, true, false, false, true, false, true, false, false, true, true, false, false, false] rfl rfl (take_ofW HT_.out HW_.out (by kernel_rfl)) (fun _ _ _ h => h) (Or.inl ⟨by rfl, ?_⟩) hHeld ?_ ?_
                            rotate_left
                            · rintro w' ⟨s0, s1⟩
                              go_simp
                              with_reducible rfl
                            rotate_left
                            · simp only [Act.put, List.setIfInBounds_toArray, List.set_cons_zero, List.set_cons_succ, i64_w, i32_w]
                              rfl
                            refine take_ (i := 9) (N := some 49) (v := ?_) (a' := ?_) #[true, true, true, true, true, true, true, true, true, true, false, true, false, true, false, false, true, true, false, false, true, false, true, false, false, true, true, false, false, false] rfl rfl (take_ofW HT_.out HW_.out (by kernel_rfl)) (fun _ _ _ h => h) (Or.inl ⟨by rfl, ?_⟩) hHeld ?_ ?_
                            rotate_left
                            · rintro w' ⟨s0, s1⟩
                              go_simp
                              with_reducible rfl
                            rotate_left
                            · simp only [Act.put, List.setIfInBounds_toArray, List.set_cons_zero, List.set_cons_succ, i64_w, i32_w]
                              rfl
                            refine pure_ (i := 10) (N := some 50) (v := ?_) (a' := ?_) #[true, true, true, true, true, true, true, true, true, true, true, true, false, true, false, false, true, true, false, false, true, false, true, false, false, true, true, false, false, false] rfl rfl (any_of HT_.out (by kernel_rfl)) (fun _ _ _ h => h) (Or.inl ⟨by rfl, ?_⟩) ?_ ?_
                            rotate_left
                            · intro w'
                              go_simp
                              with_reducible rfl
                            rotate_left
                            · simp only [Act.put, List.setIfInBounds_toArray, List.set_cons_zero, List.set_cons_succ, i64_w, i32_w]
                              rfl
                            refine one_ (i := 12) (N := some 52) #[true, true, true, true, true, true, true, true, true, true, true, true, true, true, false, false, true, true, false, false, true, false, true, false, false, true, true, false, false, false] rfl rfl (one_of HT_.out (by kernel_rfl)) (by decide) (fun K hK => ?_)
                            refine goes_ Try.func101 (by kernel_rfl) rfl #[.int .u32 (rd x3_1 (ji10)), .int .i64 7] (by rfl) rfl rfl (by (try simp only [List.map_toArray, List.map_cons, List.map_nil]); first | done | (simp only [hji10]; rfl) | rfl | (simp only [List.length_drop, List.length_take]; rfl)) ?_
                            with_reducible refine (padlockref01_Turn.calls k1 (rd x3_1 (ji10)) 7 t177 _ A22.out).mono ?_
                            rintro e w' ⟨rfl, ⟨nd, rfl⟩⟩
                            refine ⟨_, rfl, ?_⟩
                            refine hK.out _ _ ⟨hHeld.1, hHeld.2⟩ (fun hHeld => ?_)
                            clear hK K
                            refine norm_ (a' := ?_) ?_ ?_
                            rotate_left
                            · show Act.put _ (some 52) _ = _
                              simp only [Act.put, List.setIfInBounds_toArray, List.set_cons_zero, List.set_cons_succ, i64_w, i32_w]
                              rfl
                            refine one_ (i := 14) (N := some 54) #[true, true, true, true, true, true, true, true, true, true, true, true, true, true, true, false, true, true, false, false, true, false, true, false, false, true, true, false, false, false] rfl rfl (one_of HT_.out (by kernel_rfl)) (by decide) (fun K hK => ?_)
                            refine goes_ Try.func101 (by kernel_rfl) rfl #[.int .u32 (rd x3_1 (ji10)), .int .i64 18] (by rfl) rfl rfl (by (try simp only [List.map_toArray, List.map_cons, List.map_nil]); first | done | (simp only [hji10]; rfl) | rfl | (simp only [List.length_drop, List.length_take]; rfl)) ?_
                            with_reducible refine (padlockref01_Turn.calls k1 (rd x3_1 (ji10)) 18 t178 _ A23.out).mono ?_
                            rintro e w' ⟨rfl, ⟨nd, rfl⟩⟩
                            refine ⟨_, rfl, ?_⟩
                            refine hK.out _ _ ⟨hHeld.1, hHeld.2⟩ (fun hHeld => ?_)
                            clear hK K
                            refine norm_ (a' := ?_) ?_ ?_
                            rotate_left
                            · show Act.put _ (some 54) _ = _
                              simp only [Act.put, List.setIfInBounds_toArray, List.set_cons_zero, List.set_cons_succ, i64_w, i32_w]
                              rfl
                            refine pure_ (i := 15) (N := some 55) (v := ?_) (a' := ?_) #[true, true, true, true, true, true, true, true, true, true, true, true, true, true, true, true, true, true, false, false, true, false, true, false, false, true, true, false, false, false] rfl rfl (any_of HT_.out (by kernel_rfl)) (fun _ _ _ h => h) (Or.inl ⟨by rfl, ?_⟩) ?_ ?_
                            rotate_left
                            · intro w'
                              go_simp
                              with_reducible rfl
                            rotate_left
                            · simp only [Act.put, List.setIfInBounds_toArray, List.set_cons_zero, List.set_cons_succ, i64_w, i32_w]
                              rfl
                            refine pure_ (i := 18) (N := some 58) (v := ?_) (a' := ?_) #[true, true, true, true, true, true, true, true, true, true, true, true, true, true, true, true, true, true, true, false, true, false, true, false, false, true, true, false, false, false] rfl rfl (any_of HT_.out (by kernel_rfl)) (fun _ _ _ h => h) (Or.inl ⟨by rfl, ?_⟩) ?_ ?_
                            rotate_left
                            · intro w'
                              go_simp
                              with_reducible rfl
                            rotate_left
                            · simp only [Act.put, List.setIfInBounds_toArray, List.set_cons_zero, List.set_cons_succ, i64_w, i32_w]
                              rfl
                            refine pure_ (i := 19) (N := some 59) (v := ?_) (a' := ?_) #[true, true, true, true, true, true, true, true, true, true, true, true, true, true, true, true, true, true, true, true, true, false, true, false, false, true, true, false, false, false] rfl rfl (any_of HT_.out (by kernel_rfl)) (fun _ _ _ h => h) (Or.inl ⟨by rfl, ?_⟩) ?_ ?_
                            rotate_left
                            · intro w'
                              go_simp
                              with_reducible rfl
                            rotate_left
                            · simp only [Act.put, List.setIfInBounds_toArray, List.set_cons_zero, List.set_cons_succ, i64_w, i32_w]
                              rfl
                            refine one_ (i := 21) (N := some 61) #[true, true, true, true, true, true, true, true, true, true, true, true, true, true, true, true, true, true, true, true, true, true, true, false, false, true, true, false, false, false] rfl rfl (one_of HT_.out (by kernel_rfl)) (by decide) (fun K hK => ?_)
                            refine goes_ Try.func101 (by kernel_rfl) rfl #[.int .u32 (rd x3_1 (ji13)), .int .i64 17] (by rfl) rfl rfl (by (try simp only [List.map_toArray, List.map_cons, List.map_nil]); first | done | (simp only [hji13]; rfl) | rfl | (simp only [List.length_drop, List.length_take]; rfl)) ?_
                            with_reducible refine (padlockref01_Turn.calls k1 (rd x3_1 (ji13)) 17 t179 _ A24.out).mono ?_
                            rintro e w' ⟨rfl, ⟨nd, rfl⟩⟩
                            refine ⟨_, rfl, ?_⟩
                            refine hK.out _ _ ⟨hHeld.1, hHeld.2⟩ (fun hHeld => ?_)
                            clear hK K
                            refine norm_ (a' := ?_) ?_ ?_
                            rotate_left
                            · show Act.put _ (some 61) _ = _
                              simp only [Act.put, List.setIfInBounds_toArray, List.set_cons_zero, List.set_cons_succ, i64_w, i32_w]
                              rfl
                            refine one_ (i := 23) (N := some 63) #[true, true, true, true, true, true, true, true, true, true, true, true, true, true, true, true, true, true, true, true, true, true, true, true, false, true, true, false, false, false] rfl rfl (one_of HT_.out (by kernel_rfl)) (by decide) (fun K hK => ?_)
                            refine goes_ Try.func101 (by kernel_rfl) rfl #[.int .u32 (rd x3_1 (ji13)), .int .i64 19] (by rfl) rfl rfl (by (try simp only [List.map_toArray, List.map_cons, List.map_nil]); first | done | (simp only [hji13]; rfl) | rfl | (simp only [List.length_drop, List.length_take]; rfl)) ?_
                            with_reducible refine (padlockref01_Turn.calls k1 (rd x3_1 (ji13)) 19 t180 _ A25.out).mono ?_
                            rintro e w' ⟨rfl, ⟨nd, rfl⟩⟩
                            refine ⟨_, rfl, ?_⟩
                            refine hK.out _ _ ⟨hHeld.1, hHeld.2⟩ (fun hHeld => ?_)
                            clear hK K
                            refine norm_ (a' := ?_) ?_ ?_
                            rotate_left
                            · show Act.put _ (some 63) _ = _
                              simp only [Act.put, List.setIfInBounds_toArray, List.set_cons_zero, List.set_cons_succ, i64_w, i32_w]
                              rfl
                            refine pure_ (i := 24) (N := some 64) (v := ?_) (a' := ?_) #[true, true, true, true, true, true, true, true, true, true, true, true, true, true, true, true, true, true, true, true, true, true, true, true, true, true, true, false, false, false] rfl rfl (any_of HT_.out (by kernel_rfl)) (fun _ _ _ h => h) (Or.inl ⟨by rfl, ?_⟩) ?_ ?_
                            rotate_left
                            · intro w'
                              go_simp
                              with_reducible rfl
                            rotate_left
                            · simp only [Act.put, List.setIfInBounds_toArray, List.set_cons_zero, List.set_cons_succ, i64_w, i32_w]
                              rfl
                            refine pure_ (i := 27) (N := some 67) (v := ?_) (a' := ?_) #[true, true, true, true, true, true, true, true, true, true, true, true, true, true, true, true, true, true, true, true, true, true, true, true, true, true, true, true, false, false] rfl rfl (any_of HT_.out (by kernel_rfl)) (fun _ _ _ h => h) (Or.inl ⟨by rfl, ?_⟩) ?_ ?_
                            rotate_left
                            · intro w'
                              go_simp
                              with_reducible rfl
                            rotate_left
                            · simp only [Act.put, List.setIfInBounds_toArray, List.set_cons_zero, List.set_cons_succ, i64_w, i32_w]
                              rfl
                            refine pure_ (i := 28) (N := some 68) (v := ?_) (a' := ?_) #[true, true, true, true, true, true, true, true, true, true, true, true, true, true, true, true, true, true, true, true, true, true, true, true, true, true, true, true, true, false] rfl rfl (any_of HT_.out (by kernel_rfl)) (fun _ _ _ h => h) (Or.inl ⟨by rfl, ?_⟩) ?_ ?_
                            rotate_left
                            · intro w'
                              go_simp
                              with_reducible rfl
                            rotate_left
                            · simp only [Act.put, List.setIfInBounds_toArray, List.set_cons_zero, List.set_cons_succ, i64_w, i32_w]
                              rfl
                            refine pure_ (i := 29) (N := some 5) (v := ?_) (a' := ?_) #[true, true, true, true, true, true, true, true, true, true, true, true, true, true, true, true, true, true, true, true, true, true, true, true, true, true, true, true, true, true] rfl rfl (any_of HT_.out (by kernel_rfl)) (fun _ _ _ h => h) (Or.inl ⟨by rfl, ?_⟩) ?_ ?_
                            rotate_left
                            · intro w'
                              go_simp
                              with_reducible rfl
                            rotate_left
                            · simp only [Act.put, List.setIfInBounds_toArray, List.set_cons_zero, List.set_cons_succ, i64_w, i32_w]
                              rfl
                            refine done_ (done_of HT_.out (by kernel_rfl)) ?_
                            try go_wp2_with (first | ((with_reducible refine gate_builtin (b := .append) (xs := #[.tmp 69, .tmp 71]) rfl ?_); at_builtin; refine Kd.R_append (Kd.int .u32) (w0 := w) w.heap.size rfl (.tmp 69) (.tmp 71) 29 112 (.int .u32 0) 4 rfl Try.underlying29 info112 rfl (by decide) (by omega) (.slice (some ad173) x3_1.length co27) x3_1 (((((((rd x3_1 (ji16)) + (rd x3_1 (ji19))) % 4294967296) + (Go.bits .xor .u32 (Go.bits .xor .u32 t177 t178) ((Int.tdiv (rd x3_1 (ji10)) 8) % 4294967296))) % 4294967296) + (Go.bits .xor .u32 (Go.bits .xor .u32 t179 t180) ((Int.tdiv (rd x3_1 (ji13)) 1024) % 4294967296))) % 4294967296) [.int .u32 (((((((rd x3_1 (ji16)) + (rd x3_1 (ji19))) % 4294967296) + (Go.bits .xor .u32 (Go.bits .xor .u32 t177 t178) ((Int.tdiv (rd x3_1 (ji10)) 8) % 4294967296))) % 4294967296) + (Go.bits .xor .u32 (Go.bits .xor .u32 t179 t180) ((Int.tdiv (rd x3_1 (ji13)) 1024) % 4294967296))) % 4294967296)] (fun _ => True) (fun _ => False) rfl rfl ?aP (fun _ hk => hk.elim) ?aF ?aO ?aB ?aS ?aL ?_; (case aP => exact rfl); (case aB => exact (by repeat (first | (with_reducible first | exact HB.out | apply below_alloc | apply pw_below_drewN | apply below_drew1) | exact HB.out))); (case aF => exact (fun _ _ => trivial)); (case aO => exact (by (with_reducible repeat (first | apply Kd.R_alloc | apply Kd.R_drewN | apply Kd.R_drew)); exact HO_3.out)); (case aS => exact (below_size (by repeat (first | (with_reducible first | exact HB.out | apply below_alloc | apply pw_below_drewN | apply below_drew1) | exact HB.out)))); (case aL => have := LMc26.out; omega); intro v182 w29 ho hb hg hat; rw [← Ny181.out] at ho; have n0_ := Aside0.mk (hb); have n1_ := Aside0.mk (ho); clear HB; clear HO_3; have HB := n0_; have HO183 := n1_; clear n0_ n1_; clear ho hb hg hat))
                            go_roundg k1
                            case measure => have := HK1.out; omega
                            case rel => exact ⟨(y181), (wrap64 (x4_1 + 1)), (by first | rfl | (simp; done) | (simp [*]; done) | (simp; omega)), H', ⟨by have := HK1.out; omega⟩, ⟨by (with_reducible repeat (first | apply Kd.R_alloc | apply Kd.R_drewN | apply Kd.R_drew)); exact HO183.out⟩, ⟨by repeat (first | (with_reducible first | exact HB.out | apply below_alloc | apply pw_below_drewN | apply below_drew1) | exact HB.out)⟩⟩
                          · rw [if_neg c26] at H
                            exact absurd H (by simp)
                        · rw [if_neg c21] at H
                          exact absurd H (by simp)
                      · rw [if_neg c20] at H
                        exact absurd H (by simp)
                    · rw [if_neg c18] at H
                      exact absurd H (by simp)
                  · rw [if_neg c17] at H
                    exact absurd H (by simp)
                · rw [if_neg c15] at H
                  exact absurd H (by simp)
              · rw [if_neg c14] at H
                exact absurd H (by simp)
            · rw [if_neg c12] at H
              exact absurd H (by simp)
          · rw [if_neg c11] at H
            exact absurd H (by simp)
      · rw [if_neg c2] at H
        have c2b0 : decide (x4_1 < 64) = false := decide_eq_false c2
        clear c2
        obtain rfl := Option.some.inj H
        go_wp2
        go_ret
        exact ⟨_, by first | rfl | (simp [errW_none, errW_some] <;> rfl) | (simp [*, errW_none, errW_some] <;> rfl), by (with_reducible repeat (first | apply Kd.R_alloc | apply Kd.R_drewN | apply Kd.R_drew)); exact HO_3.out, by repeat (first | (with_reducible first | exact HB.out | apply below_alloc | apply pw_below_drewN | apply below_drew1) | exact HB.out)⟩

end Go.Proofs.Ytljmjeaocojnmaa.Sa
