/- Machine-made by a program of this session (wip/tools/hprint.py, which drives the kit's printer). -/
import Derived.Test.YtoiiacbbfhlocaaDr0
namespace Go.Proofs.Ytoiiacbbfhlocaa.Dr
open Go.RowKit Go.Proofs.YtoiiacbbfhlocaaW.PrintWords Go.Proofs.YtoiiacbbfhlocaaW.PrintLast Go.Proofs.YtoiiacbbfhlocaaW.PrintMore
attribute [local go_sem] max2_int min2_int max_two min_two max_three min_three max_four min_four   -- for this text's walks alone
set_option linter.unusedVariables false
set_option linter.unusedSimpArgs false

-- NOT PRINTED: function 48 (disk_New)

-- NOT PRINTED: function 67 (disk_Disk_Blocks)

-- NOT PRINTED: function 103 (disk_Disk_at)

-- NOT PRINTED: function 104 (disk_block_now)

-- NOT PRINTED: function 50 (disk_Disk_Write)

-- NOT PRINTED: function 105 (disk_Disk_each)

-- NOT PRINTED: function 53 (disk_Disk_Crash)

-- NOT PRINTED: function 54 (disk_Disk_Read)

-- NOT PRINTED: function 56 (disk_Disk_Dirty)

/-! ### padlocklaw06_ones: function 101 -/
def padlocklaw06_ones.l0 : Nat → List Int → Int → Option (ByteArray)
  | 0, _, _ => none
  | k + 1, x1, x2 => if x2 < 72 then (if 0 ≤ x2 then (if x2 < (x1.length : Int) then (padlocklaw06_ones.l0 k (x1.set (x2 : Int).toNat 1) (wrap64 (x2 + 1))) else (none)) else (none)) else (some (strOfNums x1))
def padlocklaw06_ones.f (k : Nat)  : Option (ByteArray) := if 72 ≤ 281474976710656 then (padlocklaw06_ones.l0 k (List.replicate 72 0) 0) else (none)
theorem padlocklaw06_ones.mono_l : ∀ k, (∀ y0 y1, LeO (padlocklaw06_ones.l0 k y0 y1) (padlocklaw06_ones.l0 (k + 1) y0 y1))
  | 0 => fun _ _ r h => by simp [padlocklaw06_ones.l0] at h
  | k + 1 => by
    have ih0 := padlocklaw06_ones.mono_l k
    · intro y0 y1
      unfold padlocklaw06_ones.l0
      repeat' first
      | (with_reducible exact ih0 _ _)
      | (with_reducible exact LeO.refl _)
      | (with_reducible exact LeO.none _)
      | (with_reducible refine LeO.ite ?_ ?_)
      | (with_reducible refine LeO.bind ?_ (fun _ => ?_))
      | exact ih0 _ _
      | exact LeO.none _
      | refine LeO.ite ?_ ?_
      | refine LeO.bind ?_ (fun _ => ?_)
theorem padlocklaw06_ones.mono : ∀ k, LeO (padlocklaw06_ones.f k ) (padlocklaw06_ones.f (k + 1) ) := by
  intro  k
  have ih0 := padlocklaw06_ones.mono_l k
  unfold padlocklaw06_ones.f
  repeat' first
      | (with_reducible exact ih0 _ _)
      | (with_reducible exact LeO.refl _)
      | (with_reducible exact LeO.none _)
      | (with_reducible refine LeO.ite ?_ ?_)
      | (with_reducible refine LeO.bind ?_ (fun _ => ?_))
      | exact ih0 _ _
      | exact LeO.none _
      | refine LeO.ite ?_ ?_
      | refine LeO.bind ?_ (fun _ => ?_)
set_option maxHeartbeats 8000000 in
set_option maxRecDepth 100000 in
theorem padlocklaw06_ones.calls (k : Nat)  (r : ByteArray) (w : World) (h : padlocklaw06_ones.f k  = some r) :
    Calls Try.prog 101 #[] w fun e w' => e = .returned (.string r) ∧ Below w.heap.size w w' := by
  have HB := Aside0.mk (Below.refl w.heap.size w)
  have H : (if 72 ≤ 281474976710656 then (padlocklaw06_ones.l0 k (List.replicate 72 0) 0) else (none)) = some r := h
  clear h
  by_cases c1 : 72 ≤ 281474976710656
  · rw [if_pos c1] at H
    have c1b0 := eq_true c1
    have c1b1 : decide (72 ≤ 281474976710656) = true := decide_eq_true c1
    clear c1
    obtain ⟨y101, hy101⟩ : ∃ y_ : List Int, y_ = (List.replicate 72 0) := ⟨_, rfl⟩
    replace H : (padlocklaw06_ones.l0 k y101 0) = some r := by first | (rw [hy101]; with_reducible exact H) | (have H2_ := (Option.bind_some _ _).symm.trans H; rw [hy101]; with_reducible exact H2_) | (have H2_ := (Option.bind_some _ _).symm.trans H; with_reducible exact H2_) | with_reducible exact H | (rw [hy101]; exact H) | exact H
    have Ny101 := Aside0.mk hy101
    clear hy101
    have H' := Aside0.mk H
    clear H
    go_enter Try.func101, Try.ntmps101
    go_wp2_with (first | ((with_reducible refine gate_dst (N := 3) rfl ?_); refine Kd.R_make (Kd.int .u8) _ 5 rfl (N := 3) rfl 29 _ _ rfl 72 rfl rfl Try.underlying29 (.int .u8 0) 1 info5 rfl (by decide) (by omega) 0 (ok := fun _ => True) (okp := fun _ => True) rfl (fun _ hk => hk) trivial (by omega) (by omega) (Below.refl _ _) (Nat.le_refl _) ?_; intro v102 w2 ho3 hb hg_ hnew_; clear hg_ hnew_; (first | rw [← Ny101.out] at ho3 | (simp only [Int.reduceToNat] at ho3; rw [← Ny101.out] at ho3)); have n0_ := Aside0.mk (Kd.R_lower ho3 (below_size (by repeat (first | (with_reducible first | exact HB.out | apply below_alloc | apply pw_below_drewN | apply below_drew1) | exact HB.out)))); have n1_ := Aside0.mk (below_step (by repeat (first | (with_reducible first | exact HB.out | apply below_alloc | apply pw_below_drewN | apply below_drew1) | exact HB.out)) hb); clear HB; have HO103 := n0_; have HB := n1_; clear n0_ n1_; clear hb ho3))
    go_loopg [2] k (fun kq v2 w' => ∃ (x1_1 : List Int) (x2_1 : Int), v2 = .int .i64 x2_1 ∧ Aside0 (padlocklaw06_ones.l0 kq x1_1 x2_1 = some r) ∧ Aside0 (kq ≤ k) ∧ Aside0 (Kd.R (Kd.int .u8) 5 w' w.heap.size (fun _ => True) v102 x1_1) ∧ Aside0 (Below w.heap.size w w'))
    case atStart => exact ⟨(y101), (0), (by first | rfl | (simp; done) | (simp [*]; done) | (simp; omega)), H', ⟨Nat.le_refl _⟩, ⟨by (with_reducible repeat (first | apply Kd.R_alloc | apply Kd.R_drewN | apply Kd.R_drew)); exact HO103.out⟩, ⟨by repeat (first | (with_reducible first | exact HB.out | apply below_alloc | apply pw_below_drewN | apply below_drew1) | exact HB.out)⟩⟩
    case round =>
      clear H'
      try clear c1
      try clear c1b0
      try clear c1b1
      try clear p2
      obtain ⟨x1_1, x2_1, rfl, HA, HK1, HO_1, HB⟩ := hrel
      cases gk with
      | zero => exact absurd HA.out (by simp [padlocklaw06_ones.l0])
      | succ k1 =>
        have H := HA.out
        clear HA
        simp only [padlocklaw06_ones.l0] at H
        by_cases c4 : x2_1 < 72
        · rw [if_pos c4] at H
          have c4b0 : decide (x2_1 < 72) = true := decide_eq_true c4
          clear c4
          by_cases c5 : 0 ≤ x2_1
          · rw [if_pos c5] at H
            have c5b0 : decide (0 ≤ x2_1) = true := decide_eq_true c5
            clear c5
            by_cases c6 : x2_1 < (x1_1.length : Int)
            · rw [if_pos c6] at H
              have c6b0 : decide (x2_1 < (x1_1.length : Int)) = true := decide_eq_true c6
              clear c6
              obtain ⟨y104, hy104⟩ : ∃ y_ : List Int, y_ = (x1_1.set (x2_1 : Int).toNat 1) := ⟨_, rfl⟩
              replace H : (padlocklaw06_ones.l0 k1 y104 (wrap64 (x2_1 + 1))) = some r := by first | (rw [hy104]; with_reducible exact H) | (have H2_ := (Option.bind_some _ _).symm.trans H; rw [hy104]; with_reducible exact H2_) | (have H2_ := (Option.bind_some _ _).symm.trans H; with_reducible exact H2_) | with_reducible exact H | (rw [hy104]; exact H) | exact H
              have Ny104 := Aside0.mk hy104
              clear hy104
              have H' := Aside0.mk H
              clear H
              have p7 : 0 ≤ (x2_1 : Int) := of_decide_eq_true (by first | (with_reducible assumption) | assumption)
              have q7 : (x2_1 : Int) < ((x1_1.length : Int) : Int) := of_decide_eq_true (by first | (with_reducible assumption) | assumption)
              obtain ⟨go7, co7, eo7, gb7, gl7, cl7, HG7⟩ := Kd.R_form HO_1.out (by omega)
              (first | cases eo7 | (injection eo7 with ea_ en_ ec_; (first | subst ea_ | (injection ea_ with ea_; subst ea_)); subst ec_; clear en_))
              have GB7 := Aside0.mk gb7
              have GG7 := Aside0.mk HG7
              clear gb7 gl7 HG7
              obtain ⟨hx7_0, hf7_0⟩ := Kd.R_celln 0 HO_1.out (x2_1 : Int) p7 q7
              replace p7 := eq_true p7
              replace q7 := eq_true q7
              have HP8 := Kd.R_putg HO_1.out (x2_1 : Int) 1
              go_wp2_with (first | ((with_reducible refine gate_store (t := 5) (p := 10) rfl ?_); refine store_event (t := 5) (p := 10) (v := ?vo_w9) (w1 := (wr.setCell ⟨go7, (x2_1 : Int).toNat, none⟩ (.int .u8 1))) ?hg ?ho ?hn ?hr ?_; (case ho => rfl); (case hg => rfl); (case hn => rfl); (case hr => first | (go_simp; done) | (go_simp; rfl) | (go_simp; simp only [IntKind.wrap_u32, IntKind.wrap_u8]; done) | (go_simp; simp only [IntKind.wrap_u32, IntKind.wrap_u8]; rfl) | (go_simp; simp [IntKind.wrap_u32, IntKind.wrap_u8]; done)); intro w9 hw; have hg : wr.grownBy w9 (some go7) := (by rw [hw]; exact HP8.2); have hp_ : Kd.R (Kd.int .u8) 5 w9 w.heap.size (fun _ => True) (.slice (some ⟨go7, 0, none⟩) x1_1.length co7) y104 := (by rw [hw, Ny104.out]; exact HP8.1); clear HP8; have n0_ := Aside0.mk (hp_); have n1_ := Aside0.mk ((by rw [hw]; exact below_set (HB.out) GB7.out : Below w.heap.size w w9)); clear HO_1; clear HB; have HO_1 := n0_; have HB := n1_; clear n0_ n1_; clear hg hw hp_))
              go_roundg k1
              case measure => have := HK1.out; omega
              case rel => exact ⟨(y104), (wrap64 (x2_1 + 1)), (by first | rfl | (simp; done) | (simp [*]; done) | (simp; omega)), H', ⟨by have := HK1.out; omega⟩, ⟨by (with_reducible repeat (first | apply Kd.R_alloc | apply Kd.R_drewN | apply Kd.R_drew)); exact HO_1.out⟩, ⟨by repeat (first | (with_reducible first | exact HB.out | apply below_alloc | apply pw_below_drewN | apply below_drew1) | exact HB.out)⟩⟩
            · rw [if_neg c6] at H
              exact absurd H (by simp)
          · rw [if_neg c5] at H
            exact absurd H (by simp)
        · rw [if_neg c4] at H
          have c4b0 : decide (x2_1 < 72) = false := decide_eq_false c4
          clear c4
          obtain rfl := Option.some.inj H
          have hcv10 := own_string (P := Try.prog) Try.underlying29 Try.underlying5 Try.underlying9 (Kd.own_of_R HO_1.out)
          go_wp2
          go_ret
          exact ⟨by first | rfl | (simp [errW_none, errW_some] <;> rfl) | (simp [*, errW_none, errW_some] <;> rfl), by repeat (first | (with_reducible first | exact HB.out | apply below_alloc | apply pw_below_drewN | apply below_drew1) | exact HB.out)⟩
  · rw [if_neg c1] at H
    exact absurd H (by simp)

/-! ### padlockref06_Zeros: function 102 -/
def padlockref06_Zeros.f  : Option (ByteArray) := if 72 ≤ 281474976710656 then (some (strOfNums (List.replicate 72 0))) else (none)
set_option maxHeartbeats 8000000 in
set_option maxRecDepth 100000 in
theorem padlockref06_Zeros.calls  (r : ByteArray) (w : World) (h : padlockref06_Zeros.f  = some r) :
    Calls Try.prog 102 #[] w fun e w' => e = .returned (.string r) ∧ Below w.heap.size w w' := by
  have HB := Aside0.mk (Below.refl w.heap.size w)
  have H : (if 72 ≤ 281474976710656 then (some (strOfNums (List.replicate 72 0))) else (none)) = some r := h
  clear h
  by_cases c1 : 72 ≤ 281474976710656
  · rw [if_pos c1] at H
    have c1b0 := eq_true c1
    have c1b1 : decide (72 ≤ 281474976710656) = true := decide_eq_true c1
    clear c1
    obtain ⟨y105, hy105⟩ : ∃ y_ : List Int, y_ = (List.replicate 72 0) := ⟨_, rfl⟩
    replace H : (some (strOfNums y105)) = some r := by first | (rw [hy105]; with_reducible exact H) | (have H2_ := (Option.bind_some _ _).symm.trans H; rw [hy105]; with_reducible exact H2_) | (have H2_ := (Option.bind_some _ _).symm.trans H; with_reducible exact H2_) | with_reducible exact H | (rw [hy105]; exact H) | exact H
    have Ny105 := Aside0.mk hy105
    clear hy105
    obtain rfl := Option.some.inj H
    go_enter Try.func102, Try.ntmps102
    go_wp2_with (first | ((with_reducible refine gate_dst (N := 1) rfl ?_); refine Kd.R_make (Kd.int .u8) _ 5 rfl (N := 1) rfl 29 _ _ rfl 72 rfl rfl Try.underlying29 (.int .u8 0) 1 info5 rfl (by decide) (by omega) 0 (ok := fun _ => True) (okp := fun _ => True) rfl (fun _ hk => hk) trivial (by omega) (by omega) (Below.refl _ _) (Nat.le_refl _) ?_; intro v106 w2 ho3 hb hg_ hnew_; clear hg_ hnew_; (first | rw [← Ny105.out] at ho3 | (simp only [Int.reduceToNat] at ho3; rw [← Ny105.out] at ho3)); have n0_ := Aside0.mk (Kd.R_lower ho3 (below_size (by repeat (first | (with_reducible first | exact HB.out | apply below_alloc | apply pw_below_drewN | apply below_drew1) | exact HB.out)))); have n1_ := Aside0.mk (below_step (by repeat (first | (with_reducible first | exact HB.out | apply below_alloc | apply pw_below_drewN | apply below_drew1) | exact HB.out)) hb); clear HB; have HO107 := n0_; have HB := n1_; clear n0_ n1_; clear hb ho3; have hcv4 := own_string (P := Try.prog) Try.underlying29 Try.underlying5 Try.underlying9 (Kd.own_of_R HO107.out)))
    go_ret
    exact ⟨by first | rfl | (simp [errW_none, errW_some] <;> rfl) | (simp [*, errW_none, errW_some] <;> rfl), by repeat (first | (with_reducible first | exact HB.out | apply below_alloc | apply pw_below_drewN | apply below_drew1) | exact HB.out)⟩
  · rw [if_neg c1] at H
    exact absurd H (by simp)

-- NOT PRINTED: function 47 (padlocklaw06_knows)

-- NOT PRINTED: function 49 (padlockref06_New)

/-- A state of type 156 at block g of W; what its slices lead to came in by w0. -/
def IsS156 (w0 W : World) (g : Nat) (f0 : List ByteArray) (f1 : List ByteArray) (f2 : List ByteArray) : Prop := ∃ A0 c0, ∃ A1 c1, ∃ A2 c2, W.heap[g]? = some (.cells #[.slice A0 f0.length c0, .slice A1 f1.length c1, .slice A2 f2.length c2] 156 (0, 0)) ∧ w0.heap.size ≤ g ∧ Kd.C Kd.string w0 A0 f0.length f0 ∧ Kd.C Kd.string w0 A1 f1.length f1 ∧ Kd.C Kd.string w0 A2 f2.length f2
theorem IsS156.grown {w0 W : World} {g : Nat} {f0 : List ByteArray} {f1 : List ByteArray} {f2 : List ByteArray} {W1 : World} {row : Option Nat} (h : IsS156 w0 W g f0 f1 f2) (hw : W.grownBy W1 row) (hne : some g ≠ row) : IsS156 w0 W1 g f0 f1 f2 := by
  obtain ⟨A0, c0, A1, c1, A2, c2, hb, hg, hr0, hr1, hr2⟩ := h
  exact ⟨A0, c0, A1, c1, A2, c2, blk_grown hb hw hne, hg, hr0, hr1, hr2⟩
theorem IsS156.own_neN {w0 W : World} {g : Nat} {f0 : List ByteArray} {f1 : List ByteArray} {f2 : List ByteArray} {α : Type} {d : Kd α} {e : Nat} {base : Nat} {ok : Nat → Prop} {v : Value} {xs : List α} (h : IsS156 w0 W g f0 f1 f2) (ho : Kd.N d e W base ok v xs) (ht : e ≠ 156) : some g ≠ v.ownBlock := by
  obtain ⟨A0, c0, A1, c1, A2, c2, hb, hg, hr0, hr1, hr2⟩ := h
  exact Kd.N_ne ho hb ht
theorem IsS156.fresh {w0 W : World} {g : Nat} {f0 : List ByteArray} {f1 : List ByteArray} {f2 : List ByteArray} (h : IsS156 w0 W g f0 f1 f2) : ∀ k, W.heap.size ≤ k → k ≠ g := by
  obtain ⟨A0, c0, A1, c1, A2, c2, hb, hg, hr0, hr1, hr2⟩ := h
  exact Kd.freshB hb
theorem IsS156.kept {w0 W : World} {g : Nat} {f0 : List ByteArray} {f1 : List ByteArray} {f2 : List ByteArray} {W1 : World} {S : Nat → Prop} (h : IsS156 w0 W g f0 f1 f2) (hk : Kept W W1 S) (hne : ¬ S g) : IsS156 w0 W1 g f0 f1 f2 := by
  obtain ⟨A0, c0, A1, c1, A2, c2, hb, hg, hr0, hr1, hr2⟩ := h
  exact ⟨A0, c0, A1, c1, A2, c2, blk_kept hb hk hne, hg, hr0, hr1, hr2⟩
theorem IsS156.below {w0 W : World} {g : Nat} {f0 : List ByteArray} {f1 : List ByteArray} {f2 : List ByteArray} {W1 : World} (h : IsS156 w0 W g f0 f1 f2) (hw : Below W.heap.size W W1) : IsS156 w0 W1 g f0 f1 f2 := h.grown (grown_of_below hw none) (by simp)
theorem IsS156.alloc {w0 W : World} {g : Nat} {f0 : List ByteArray} {f1 : List ByteArray} {f2 : List ByteArray} (h : IsS156 w0 W g f0 f1 f2) (o : Obj) : IsS156 w0 (W.alloc o) g f0 f1 f2 := h.below (below_alloc (Below.refl _ _) o)
theorem IsS156.drewN {w0 W : World} {g : Nat} {f0 : List ByteArray} {f1 : List ByteArray} {f2 : List ByteArray} (h : IsS156 w0 W g f0 f1 f2) (m : Nat) : IsS156 w0 (W.drewN m) g f0 f1 f2 := h
theorem IsS156.drew {w0 W : World} {g : Nat} {f0 : List ByteArray} {f1 : List ByteArray} {f2 : List ByteArray} (h : IsS156 w0 W g f0 f1 f2) : IsS156 w0 W.drew g f0 f1 f2 := h
theorem IsS156.at_ {w0 W : World} {g : Nat} {f0 : List ByteArray} {f1 : List ByteArray} {f2 : List ByteArray} {w' : World} {m : Nat} (hq : W.drewN m = w') (h : IsS156 w0 W g f0 f1 f2) : IsS156 w0 w' g f0 f1 f2 := by subst hq; exact IsS156.drewN h m
theorem IsS156.apart {w0 W : World} {g : Nat} {f0 : List ByteArray} {f1 : List ByteArray} {f2 : List ByteArray} {α : Type} {d : Kd α} {e : Nat} {base : Nat} {ok : Nat → Prop} {v : Value} {xs : List α} (h : IsS156 w0 W g f0 f1 f2) (ho : d.R e W base ok v xs) (ht : ∀ q, q ∈ e :: d.E → q ≠ 156) : d.R e W base (fun k => ok k ∧ k ≠ g) v xs := by
  obtain ⟨A0, c0, A1, c1, A2, c2, hb, hg, hr0, hr1, hr2⟩ := h
  exact Kd.R_types ho hb ht
theorem IsS156.own_ne {w0 W : World} {g : Nat} {f0 : List ByteArray} {f1 : List ByteArray} {f2 : List ByteArray} {α : Type} {d : Kd α} {e : Nat} {base : Nat} {ok : Nat → Prop} {v : Value} {xs : List α} (h : IsS156 w0 W g f0 f1 f2) (ho : d.R e W base ok v xs) (ht : e ≠ 156) : some g ≠ v.ownBlock := by
  obtain ⟨A0, c0, A1, c1, A2, c2, hb, hg, hr0, hr1, hr2⟩ := h
  exact Kd.R_ne ho hb ht
theorem IsS156.apartQ {w0 W : World} {g : Nat} {f0 : List ByteArray} {f1 : List ByteArray} {f2 : List ByteArray} {α : Type} {d : Kd α} {e : Nat} {base : Nat} {ok : Nat → Prop} {v : Value} {xs : List α} (h : IsS156 w0 W g f0 f1 f2) (ho : d.Q e W base ok v xs) (ht : ∀ q, q ∈ e :: d.E → q ≠ 156) : d.Q e W base (fun k => ok k ∧ k ≠ g) v xs := by
  obtain ⟨A0, c0, A1, c1, A2, c2, hb, hg, hr0, hr1, hr2⟩ := h
  exact Kd.Q_types ho hb ht
theorem IsS156.own_neQ {w0 W : World} {g : Nat} {f0 : List ByteArray} {f1 : List ByteArray} {f2 : List ByteArray} {α : Type} {d : Kd α} {e : Nat} {base : Nat} {ok : Nat → Prop} {v : Value} {xs : List α} (h : IsS156 w0 W g f0 f1 f2) (ho : d.Q e W base ok v xs) (ht : e ≠ 156) : some g ≠ v.ownBlock := by
  obtain ⟨A0, c0, A1, c1, A2, c2, hb, hg, hr0, hr1, hr2⟩ := h
  exact Kd.Q_ne ho hb ht
theorem IsS156.apartS {w0 W : World} {g : Nat} {f0 : List ByteArray} {f1 : List ByteArray} {f2 : List ByteArray} {α : Type} {d : Kd α} {e : Nat} {base : Nat} {ok : Nat → Prop} {v : Value} {xs : List α} (h : IsS156 w0 W g f0 f1 f2) (ho : d.S e W base ok v xs) (ht : ∀ q, q ∈ e :: d.E → q ≠ 156) : d.S e W base (fun k => ok k ∧ k ≠ g) v xs := by
  obtain ⟨A0, c0, A1, c1, A2, c2, hb, hg, hr0, hr1, hr2⟩ := h
  exact Kd.S_types ho hb ht
theorem IsS156.own_neS {w0 W : World} {g : Nat} {f0 : List ByteArray} {f1 : List ByteArray} {f2 : List ByteArray} {α : Type} {d : Kd α} {e : Nat} {base : Nat} {ok : Nat → Prop} {v : Value} {xs : List α} (h : IsS156 w0 W g f0 f1 f2) (ho : d.S e W base ok v xs) (ht : e ≠ 156) : some g ≠ v.ownBlock := by
  obtain ⟨A0, c0, A1, c1, A2, c2, hb, hg, hr0, hr1, hr2⟩ := h
  exact Kd.S_ne ho hb ht
theorem IsS156.lt {w0 W : World} {g : Nat} {f0 : List ByteArray} {f1 : List ByteArray} {f2 : List ByteArray} (h : IsS156 w0 W g f0 f1 f2) : g < W.heap.size := by
  obtain ⟨A0, c0, A1, c1, A2, c2, hb, hg, hr0, hr1, hr2⟩ := h
  exact blk_lt hb
theorem IsS156.ge {w0 W : World} {g : Nat} {f0 : List ByteArray} {f1 : List ByteArray} {f2 : List ByteArray} (h : IsS156 w0 W g f0 f1 f2) : w0.heap.size ≤ g := by
  obtain ⟨A0, c0, A1, c1, A2, c2, hb, hg, hr0, hr1, hr2⟩ := h
  exact hg
theorem IsS156.ne_blk {w0 W : World} {g : Nat} {f0 : List ByteArray} {f1 : List ByteArray} {f2 : List ByteArray} {a : Nat} {cs : Array Value} {t : TypeId} {fr : Nat × Nat} (h : IsS156 w0 W g f0 f1 f2) (hb2 : W.heap[a]? = some (.cells cs t fr)) (ht : t ≠ 156) : g ≠ a := by
  obtain ⟨A0, c0, A1, c1, A2, c2, hb, hg, hr0, hr1, hr2⟩ := h
  rintro rfl
  rw [hb] at hb2
  injection hb2 with hb2
  injection hb2 with _ ht2
  exact ht ht2.symm
theorem IsS156.far {w0 W : World} {g : Nat} {f0 : List ByteArray} {f1 : List ByteArray} {f2 : List ByteArray} {p : Addr} (h : IsS156 w0 W g f0 f1 f2) (hne : g ≠ p.block) (u : Value) : IsS156 w0 (W.setCell p u) g f0 f1 f2 := by
  obtain ⟨A0, c0, A1, c1, A2, c2, hb, hg, hr0, hr1, hr2⟩ := h
  exact ⟨A0, c0, A1, c1, A2, c2, blk_far hb hne u, hg, hr0, hr1, hr2⟩
theorem cellS156_0 {W : World} {g : Nat} {A0 : Option Addr} {c0 : Nat} {A1 : Option Addr} {c1 : Nat} {A2 : Option Addr} {c2 : Nat} {f0 : List ByteArray} {f1 : List ByteArray} {f2 : List ByteArray} (h : W.heap[g]? = some (.cells #[.slice A0 f0.length c0, .slice A1 f1.length c1, .slice A2 f2.length c2] 156 (0, 0))) : W.cell? ⟨g, 0, none⟩ = some (.slice A0 f0.length c0) := (blk_cell h 0).trans rfl
theorem cellS156_1 {W : World} {g : Nat} {A0 : Option Addr} {c0 : Nat} {A1 : Option Addr} {c1 : Nat} {A2 : Option Addr} {c2 : Nat} {f0 : List ByteArray} {f1 : List ByteArray} {f2 : List ByteArray} (h : W.heap[g]? = some (.cells #[.slice A0 f0.length c0, .slice A1 f1.length c1, .slice A2 f2.length c2] 156 (0, 0))) : W.cell? ⟨g, 1, none⟩ = some (.slice A1 f1.length c1) := (blk_cell h 1).trans rfl
theorem cellS156_2 {W : World} {g : Nat} {A0 : Option Addr} {c0 : Nat} {A1 : Option Addr} {c1 : Nat} {A2 : Option Addr} {c2 : Nat} {f0 : List ByteArray} {f1 : List ByteArray} {f2 : List ByteArray} (h : W.heap[g]? = some (.cells #[.slice A0 f0.length c0, .slice A1 f1.length c1, .slice A2 f2.length c2] 156 (0, 0))) : W.cell? ⟨g, 2, none⟩ = some (.slice A2 f2.length c2) := (blk_cell h 2).trans rfl
theorem IsS156.new (w0 W : World) (A0 : Option Addr) (c0 : Nat) (A1 : Option Addr) (c1 : Nat) (A2 : Option Addr) (c2 : Nat) (f0 : List ByteArray) (f1 : List ByteArray) (f2 : List ByteArray) (hB : Below w0.heap.size w0 W) (hr0 : Kd.C Kd.string w0 A0 f0.length f0) (hr1 : Kd.C Kd.string w0 A1 f1.length f1) (hr2 : Kd.C Kd.string w0 A2 f2.length f2) : IsS156 w0 (W.alloc (.cells #[.slice A0 f0.length c0, .slice A1 f1.length c1, .slice A2 f2.length c2] 156)) W.heap.size f0 f1 f2 := ⟨A0, c0, A1, c1, A2, c2, by simpa using heap_alloc_new W _, hB.size, hr0, hr1, hr2⟩

/-! ### padlockref06_Disk_Read: function 55 -/
def padlockref06_Disk_Read.f (s0_0 : List ByteArray) (s0_1 : List ByteArray) (s0_2 : List ByteArray) (a1 : Int) : Option (ByteArray) := if 0 ≤ a1 then (if a1 < (s0_1.length : Int) then (if (rdOf ByteArray.empty s0_1 a1).toList = ([] : List UInt8) then (if a1 < (s0_0.length : Int) then (some (rdOf ByteArray.empty s0_0 a1)) else (none)) else (some (rdOf ByteArray.empty s0_1 a1))) else (none)) else (none)
set_option maxHeartbeats 8000000 in
set_option maxRecDepth 100000 in
theorem padlockref06_Disk_Read.calls (g : Nat) (s0_0 : List ByteArray) (s0_1 : List ByteArray) (s0_2 : List ByteArray) (a1 : Int) (r : ByteArray) (w0 w : World) (hI : IsS156 w0 w g s0_0 s0_1 s0_2) (hB : Below w0.heap.size w0 w) (h : padlockref06_Disk_Read.f s0_0 s0_1 s0_2 a1 = some r) :
    Calls Try.prog 55 #[.pointer (some ⟨g, 0, none⟩), .int .i64 a1] w fun e w' => e = .returned (.string r) ∧ IsS156 w0 w' g s0_0 s0_1 s0_2 ∧ Below w0.heap.size w0 w' ∧ KeepBut w w' g none := by
  have HI0 := Aside0.mk hI
  have HK := Aside0.mk (KeepBut.refl w g none)
  have HL := Aside0.mk hB.size
  clear hI
  have HW0 := Aside0.mk hB.size
  have HB := Aside0.mk hB
  clear hB
  have H : (if 0 ≤ a1 then (if a1 < (s0_1.length : Int) then (if (rdOf ByteArray.empty s0_1 a1).toList = ([] : List UInt8) then (if a1 < (s0_0.length : Int) then (some (rdOf ByteArray.empty s0_0 a1)) else (none)) else (some (rdOf ByteArray.empty s0_1 a1))) else (none)) else (none)) = some r := h
  clear h
  by_cases c3 : 0 ≤ a1
  · rw [if_pos c3] at H
    have c3b0 : decide (0 ≤ a1) = true := decide_eq_true c3
    clear c3
    by_cases c4 : a1 < (s0_1.length : Int)
    · rw [if_pos c4] at H
      have c4b0 : decide (a1 < (s0_1.length : Int)) = true := decide_eq_true c4
      clear c4
      by_cases c5 : (rdOf ByteArray.empty s0_1 a1).toList = ([] : List UInt8)
      · rw [if_pos c5] at H
        have c5b0 : ((rdOf ByteArray.empty s0_1 a1).toList == ([] : List UInt8)) = true := beq_iff_eq.mpr c5
        have c5b1 : ((rdOf ByteArray.empty s0_1 a1).toList != ([] : List UInt8)) = false := bne_eq_false_iff_eq.mpr c5
        clear c5
        by_cases c6 : a1 < (s0_0.length : Int)
        · rw [if_pos c6] at H
          have c6b0 : decide (a1 < (s0_0.length : Int)) = true := decide_eq_true c6
          clear c6
          obtain rfl := Option.some.inj H
          obtain ⟨ASz7_0, cSz7_0, ASz7_1, cSz7_1, ASz7_2, cSz7_2, HGz7, hgz7, HSz7_0, HSz7_1, HSz7_2⟩ := HI0.out
          have hcz7_0 := cellS156_0 HGz7
          have hcz7_1 := cellS156_1 HGz7
          have hcz7_2 := cellS156_2 HGz7
          clear HGz7 hgz7
          have p120 : 0 ≤ (a1 : Int) := of_decide_eq_true (by first | (with_reducible assumption) | assumption)
          have q120 : a1 < (s0_1.length : Int) := of_decide_eq_true (by first | (with_reducible assumption) | assumption)
          obtain ⟨ad120, e120, hx120_0⟩ := Kd.at_string HSz7_1 a1 p120 q120
          cases e120
          replace hx120_0 := pw_cell_below HB.out hx120_0
          replace p120 := eq_true p120
          replace q120 := eq_true q120
          have p121 : 0 ≤ (a1 : Int) := of_decide_eq_true (by first | (with_reducible assumption) | assumption)
          have q121 : a1 < (s0_0.length : Int) := of_decide_eq_true (by first | (with_reducible assumption) | assumption)
          obtain ⟨ad121, e121, hx121_0⟩ := Kd.at_string HSz7_0 a1 p121 q121
          cases e121
          replace hx121_0 := pw_cell_below HB.out hx121_0
          replace p121 := eq_true p121
          replace q121 := eq_true q121
          go_enter Try.func55, Try.ntmps55
          go_wp2
          go_ret
          exact ⟨by first | rfl | (simp [errW_none, errW_some] <;> rfl) | (simp [*, errW_none, errW_some] <;> rfl), by repeat (first | (with_reducible first | exact HI0.out | apply IsS156.alloc | apply IsS156.drewN | apply IsS156.drew) | exact HI0.out), by repeat (first | (with_reducible first | exact HB.out | apply below_alloc | apply pw_below_drewN | apply below_drew1 | refine below_set ?_ (IsS156.ge HI0.out)) | exact HB.out), by repeat (first | (with_reducible first | exact HK.out | apply KeepBut.set_ | apply keep_drewN | apply keep_drew | apply keep_alloc) | exact HK.out)⟩
        · rw [if_neg c6] at H
          exact absurd H (by simp)
      · rw [if_neg c5] at H
        have c5b0 : ((rdOf ByteArray.empty s0_1 a1).toList == ([] : List UInt8)) = false := beq_eq_false_iff_ne.mpr c5
        have c5b1 : ((rdOf ByteArray.empty s0_1 a1).toList != ([] : List UInt8)) = true := bne_iff_ne.mpr c5
        obtain rfl := Option.some.inj H
        obtain ⟨ASz8_0, cSz8_0, ASz8_1, cSz8_1, ASz8_2, cSz8_2, HGz8, hgz8, HSz8_0, HSz8_1, HSz8_2⟩ := HI0.out
        have hcz8_0 := cellS156_0 HGz8
        have hcz8_1 := cellS156_1 HGz8
        have hcz8_2 := cellS156_2 HGz8
        clear HGz8 hgz8
        have p120 : 0 ≤ (a1 : Int) := of_decide_eq_true (by first | (with_reducible assumption) | assumption)
        have q120 : a1 < (s0_1.length : Int) := of_decide_eq_true (by first | (with_reducible assumption) | assumption)
        obtain ⟨ad120, e120, hx120_0⟩ := Kd.at_string HSz8_1 a1 p120 q120
        cases e120
        replace hx120_0 := pw_cell_below HB.out hx120_0
        replace p120 := eq_true p120
        replace q120 := eq_true q120
        have p122 : 0 ≤ (a1 : Int) := of_decide_eq_true (by first | (with_reducible assumption) | assumption)
        have q122 : a1 < (s0_1.length : Int) := of_decide_eq_true (by first | (with_reducible assumption) | assumption)
        obtain ⟨ad122, e122, hx122_0⟩ := Kd.at_string HSz8_1 a1 p122 q122
        obtain rfl : ad120 = ad122 := (by injection e122)
        replace hx122_0 := pw_cell_below HB.out hx122_0
        replace p122 := eq_true p122
        replace q122 := eq_true q122
        go_enter Try.func55, Try.ntmps55
        go_wp2
        go_ret
        exact ⟨by first | rfl | (simp [errW_none, errW_some] <;> rfl) | (simp [*, errW_none, errW_some] <;> rfl), by repeat (first | (with_reducible first | exact HI0.out | apply IsS156.alloc | apply IsS156.drewN | apply IsS156.drew) | exact HI0.out), by repeat (first | (with_reducible first | exact HB.out | apply below_alloc | apply pw_below_drewN | apply below_drew1 | refine below_set ?_ (IsS156.ge HI0.out)) | exact HB.out), by repeat (first | (with_reducible first | exact HK.out | apply KeepBut.set_ | apply keep_drewN | apply keep_drew | apply keep_alloc) | exact HK.out)⟩
    · rw [if_neg c4] at H
      exact absurd H (by simp)
  · rw [if_neg c3] at H
    exact absurd H (by simp)

/-! ### padlockref06_Disk_Has: function 65 -/
def padlockref06_Disk_Has.f (s0_0 : List ByteArray) (s0_1 : List ByteArray) (s0_2 : List ByteArray) (a1 : Int) : Option (Bool) := if a1 ≥ 0 then (some (decide (a1 < (s0_0.length : Int)))) else (some false)
set_option maxHeartbeats 8000000 in
set_option maxRecDepth 100000 in
theorem padlockref06_Disk_Has.calls (g : Nat) (s0_0 : List ByteArray) (s0_1 : List ByteArray) (s0_2 : List ByteArray) (a1 : Int) (r : Bool) (w0 w : World) (hI : IsS156 w0 w g s0_0 s0_1 s0_2) (hB : Below w0.heap.size w0 w) (h : padlockref06_Disk_Has.f s0_0 s0_1 s0_2 a1 = some r) :
    Calls Try.prog 65 #[.pointer (some ⟨g, 0, none⟩), .int .i64 a1] w fun e w' => e = .returned (.bool r) ∧ IsS156 w0 w' g s0_0 s0_1 s0_2 ∧ Below w0.heap.size w0 w' ∧ KeepBut w w' g none := by
  have HI0 := Aside0.mk hI
  have HK := Aside0.mk (KeepBut.refl w g none)
  have HL := Aside0.mk hB.size
  clear hI
  have HW0 := Aside0.mk hB.size
  have HB := Aside0.mk hB
  clear hB
  have H : (if a1 ≥ 0 then (some (decide (a1 < (s0_0.length : Int)))) else (some false)) = some r := h
  clear h
  by_cases c3 : a1 ≥ 0
  · rw [if_pos c3] at H
    have c3b0 : decide (0 ≤ a1) = true := decide_eq_true c3
    clear c3
    obtain rfl := Option.some.inj H
    obtain ⟨ASz4_0, cSz4_0, ASz4_1, cSz4_1, ASz4_2, cSz4_2, HGz4, hgz4, HSz4_0, HSz4_1, HSz4_2⟩ := HI0.out
    have hcz4_0 := cellS156_0 HGz4
    have hcz4_1 := cellS156_1 HGz4
    have hcz4_2 := cellS156_2 HGz4
    clear HGz4 hgz4
    go_enter Try.func65, Try.ntmps65
    go_wp2
    go_ret
    exact ⟨by first | rfl | (simp [errW_none, errW_some] <;> rfl) | (simp [*, errW_none, errW_some] <;> rfl), by repeat (first | (with_reducible first | exact HI0.out | apply IsS156.alloc | apply IsS156.drewN | apply IsS156.drew) | exact HI0.out), by repeat (first | (with_reducible first | exact HB.out | apply below_alloc | apply pw_below_drewN | apply below_drew1 | refine below_set ?_ (IsS156.ge HI0.out)) | exact HB.out), by repeat (first | (with_reducible first | exact HK.out | apply KeepBut.set_ | apply keep_drewN | apply keep_drew | apply keep_alloc) | exact HK.out)⟩
  · rw [if_neg c3] at H
    have c3b0 : decide (0 ≤ a1) = false := decide_eq_false c3
    clear c3
    obtain rfl := Option.some.inj H
    go_enter Try.func65, Try.ntmps65
    go_wp2
    go_ret
    exact ⟨by first | rfl | (simp [errW_none, errW_some] <;> rfl) | (simp [*, errW_none, errW_some] <;> rfl), by repeat (first | (with_reducible first | exact HI0.out | apply IsS156.alloc | apply IsS156.drewN | apply IsS156.drew) | exact HI0.out), by repeat (first | (with_reducible first | exact HB.out | apply below_alloc | apply pw_below_drewN | apply below_drew1 | refine below_set ?_ (IsS156.ge HI0.out)) | exact HB.out), by repeat (first | (with_reducible first | exact HK.out | apply KeepBut.set_ | apply keep_drewN | apply keep_drew | apply keep_alloc) | exact HK.out)⟩

-- NOT PRINTED: function 51 (padlockref06_Disk_Write)

-- NOT PRINTED: function 52 (disk_Disk_Flush)

-- NOT PRINTED: function 10 (padlocklaw06_DiskKeeps)

end Go.Proofs.Ytoiiacbbfhlocaa.Dr
