/- Layer 6: a disk's Alter, Swap, Back. -/
import Derived.Test.YtoiiacbbfhlocaaHDf
set_option linter.unusedVariables false
set_option linter.unusedSimpArgs false
namespace Go.Proofs.Ytoiiacbbfhlocaa.HDa
open Go.RowKit Go.Proofs.YtoiiacbbfhlocaaW.PrintWords Go.Proofs.YtoiiacbbfhlocaaW.PrintLast Go.Proofs.YtoiiacbbfhlocaaW.PrintMore Go.Proofs.Ytoiiacbbfhlocaa.Kit
def setNow (b : Blk) (xs : List Int) : Blk := if b.q then { b with f := xs } else { b with d := xs }
def nowOff (i : Nat) (b : Blk) : Nat := if b.q then i * 217 + 72 else i * 217
theorem bxor_byte (x y : Int) (hx : 0 ≤ x ∧ x ≤ 255) (hy : 0 ≤ y ∧ y ≤ 255) : 0 ≤ Go.bits .xor .u8 x y ∧ Go.bits .xor .u8 x y ≤ 255 := by
  obtain ⟨a, rfl⟩ := Int.eq_ofNat_of_zero_le hx.1
  obtain ⟨b, rfl⟩ := Int.eq_ofNat_of_zero_le hy.1
  have ha : a < 2 ^ 8 := by omega
  have hb : b < 2 ^ 8 := by omega
  rw [bits_xor_nat .u8 8 (by decide) (fun n h0 h1 => by simp [IntKind.wrap_u8]; omega) a b ha hb]
  have := Nat.xor_lt_two_pow ha hb
  omega
section
variable {base : Nat} {W : World} {g r : Nat} {L : List Blk} {i : Nat} {b : Blk}
theorem setNow_fine (h : b.Fine) {xs : List Int} (hl : xs.length = 72) (hx : Bytes xs) : (setNow b xs).Fine := by
  unfold setNow
  split
  · exact ⟨h.ld, hl, h.lp, h.bd, hx, h.bp⟩
  · exact ⟨hl, h.lf, h.lp, hx, h.bf, h.bp⟩
theorem DTab.nowAt (h : DTab base W g r L) (hb : L[i]? = some b) : W.rangeAt r (nowOff i b) (nums .u8 b.now) := by
  obtain ⟨h1, -⟩ := h.blk i b hb
  unfold nowOff Blk.now
  split
  · exact h1.f
  · exact h1.d
theorem DTab.setNow (h : DTab base W g r L) (hb : L[i]? = some b) (xs : List Int) (hl : xs.length = 72) (hx : Bytes xs) :
    DTab base (W.setCells r (nowOff i b) (nums .u8 xs)) g r (L.set i (setNow b xs)) ∧ KeepB [r] W (W.setCells r (nowOff i b) (nums .u8 xs)) ∧ Below base W (W.setCells r (nowOff i b) (nums .u8 xs)) := by
  unfold nowOff HDa.setNow
  cases hq : b.q with
  | true =>
    simp only [if_true]
    have := h.setF hb xs hl hx
    rw [hq] at this
    exact this
  | false =>
    simp only [Bool.false_eq_true, if_false]
    have := h.setD hb xs hl hx
    rw [hq] at this
    exact this
theorem nowOff_lt (hb : L[i]? = some b) : nowOff i b + 72 ≤ L.length * 217 := by
  have := at_lt hb
  unfold nowOff
  split <;> omega
/-- one number of a range is stored -/
theorem rangeAt_set1 {o j : Nat} {xs : List Int} {y : Int} (h : W.rangeAt r o (nums .u8 xs)) (hj : j < xs.length) : (W.setCell ⟨r, o + j, none⟩ (.int .u8 y)).rangeAt r o (nums .u8 (xs.set j y)) := fun k v hv => by
  have hk : k < xs.length := by have := (List.getElem?_eq_some_iff.1 hv).1; simpa [nums] using this
  have hk2 : k < (xs.set j y).length := by rw [List.length_set]; exact hk
  have hv' : v = .int .u8 (xs.set j y)[k] := by
    unfold nums at hv
    rw [List.getElem?_map, List.getElem?_eq_getElem hk2] at hv
    exact (Option.some.inj hv).symm
  have h0 := h k _ (show (nums .u8 xs)[k]? = some (.int .u8 xs[k]) from by unfold nums; rw [List.getElem?_map, List.getElem?_eq_getElem hk]; rfl)
  rw [hv']
  by_cases e : k = j
  · subst e
    rw [World.cell?_setCell_same _ _ _ h0, List.getElem_set_self]
  · rw [World.cell?_setCell_other _ _ _ _ (by intro e2; have := (Addr.mk.inj e2).2.1; omega), h0, List.getElem_set_ne (fun h => e h.symm)]
theorem DTab.alter (h : DTab base W g r L) (hb : L[i]? = some b) (j : Nat) (y : Int) (hj : j < 72) (hy : 0 ≤ y ∧ y ≤ 255) :
    DTab base (W.setCell ⟨r, nowOff i b + j, none⟩ (.int .u8 y)) g r (L.set i (HDa.setNow b (b.now.set j y))) ∧ KeepB [r] W (W.setCell ⟨r, nowOff i b + j, none⟩ (.int .u8 y)) ∧ Below base W (W.setCell ⟨r, nowOff i b + j, none⟩ (.int .u8 y)) := by
  obtain ⟨h1, h2⟩ := h.blk i b hb
  have hlt := at_lt hb
  have hx : Bytes (b.now.set j y) := fun x hx => by
    rcases List.mem_or_eq_of_mem_set hx with h | rfl
    · exact h2.now_bytes x h
    · exact ⟨hy.1, by omega⟩
  have hf := setNow_fine h2 (xs := b.now.set j y) (by rw [List.length_set]; exact h2.now_len) hx
  have hr := rangeAt_set1 (y := y) (h.nowAt hb) (show j < b.now.length from by rw [h2.now_len]; exact hj)
  have ld := h2.ld
  have lf := h2.lf
  have lp := h2.lp
  cases hq : b.q with
  | true =>
    have e1 : nowOff i b = i * 217 + 72 := by unfold nowOff; rw [hq]; rfl
    have e2 : HDa.setNow b (b.now.set j y) = { b with f := b.now.set j y } := by unfold HDa.setNow; rw [hq]; rfl
    rw [e1] at hr ⊢
    rw [e2] at hf ⊢
    rw [Nat.add_assoc] at hr ⊢
    refine h.set i b { b with f := b.now.set j y } hb (72 + j) [.int .u8 y] (by simp; omega) ⟨World.rangeAt_setCells_apart h1.d r _ [.int .u8 y] (by rw [nums_len]; simp; omega), hr, World.rangeAt_setCells_apart h1.p r _ [.int .u8 y] (by rw [nums_len]; simp; omega), ?_⟩ hf
    rw [World.cell?_setCells_out r [.int .u8 y] _ W ⟨r, i * 217 + 216, none⟩ (fun _ _ => by right; show i * 217 + (72 + j) + 1 ≤ i * 217 + 216; omega)]
    exact h1.q
  | false =>
    have e1 : nowOff i b = i * 217 := by unfold nowOff; rw [hq]; rfl
    have e2 : HDa.setNow b (b.now.set j y) = { b with d := b.now.set j y } := by unfold HDa.setNow; rw [hq]; rfl
    rw [e1] at hr ⊢
    rw [e2] at hf ⊢
    refine h.set i b { b with d := b.now.set j y } hb j [.int .u8 y] (by simp; omega) ⟨hr, World.rangeAt_setCells_apart h1.f r _ [.int .u8 y] (by rw [nums_len]; simp; omega), World.rangeAt_setCells_apart h1.p r _ [.int .u8 y] (by rw [nums_len]; simp; omega), ?_⟩ hf
    rw [World.cell?_setCells_out r [.int .u8 y] _ W ⟨r, i * 217 + 216, none⟩ (fun _ _ => by right; show i * 217 + j + 1 ≤ i * 217 + 216; omega)]
    exact h1.q
theorem now_off {W : World} {g r : Nat} {L : List Blk} {i : Nat} {b : Blk} (h : DTab base W g r L) (hb : L[i]? = some b) : Calls Try.prog 104 #[.pointer (some ⟨r, i * 217, none⟩)] W (TellsP (.pointer (some ⟨r, nowOff i b, none⟩)) W) := now_any (h.blk i b hb).1.q
end
def ToldOut (base g r : Nat) (ok : Bool) (L : List Blk) (w : World) (e : Ending) (w' : World) : Prop := e = .returned (.bool ok) ∧ DTab base w' g r L ∧ KeepB [r] w w' ∧ Below base w w'
theorem ToldOut.same {base g r : Nat} {L : List Blk} {w w' : World} (h : DTab base w g r L) (hb : Below w.heap.size w w') (ok : Bool) : ToldOut base g r ok L w (.returned (.bool ok)) w' := ⟨rfl, h.next hb, .of_below _ hb, hb.mono h.le⟩
section
variable {base : Nat} {w : World} {g r : Nat} {L : List Blk}
theorem alter_bad (h : DTab base w g r L) (hm : L.length ≤ 1000) (I at_ x : Int) (hi : ¬ ((0 ≤ I ∧ I < L.length) ∧ 0 ≤ at_ ∧ at_ < 72 ∧ x ≠ 0)) : Calls Try.prog 59 #[.pointer (some ⟨g, 0, none⟩), .int .i64 I, .int .i64 at_, .int .u8 x] w (ToldOut base g r false L w) := by
  have HT := Lib.hid h
  by_cases h1 : 0 ≤ I ∧ I < L.length
  · obtain ⟨k, rfl⟩ := Int.eq_ofNat_of_zero_le h1.1
    have hat := at_in h k (by omega) hm
    clear h
    by_cases h2 : at_ < 0
    · clear hi h1
      go_enter Try.func59, Try.ntmps59
      go_wp2_with (go_at_call 103; refine hat.mono ?_; rintro e w1 ⟨rfl, hb1⟩)
      go_ret
      exact .same HT.out hb1 _
    · by_cases h3 : at_ ≥ 72
      · clear hi h1
        go_enter Try.func59, Try.ntmps59
        go_wp2_with (go_at_call 103; refine hat.mono ?_; rintro e w1 ⟨rfl, hb1⟩)
        go_ret
        exact .same HT.out hb1 _
      · obtain rfl : x = 0 := by
          apply Classical.byContradiction
          intro hx
          exact hi ⟨h1, by omega, by omega, hx⟩
        clear hi h1
        go_enter Try.func59, Try.ntmps59
        go_wp2_with (go_at_call 103; refine hat.mono ?_; rintro e w1 ⟨rfl, hb1⟩)
        go_ret
        exact .same HT.out hb1 _
  · have hat := at_out h I h1
    clear h hi h1
    go_enter Try.func59, Try.ntmps59
    go_wp2_with (go_at_call 103; refine hat.mono ?_; rintro e w1 ⟨rfl, hb1⟩)
    go_ret
    exact .same HT.out hb1 _
set_option maxRecDepth 100000 in
set_option maxHeartbeats 4000000 in
theorem alter_in (h : DTab base w g r L) (hm : L.length ≤ 1000) (i : Nat) (b : Blk) (hb : L[i]? = some b) (at_ : Nat) (x : Int) (ha : at_ < 72) (hx : 0 ≤ x ∧ x ≤ 255) (hx0 : x ≠ 0) : Calls Try.prog 59 #[.pointer (some ⟨g, 0, none⟩), .int .i64 i, .int .i64 at_, .int .u8 x] w (ToldOut base g r true (L.set i (setNow b (b.now.set at_ (Go.bits .xor .u8 (b.now.getD at_ 0) x)))) w) := by
  have hat := at_in h i (List.getElem?_eq_some_iff.1 hb).1 hm
  have hfin := (h.blk i b hb).2
  obtain ⟨y, hy⟩ : ∃ y, y = b.now.getD at_ 0 := ⟨_, rfl⟩
  rw [← hy]
  have hyb : 0 ≤ y ∧ y ≤ 255 := by
    rw [hy, List.getD_eq_getElem?_getD, List.getElem?_eq_getElem (by rw [hfin.now_len]; exact ha)]
    have := hfin.now_bytes _ (List.getElem_mem (show at_ < b.now.length from by rw [hfin.now_len]; exact ha))
    exact ⟨this.1, by have := this.2; simp only [Option.getD_some]; omega⟩
  obtain ⟨o, ho⟩ : ∃ o, o = nowOff i b := ⟨_, rfl⟩
  have HN := Lib.hid (show ∀ W, DTab base W g r L → Calls Try.prog 104 #[.pointer (some ⟨r, i * 217, none⟩)] W (TellsP (.pointer (some ⟨r, o, none⟩)) W) from fun W hW => by rw [ho]; exact now_off hW hb)
  have HCY := Lib.hid (show ∀ W, DTab base W g r L → W.cell? ⟨r, o + at_, none⟩ = some (.int .u8 y) from fun W hW => by
    have hr := hW.nowAt hb
    rw [ho]
    refine hr at_ _ ?_
    have hl : at_ < b.now.length := by rw [hfin.now_len]; exact ha
    rw [hy]
    simp [nums, hl])
  have HST := Lib.hid (show ∀ W, DTab base W g r L → _ from fun W (hW : DTab base W g r L) => hW.alter hb at_ (Go.bits .xor .u8 y x) ha (bxor_byte y x hyb hx))
  rw [← ho] at HST
  have HT := Lib.hid h
  have ha1 : (at_ : Int) < 72 := by omega
  have ha2 : ¬ (at_ : Int) < 0 := by omega
  have ha3 : at_ ≤ 9223372036854775807 := by omega
  have ha4 : ¬ (at_ : Int) ≥ 72 := by omega
  have hcond : (decide ((at_ : Int) < 0) || decide (72 ≤ (at_ : Int)) || x == 0) = false := by
    rw [decide_eq_false ha2, decide_eq_false (by omega)]
    simpa using hx0
  clear h hfin hy hyb ho hb hx
  go_enter Try.func59, Try.ntmps59
  go_wp2_with (go_at_call 103; refine hat.mono ?_; rintro e w1 ⟨rfl, hb1⟩; have HT1 := Lib.hid (HT.out.next hb1); have hcy := HCY.out _ HT1.out; have HK1 := Lib.hid (KeepB.of_below [r] hb1); have HB1 := Lib.hid (hb1.mono HT.out.le); clear hb1)
  clear hat HT HCY
  refine l_region [8] (fun u => u.cell? ⟨r, o + at_, none⟩ = some (.int .u8 y)) (by kernel_rfl) 11 (by kernel_rfl) (by exact hcy) (fun hS => ?_)
  have HTd := Lib.hid (HT1.out.next (below_drew (Below.refl w1.heap.size w1)))
  have HKd := Lib.hid (HK1.out.next (below_drew (Below.refl w1.heap.size w1)))
  have HBd := Lib.hid (below_drew HB1.out)
  generalize hwd : w1.drew = wd at *
  clear hwd HT1 HB1 HK1 hcy
  refine l_take 0 (_) hS rfl rfl (by kernel_rfl) (by kernel_rfl) (by kernel_rfl) (fun _ _ _ h => h) rfl (fun w' hw' => run_move_at _ rfl w') ?_
  simp only [Act.put, List.setIfInBounds_toArray, List.set_cons_zero, List.set_cons_succ]
  refine l_take 2 (_) hS rfl rfl (by kernel_rfl) (by kernel_rfl) (by kernel_rfl) (fun _ _ _ h => h) rfl (fun w' hw' => run_move_at _ rfl w') ?_
  simp only [Act.put, List.setIfInBounds_toArray, List.set_cons_zero, List.set_cons_succ]
  refine l_take 6 (_) hS rfl rfl (by kernel_rfl) (by kernel_rfl) (by kernel_rfl) (fun _ _ _ h => h) rfl (fun w' hw' => run_move_at _ rfl w') ?_
  simp only [Act.put, List.setIfInBounds_toArray, List.set_cons_zero, List.set_cons_succ]
  refine l_one 1 rfl (by kernel_rfl) ?_
  refine gl_call rfl 104 _ _ Try.func104 (by kernel_rfl) rfl _ _ #[.pointer (some ⟨r, i * 217, none⟩)] rfl (by simp [Act.put, Act.eval]) (HN.out _ HTd.out) ?_
  rintro e w2 ⟨rfl, hb2⟩
  have HT2 := Lib.hid (HTd.out.next hb2)
  have HK2 := Lib.hid (HKd.out.next hb2)
  have HB2 := Lib.hid (HBd.out.trans (hb2.mono HTd.out.le))
  have hS2 := (hb2.cell (p := ⟨r, o + at_, none⟩) (World.block_lt_of_cell? _ _ hS)).trans hS
  refine ⟨_, rfl, hS2, ?_⟩
  simp only [Act.put, List.setIfInBounds_toArray, List.set_cons_zero, List.set_cons_succ]
  clear HTd HBd hb2 HKd
  refine l_take 3 (.pointer (some ⟨r, o, none⟩)) hS2 rfl rfl (by kernel_rfl) (by kernel_rfl) (by kernel_rfl) (fun _ _ _ h => h) rfl (fun w' hw' => by (unfold execOp; simp [go_sem, Act.put, Act.eval])) ?_
  simp only [Act.put, List.setIfInBounds_toArray, List.set_cons_zero, List.set_cons_succ]
  refine l_take 4 (.pointer (some ⟨r, o + at_, none⟩)) hS2 rfl rfl (by kernel_rfl) (by kernel_rfl) (by kernel_rfl) (fun _ _ _ h => h) rfl (fun w' hw' => by (have hc0 := ha1; have hc1 := ha2; have hc2 := ha3; unfold execOp; simp [go_sem, Act.put, Act.eval, hc0, hc1, hc2])) ?_
  simp only [Act.put, List.setIfInBounds_toArray, List.set_cons_zero, List.set_cons_succ]
  refine l_take 5 (.int .u8 y) hS2 rfl rfl (by kernel_rfl) (by kernel_rfl) (by kernel_rfl) (fun _ _ _ h => h) rfl (fun w' hw' => by (have hc0 := hw'; unfold execOp; simp [go_sem, Act.put, Act.eval, hc0])) ?_
  simp only [Act.put, List.setIfInBounds_toArray, List.set_cons_zero, List.set_cons_succ]
  refine l_take 7 (.int .u8 (Go.bits .xor .u8 y x)) hS2 rfl rfl (by kernel_rfl) (by kernel_rfl) (by kernel_rfl) (fun _ _ _ h => h) rfl (fun w' hw' => by (unfold execOp; simp [go_sem, Act.put, Act.eval])) ?_
  simp only [Act.put, List.setIfInBounds_toArray, List.set_cons_zero, List.set_cons_succ]
  refine l_one 8 rfl (by kernel_rfl) ?_
  refine gl_event (.pointer (some ⟨r, o, none⟩)) w2 rfl (by (unfold execOp; simp [go_sem, Act.put, Act.eval])) hS2 (fun hS => ?_)
  simp only [Act.put, List.setIfInBounds_toArray, List.set_cons_zero, List.set_cons_succ]
  refine l_take 9 (.pointer (some ⟨r, o + at_, none⟩)) hS2 rfl rfl (by kernel_rfl) (by kernel_rfl) (by kernel_rfl) (fun _ _ _ h => h) rfl (fun w' hw' => by (have hc0 := ha1; have hc1 := ha2; have hc2 := ha3; unfold execOp; simp [go_sem, Act.put, Act.eval, hc0, hc1, hc2])) ?_
  simp only [Act.put, List.setIfInBounds_toArray, List.set_cons_zero, List.set_cons_succ]
  have hfz := HT2.out.free (o + at_)
  obtain ⟨T3, K3, B3⟩ := HST.out _ HT2.out
  refine l_one 10 rfl (by kernel_rfl) ?_
  refine gl_last (w2.setCell ⟨r, o + at_, none⟩ (.int .u8 (Go.bits .xor .u8 y x))) (by kernel_rfl) rfl (by (have hc0 := hS2; have hc1 := hfz; unfold execOp; simp [go_sem, Act.put, Act.eval, hc0, hc1])) ?_
  simp only [Act.put, List.setIfInBounds_toArray, List.set_cons_zero, List.set_cons_succ]
  refine l_done (by kernel_rfl) ?_
  have F := Lib.hid (And.intro T3 (And.intro (HK2.out.trans K3) (HB2.out.trans B3)))
  clear T3 K3 B3 HT2 HB2 HK2 hS hS2 hfz
  generalize hw3 : w2.setCell ⟨r, o + at_, none⟩ (.int .u8 (Go.bits .xor .u8 y x)) = w3 at *
  clear hw3
  go_wp2
  go_ret
  exact ⟨rfl, F.out⟩
end
end Go.Proofs.Ytoiiacbbfhlocaa.HDa
