/- Layer 6: a disk's Swap and Back. -/
import Derived.Test.YtoiiacbbfhlocaaHDk
import Derived.LaidEqlPtr
set_option linter.unusedVariables false
set_option linter.unusedSimpArgs false
namespace Go.Proofs.Ytoiiacbbfhlocaa.HDa
open Go.RowKit Go.Proofs.YtoiiacbbfhlocaaW.PrintWords Go.Proofs.YtoiiacbbfhlocaaW.PrintLast Go.Proofs.YtoiiacbbfhlocaaW.PrintMore Go.Proofs.Ytoiiacbbfhlocaa.Kit
theorem eql_same (a : Addr) (W : World) : (binOp .eql 157 (.pointer (some a)) (.pointer (some a))).run Try.prog W = .ok (.bool true) W := by
  obtain ⟨j, hj, -⟩ := Option.map_eq_some_iff.1 info_blk
  exact run_eql_ptr_same W a Try.underlying157 hj
theorem eql_other {base : Nat} {W : World} {g r : Nat} {L : List Blk} (h : DTab base W g r L) (i k : Nat) (hne : i ≠ k) : (binOp .eql 157 (.pointer (some ⟨r, i * 217, none⟩)) (.pointer (some ⟨r, k * 217, none⟩))).run Try.prog W = .ok (.bool false) W := by
  obtain ⟨j, hj, hz⟩ := Option.map_eq_some_iff.1 info_blk
  simp only [Prod.mk.injEq] at hz
  obtain ⟨cs, hc, -⟩ := h.rws
  exact run_eql_ptr_other W Try.underlying157 hj (by rw [hz.2.1]; decide) (fun e => by have := (Addr.mk.inj e).2.1; omega) hc hc
section
variable {base : Nat} {w : World} {g r : Nat} {L : List Blk}
set_option maxRecDepth 100000 in
theorem swap_bad (h : DTab base w g r L) (hm : L.length ≤ 1000) (I K : Int) (hi : ¬ ((0 ≤ I ∧ I < L.length) ∧ (0 ≤ K ∧ K < L.length) ∧ I ≠ K)) : Calls Try.prog 61 #[.pointer (some ⟨g, 0, none⟩), .int .i64 I, .int .i64 K] w (ToldOut base g r false L w) := by
  have HT := Lib.hid h
  obtain ⟨pi, hpi⟩ : ∃ v, v = (if 0 ≤ I ∧ I < L.length then some (⟨r, I.toNat * 217, none⟩ : Addr) else none) := ⟨_, rfl⟩
  obtain ⟨pk, hpk⟩ : ∃ v, v = (if 0 ≤ K ∧ K < L.length then some (⟨r, K.toNat * 217, none⟩ : Addr) else none) := ⟨_, rfl⟩
  have key : ∀ (J : Int) (W : World), DTab base W g r L → Calls Try.prog 103 #[.pointer (some ⟨g, 0, none⟩), .int .i64 J] W (TellsP (.pointer (if 0 ≤ J ∧ J < L.length then some (⟨r, J.toNat * 217, none⟩ : Addr) else none)) W) := fun J W hW => by
    by_cases h1 : 0 ≤ J ∧ J < L.length
    · rw [if_pos h1]
      obtain ⟨k, rfl⟩ := Int.eq_ofNat_of_zero_le h1.1
      exact at_in hW k (by omega) hm
    · rw [if_neg h1]
      exact at_out hW J h1
  have H1 := Lib.hid (fun W (hW : DTab base W g r L) => key I W hW)
  have H2 := Lib.hid (fun W (hW : DTab base W g r L) => key K W hW)
  rw [← hpi] at H1
  rw [← hpk] at H2
  have hcase : pi = none ∨ (∃ a, pi = some a) ∧ (pk = none ∨ pi = pk) := by
    by_cases h1 : 0 ≤ I ∧ I < L.length
    · right
      rw [if_pos h1] at hpi
      refine ⟨⟨_, hpi⟩, ?_⟩
      by_cases h2 : 0 ≤ K ∧ K < L.length
      · right
        have e : I = K := Classical.byContradiction fun hne => hi ⟨h1, h2, hne⟩
        subst e
        rw [if_pos h1] at hpk
        rw [hpi, hpk]
      · left
        rw [hpk, if_neg h2]
    · left
      rw [hpi, if_neg h1]
  clear h hi key hpi hpk
  rcases hcase with rfl | ⟨⟨a, rfl⟩, rfl | rfl⟩
  · go_enter Try.func61, Try.ntmps61
    go_wp2_with (first
      | (go_at_call 103; refine (H2.out _ (HT.out.next hb1)).mono ?_; rintro e w2 ⟨rfl, hb2⟩; have HB2 := Lib.hid (below_next hb1 hb2))
      | (go_at_call 103; refine (H1.out _ HT.out).mono ?_; rintro e w1 ⟨rfl, hb1⟩))
    go_ret
    exact .same HT.out HB2.out _
  · go_enter Try.func61, Try.ntmps61
    go_wp2_with (first
      | (go_at_call 103; refine (H2.out _ (HT.out.next hb1)).mono ?_; rintro e w2 ⟨rfl, hb2⟩; have HB2 := Lib.hid (below_next hb1 hb2))
      | (go_at_call 103; refine (H1.out _ HT.out).mono ?_; rintro e w1 ⟨rfl, hb1⟩))
    go_ret
    exact .same HT.out HB2.out _
  · go_enter Try.func61, Try.ntmps61
    go_wp2_with (first
      | (go_at_call 103; refine (H2.out _ (HT.out.next hb1)).mono ?_; rintro e w2 ⟨rfl, hb2⟩; have heq := eql_same a w2; have HB2 := Lib.hid (below_next hb1 hb2))
      | (go_at_call 103; refine (H1.out _ HT.out).mono ?_; rintro e w1 ⟨rfl, hb1⟩))
    go_ret
    exact .same HT.out HB2.out _
set_option maxRecDepth 100000 in
set_option maxHeartbeats 4000000 in
theorem swap_in (h : DTab base w g r L) (hm : L.length ≤ 1000) (i k : Nat) (bi bk : Blk) (hbi : L[i]? = some bi) (hbk : L[k]? = some bk) (hne : i ≠ k) : Calls Try.prog 61 #[.pointer (some ⟨g, 0, none⟩), .int .i64 i, .int .i64 k] w (ToldOut base g r true ((L.set i (setNow bi bk.now)).set k (setNow bk bi.now)) w) := by
  have HA1 := Lib.hid (fun W (hW : DTab base W g r L) => at_in hW i (List.getElem?_eq_some_iff.1 hbi).1 hm)
  have HA2 := Lib.hid (fun W (hW : DTab base W g r L) => at_in hW k (List.getElem?_eq_some_iff.1 hbk).1 hm)
  have hfi := (h.blk i bi hbi).2
  have hfk := (h.blk k bk hbk).2
  obtain ⟨oi, hoi⟩ : ∃ o, o = nowOff i bi := ⟨_, rfl⟩
  obtain ⟨ok_, hok⟩ : ∃ o, o = nowOff k bk := ⟨_, rfl⟩
  obtain ⟨xi, hxi⟩ : ∃ x, x = bi.now := ⟨_, rfl⟩
  obtain ⟨xk, hxk⟩ : ∃ x, x = bk.now := ⟨_, rfl⟩
  have HN1 := Lib.hid (show ∀ W, DTab base W g r L → Calls Try.prog 104 #[.pointer (some ⟨r, i * 217, none⟩)] W (TellsP (.pointer (some ⟨r, oi, none⟩)) W) from fun W hW => by rw [hoi]; exact now_off hW hbi)
  have HN2 := Lib.hid (show ∀ W, DTab base W g r L → Calls Try.prog 104 #[.pointer (some ⟨r, k * 217, none⟩)] W (TellsP (.pointer (some ⟨r, ok_, none⟩)) W) from fun W hW => by rw [hok]; exact now_off hW hbk)
  have HRI := Lib.hid (show ∀ W, DTab base W g r L → W.rangeAt r oi (nums .u8 xi) from fun W hW => by rw [hoi, hxi]; exact hW.nowAt hbi)
  have HRK := Lib.hid (show ∀ W, DTab base W g r L → W.rangeAt r ok_ (nums .u8 xk) from fun W hW => by rw [hok, hxk]; exact hW.nowAt hbk)
  have HLI := Lib.hid (show xi.length = 72 from by rw [hxi]; exact hfi.now_len)
  have HLK := Lib.hid (show xk.length = 72 from by rw [hxk]; exact hfk.now_len)
  have HOI := Lib.hid (show oi + 72 ≤ L.length * 217 from by rw [hoi]; exact nowOff_lt hbi)
  have HOK := Lib.hid (show ok_ + 72 ≤ L.length * 217 from by rw [hok]; exact nowOff_lt hbk)
  have HS1 := Lib.hid (show ∀ W, DTab base W g r L → DTab base (W.setCells r oi (nums .u8 xk)) g r (L.set i (setNow bi bk.now)) ∧ KeepB [r] W (W.setCells r oi (nums .u8 xk)) ∧ Below base W (W.setCells r oi (nums .u8 xk)) from fun W hW => by rw [hoi, hxk]; exact hW.setNow hbi bk.now hfk.now_len hfk.now_bytes)
  have HS2 := Lib.hid (show ∀ W, DTab base W g r (L.set i (setNow bi bk.now)) → DTab base (W.setCells r ok_ (nums .u8 xi)) g r ((L.set i (setNow bi bk.now)).set k (setNow bk bi.now)) ∧ KeepB [r] W (W.setCells r ok_ (nums .u8 xi)) ∧ Below base W (W.setCells r ok_ (nums .u8 xi)) from fun W hW => by rw [hok, hxi]; exact hW.setNow (by rw [List.getElem?_set_ne hne]; exact hbk) bi.now hfi.now_len hfi.now_bytes)
  have HT := Lib.hid h
  have hik : ¬ i * 217 = k * 217 := by omega
  clear h hfi hfk hoi hok hxi hxk hbi hbk
  go_enter Try.func61, Try.ntmps61
  go_wp2_with (first
    | (go_at_call 104; refine (HN2.out _ HT3.out).mono ?_; rintro e w4 ⟨rfl, hb4⟩; have HT4 := Lib.hid (HT3.out.next hb4); have HK4 := Lib.hid (HK3.out.next hb4); have HB4 := Lib.hid (HB3.out.trans (hb4.mono HT3.out.le)); clear hb4)
    | (go_at_call 104; refine (HN1.out _ HT2.out).mono ?_; rintro e w3 ⟨rfl, hb3⟩; have HT3 := Lib.hid (HT2.out.next hb3); have HK3 := Lib.hid (HK2.out.next hb3); have HB3 := Lib.hid (HB2.out.trans (hb3.mono HT2.out.le)); clear hb3)
    | (go_at_call 103; refine (HA2.out _ HT1.out).mono ?_; rintro e w2 ⟨rfl, hb2⟩; have HT2 := Lib.hid (HT1.out.next hb2); have heq := eql_other HT2.out i k hne; have HK2 := Lib.hid (HK1.out.next hb2); have HB2 := Lib.hid (HB1.out.trans (hb2.mono HT1.out.le)); clear hb2)
    | (go_at_call 103; refine (HA1.out _ HT.out).mono ?_; rintro e w1 ⟨rfl, hb1⟩; have HT1 := Lib.hid (HT.out.next hb1); have HK1 := Lib.hid (KeepB.of_below [r] hb1); have HB1 := Lib.hid (hb1.mono HT.out.le); clear hb1))
  clear HT HA1 HA2 HN1 HN2 hik
  refine s_region (fun _ => True) (by kernel_rfl) 12 (by kernel_rfl) trivial (fun hS => ?_)
  have HTd := Lib.hid (HT4.out.next (below_drew (Below.refl w4.heap.size w4)))
  have HKd := Lib.hid (HK4.out.next (below_drew (Below.refl w4.heap.size w4)))
  have HBd := Lib.hid (below_drew HB4.out)
  generalize hwd : w4.drew = wd at *
  clear hwd HT4 HB4 HK4
  have hri := HRI.out _ HTd.out
  have hrk := HRK.out _ HTd.out
  refine s_take 0 (_) hS rfl (by kernel_rfl) (by kernel_rfl) (by kernel_rfl) (fun _ _ _ h => h) rfl (fun w' hw' => run_move_at _ rfl w') ?_
  simp only [Act.put, List.setIfInBounds_toArray, List.set_cons_zero, List.set_cons_succ]
  refine s_take 1 (_) hS rfl (by kernel_rfl) (by kernel_rfl) (by kernel_rfl) (fun _ _ _ h => h) rfl (fun w' hw' => run_move_at _ rfl w') ?_
  simp only [Act.put, List.setIfInBounds_toArray, List.set_cons_zero, List.set_cons_succ]
  refine s_take 2 (_) hS rfl (by kernel_rfl) (by kernel_rfl) (by kernel_rfl) (fun _ _ _ h => h) rfl (fun w' hw' => run_move_at _ rfl w') ?_
  simp only [Act.put, List.setIfInBounds_toArray, List.set_cons_zero, List.set_cons_succ]
  refine s_take 3 (.pointer (some ⟨r, ok_, none⟩)) hS rfl (by kernel_rfl) (by kernel_rfl) (by kernel_rfl) (fun _ _ _ h => h) rfl (fun w' hw' => by (unfold execOp; simp [go_sem, Act.put, Act.eval])) ?_
  simp only [Act.put, List.setIfInBounds_toArray, List.set_cons_zero, List.set_cons_succ]
  refine s_take 5 (_) hS rfl (by kernel_rfl) (by kernel_rfl) (by kernel_rfl) (fun _ _ _ h => h) rfl (fun w' hw' => run_move_at _ rfl w') ?_
  simp only [Act.put, List.setIfInBounds_toArray, List.set_cons_zero, List.set_cons_succ]
  refine s_take 6 (.pointer (some ⟨r, oi, none⟩)) hS rfl (by kernel_rfl) (by kernel_rfl) (by kernel_rfl) (fun _ _ _ h => h) rfl (fun w' hw' => by (unfold execOp; simp [go_sem, Act.put, Act.eval])) ?_
  simp only [Act.put, List.setIfInBounds_toArray, List.set_cons_zero, List.set_cons_succ]
  refine s_two 4 7 rfl rfl (by kernel_rfl) ?_ ?_
  · refine g_event (.agg (nums .u8 xk).toArray) wd rfl (run_load_mid 160 _ rfl r (ok_) rfl (nums .u8 xk) _ (hrk) Try.underlying160 rfl (by rw [nums_len, HLK.out]; kernel_rfl)) trivial (fun hS => ?_)
    simp only [Act.put, List.setIfInBounds_toArray, List.set_cons_zero, List.set_cons_succ]
    refine s_one 7 rfl (by kernel_rfl) ?_
    refine g_event (.agg (nums .u8 xi).toArray) wd rfl (run_load_mid 160 _ rfl r (oi) rfl (nums .u8 xi) _ (hri) Try.underlying160 rfl (by rw [nums_len, HLI.out]; kernel_rfl)) trivial (fun hS => ?_)
    simp only [Act.put, List.setIfInBounds_toArray, List.set_cons_zero, List.set_cons_succ]
    refine s_take 8 (.pointer (some ⟨r, oi, none⟩)) hS rfl (by kernel_rfl) (by kernel_rfl) (by kernel_rfl) (fun _ _ _ h => h) rfl (fun w' hw' => by (unfold execOp; simp [go_sem, Act.put, Act.eval])) ?_
    simp only [Act.put, List.setIfInBounds_toArray, List.set_cons_zero, List.set_cons_succ]
    obtain ⟨T5, K5, B5⟩ := HS1.out _ HTd.out
    refine s_one 9 rfl (by kernel_rfl) ?_
    refine g_skip (wd.setCells r (oi) (nums .u8 xk)) rfl (run_store_mid 160 _ _ rfl r (oi) (nums .u8 xk).toArray rfl rfl (HTd.out.there _ _ (by rw [List.size_toArray, nums_len, HLK.out]; exact HOI.out)) (by rw [List.size_toArray, nums_len, HLK.out]; kernel_rfl) (nums_one .u8 xk)) trivial (fun hS => ?_)
    simp only [Act.put, List.setIfInBounds_toArray, List.set_cons_zero, List.set_cons_succ]
    have HT5 := Lib.hid T5
    have HK5 := Lib.hid (HKd.out.trans K5)
    have HB5 := Lib.hid (HBd.out.trans B5)
    clear T5 K5 B5 HTd HKd HBd hri hrk
    generalize hw5 : wd.setCells r oi (nums .u8 xk) = w5 at *
    clear hw5
    refine s_take 10 (.pointer (some ⟨r, ok_, none⟩)) hS rfl (by kernel_rfl) (by kernel_rfl) (by kernel_rfl) (fun _ _ _ h => h) rfl (fun w' hw' => by (unfold execOp; simp [go_sem, Act.put, Act.eval])) ?_
    simp only [Act.put, List.setIfInBounds_toArray, List.set_cons_zero, List.set_cons_succ]
    obtain ⟨T6, K6, B6⟩ := HS2.out _ HT5.out
    refine s_one 11 rfl (by kernel_rfl) ?_
    refine g_skip (w5.setCells r (ok_) (nums .u8 xi)) rfl (run_store_mid 160 _ _ rfl r (ok_) (nums .u8 xi).toArray rfl rfl (HT5.out.there _ _ (by rw [List.size_toArray, nums_len, HLI.out]; exact (by rw [List.length_set]; exact HOK.out))) (by rw [List.size_toArray, nums_len, HLI.out]; kernel_rfl) (nums_one .u8 xi)) trivial (fun hS => ?_)
    simp only [Act.put, List.setIfInBounds_toArray, List.set_cons_zero, List.set_cons_succ]
    refine s_done (by kernel_rfl) ?_
    have F := Lib.hid (And.intro T6 (And.intro (HK5.out.trans K6) (HB5.out.trans B6)))
    clear T6 K6 B6 HT5 HK5 HB5 hS
    generalize hw6 : w5.setCells r ok_ (nums .u8 xi) = w6 at *
    clear hw6
    go_wp2
    go_ret
    exact ⟨rfl, F.out⟩
  · refine g_event (.agg (nums .u8 xi).toArray) wd rfl (run_load_mid 160 _ rfl r (oi) rfl (nums .u8 xi) _ (hri) Try.underlying160 rfl (by rw [nums_len, HLI.out]; kernel_rfl)) trivial (fun hS => ?_)
    simp only [Act.put, List.setIfInBounds_toArray, List.set_cons_zero, List.set_cons_succ]
    refine s_one 4 rfl (by kernel_rfl) ?_
    refine g_event (.agg (nums .u8 xk).toArray) wd rfl (run_load_mid 160 _ rfl r (ok_) rfl (nums .u8 xk) _ (hrk) Try.underlying160 rfl (by rw [nums_len, HLK.out]; kernel_rfl)) trivial (fun hS => ?_)
    simp only [Act.put, List.setIfInBounds_toArray, List.set_cons_zero, List.set_cons_succ]
    refine s_take 8 (.pointer (some ⟨r, oi, none⟩)) hS rfl (by kernel_rfl) (by kernel_rfl) (by kernel_rfl) (fun _ _ _ h => h) rfl (fun w' hw' => by (unfold execOp; simp [go_sem, Act.put, Act.eval])) ?_
    simp only [Act.put, List.setIfInBounds_toArray, List.set_cons_zero, List.set_cons_succ]
    obtain ⟨T5, K5, B5⟩ := HS1.out _ HTd.out
    refine s_one 9 rfl (by kernel_rfl) ?_
    refine g_skip (wd.setCells r (oi) (nums .u8 xk)) rfl (run_store_mid 160 _ _ rfl r (oi) (nums .u8 xk).toArray rfl rfl (HTd.out.there _ _ (by rw [List.size_toArray, nums_len, HLK.out]; exact HOI.out)) (by rw [List.size_toArray, nums_len, HLK.out]; kernel_rfl) (nums_one .u8 xk)) trivial (fun hS => ?_)
    simp only [Act.put, List.setIfInBounds_toArray, List.set_cons_zero, List.set_cons_succ]
    have HT5 := Lib.hid T5
    have HK5 := Lib.hid (HKd.out.trans K5)
    have HB5 := Lib.hid (HBd.out.trans B5)
    clear T5 K5 B5 HTd HKd HBd hri hrk
    generalize hw5 : wd.setCells r oi (nums .u8 xk) = w5 at *
    clear hw5
    refine s_take 10 (.pointer (some ⟨r, ok_, none⟩)) hS rfl (by kernel_rfl) (by kernel_rfl) (by kernel_rfl) (fun _ _ _ h => h) rfl (fun w' hw' => by (unfold execOp; simp [go_sem, Act.put, Act.eval])) ?_
    simp only [Act.put, List.setIfInBounds_toArray, List.set_cons_zero, List.set_cons_succ]
    obtain ⟨T6, K6, B6⟩ := HS2.out _ HT5.out
    refine s_one 11 rfl (by kernel_rfl) ?_
    refine g_skip (w5.setCells r (ok_) (nums .u8 xi)) rfl (run_store_mid 160 _ _ rfl r (ok_) (nums .u8 xi).toArray rfl rfl (HT5.out.there _ _ (by rw [List.size_toArray, nums_len, HLI.out]; exact (by rw [List.length_set]; exact HOK.out))) (by rw [List.size_toArray, nums_len, HLI.out]; kernel_rfl) (nums_one .u8 xi)) trivial (fun hS => ?_)
    simp only [Act.put, List.setIfInBounds_toArray, List.set_cons_zero, List.set_cons_succ]
    refine s_done (by kernel_rfl) ?_
    have F := Lib.hid (And.intro T6 (And.intro (HK5.out.trans K6) (HB5.out.trans B6)))
    clear T6 K6 B6 HT5 HK5 HB5 hS
    generalize hw6 : w5.setCells r ok_ (nums .u8 xi) = w6 at *
    clear hw6
    go_wp2
    go_ret
    exact ⟨rfl, F.out⟩
theorem back_bad (h : DTab base w g r L) (I : Int) (hi : ¬ (0 ≤ I ∧ I < L.length)) : Calls Try.prog 63 #[.pointer (some ⟨g, 0, none⟩), .int .i64 I] w (ToldOut base g r false L w) := by
  have HT := Lib.hid h
  have hat := at_out h I hi
  clear h hi
  go_enter Try.func63, Try.ntmps63
  go_wp2_with (go_at_call 103; refine hat.mono ?_; rintro e w1 ⟨rfl, hb1⟩)
  go_ret
  exact .same HT.out hb1 _
set_option maxRecDepth 100000 in
set_option maxHeartbeats 4000000 in
theorem back_in (h : DTab base w g r L) (hm : L.length ≤ 1000) (i : Nat) (b : Blk) (hb : L[i]? = some b) : Calls Try.prog 63 #[.pointer (some ⟨g, 0, none⟩), .int .i64 i] w (ToldOut base g r true (L.set i { setNow b b.p with p := b.now }) w) := by
  have HA1 := Lib.hid (fun W (hW : DTab base W g r L) => at_in hW i (List.getElem?_eq_some_iff.1 hb).1 hm)
  have hf := (h.blk i b hb).2
  obtain ⟨oi, hoi⟩ : ∃ o, o = nowOff i b := ⟨_, rfl⟩
  obtain ⟨xi, hxi⟩ : ∃ x, x = b.now := ⟨_, rfl⟩
  obtain ⟨xk, hxk⟩ : ∃ x, x = b.p := ⟨_, rfl⟩
  have HN1 := Lib.hid (show ∀ W, DTab base W g r L → Calls Try.prog 104 #[.pointer (some ⟨r, i * 217, none⟩)] W (TellsP (.pointer (some ⟨r, oi, none⟩)) W) from fun W hW => by rw [hoi]; exact now_off hW hb)
  have HRI := Lib.hid (show ∀ W, DTab base W g r L → W.rangeAt r oi (nums .u8 xi) from fun W hW => by rw [hoi, hxi]; exact hW.nowAt hb)
  have HRK := Lib.hid (show ∀ W, DTab base W g r L → W.rangeAt r (i * 217 + 144) (nums .u8 xk) from fun W hW => by rw [hxk]; exact (hW.blk i b hb).1.p)
  have HLI := Lib.hid (show xi.length = 72 from by rw [hxi]; exact hf.now_len)
  have HLK := Lib.hid (show xk.length = 72 from by rw [hxk]; exact hf.lp)
  have HOI := Lib.hid (show oi + 72 ≤ L.length * 217 from by rw [hoi]; exact nowOff_lt hb)
  have HOK := Lib.hid (show i * 217 + 144 + 72 ≤ L.length * 217 from by have := at_lt hb; omega)
  have HS1 := Lib.hid (show ∀ W, DTab base W g r L → DTab base (W.setCells r oi (nums .u8 xk)) g r (L.set i (setNow b b.p)) ∧ KeepB [r] W (W.setCells r oi (nums .u8 xk)) ∧ Below base W (W.setCells r oi (nums .u8 xk)) from fun W hW => by rw [hoi, hxk]; exact hW.setNow hb b.p hf.lp hf.bp)
  have HS2 := Lib.hid (show ∀ W, DTab base W g r (L.set i (setNow b b.p)) → DTab base (W.setCells r (i * 217 + 144) (nums .u8 xi)) g r (L.set i { setNow b b.p with p := b.now }) ∧ KeepB [r] W (W.setCells r (i * 217 + 144) (nums .u8 xi)) ∧ Below base W (W.setCells r (i * 217 + 144) (nums .u8 xi)) from fun W hW => by
    have h := hW.setP (List.getElem?_set_self (List.getElem?_eq_some_iff.1 hb).1) b.now hf.now_len hf.now_bytes
    rw [List.set_set] at h
    rw [hxi]
    exact h)
  have HT := Lib.hid h
  clear h hf hoi hxi hxk hb
  go_enter Try.func63, Try.ntmps63
  go_wp2_with (first
    | (go_at_call 104; refine (HN1.out _ HT1.out).mono ?_; rintro e w4 ⟨rfl, hb4⟩; have HT4 := Lib.hid (HT1.out.next hb4); have HK4 := Lib.hid (HK1.out.next hb4); have HB4 := Lib.hid (HB1.out.trans (hb4.mono HT1.out.le)); clear hb4)
    | (go_at_call 103; refine (HA1.out _ HT.out).mono ?_; rintro e w1 ⟨rfl, hb1⟩; have HT1 := Lib.hid (HT.out.next hb1); have HK1 := Lib.hid (KeepB.of_below [r] hb1); have HB1 := Lib.hid (hb1.mono HT.out.le); clear hb1))
  clear HT HA1 HN1
  refine s_region (fun _ => True) (by kernel_rfl) 14 (by kernel_rfl) trivial (fun hS => ?_)
  have HTd := Lib.hid (HT4.out.next (below_drew (Below.refl w4.heap.size w4)))
  have HKd := Lib.hid (HK4.out.next (below_drew (Below.refl w4.heap.size w4)))
  have HBd := Lib.hid (below_drew HB4.out)
  generalize hwd : w4.drew = wd at *
  clear hwd HT4 HB4 HK4
  have hri := HRI.out _ HTd.out
  have hrk := HRK.out _ HTd.out
  refine s_take 0 (_) hS rfl (by kernel_rfl) (by kernel_rfl) (by kernel_rfl) (fun _ _ _ h => h) rfl (fun w' hw' => run_move_at _ rfl w') ?_
  simp only [Act.put, List.setIfInBounds_toArray, List.set_cons_zero, List.set_cons_succ]
  refine s_take 1 (_) hS rfl (by kernel_rfl) (by kernel_rfl) (by kernel_rfl) (fun _ _ _ h => h) rfl (fun w' hw' => run_move_at _ rfl w') ?_
  simp only [Act.put, List.setIfInBounds_toArray, List.set_cons_zero, List.set_cons_succ]
  refine s_take 2 (_) hS rfl (by kernel_rfl) (by kernel_rfl) (by kernel_rfl) (fun _ _ _ h => h) rfl (fun w' hw' => run_move_at _ rfl w') ?_
  simp only [Act.put, List.setIfInBounds_toArray, List.set_cons_zero, List.set_cons_succ]
  refine s_take 3 (.pointer (some ⟨r, i * 217, none⟩)) hS rfl (by kernel_rfl) (by kernel_rfl) (by kernel_rfl) (fun _ _ _ h => h) rfl (fun w' hw' => by (unfold execOp; simp [go_sem, Act.put, Act.eval])) ?_
  simp only [Act.put, List.setIfInBounds_toArray, List.set_cons_zero, List.set_cons_succ]
  refine s_take 4 (.pointer (some ⟨r, i * 217 + 144, none⟩)) hS rfl (by kernel_rfl) (by kernel_rfl) (by kernel_rfl) (fun _ _ _ h => h) rfl (fun w' hw' => by (unfold execOp; simp [go_sem, Act.put, Act.eval])) ?_
  simp only [Act.put, List.setIfInBounds_toArray, List.set_cons_zero, List.set_cons_succ]
  refine s_take 6 (_) hS rfl (by kernel_rfl) (by kernel_rfl) (by kernel_rfl) (fun _ _ _ h => h) rfl (fun w' hw' => run_move_at _ rfl w') ?_
  simp only [Act.put, List.setIfInBounds_toArray, List.set_cons_zero, List.set_cons_succ]
  refine s_take 7 (.pointer (some ⟨r, oi, none⟩)) hS rfl (by kernel_rfl) (by kernel_rfl) (by kernel_rfl) (fun _ _ _ h => h) rfl (fun w' hw' => by (unfold execOp; simp [go_sem, Act.put, Act.eval])) ?_
  simp only [Act.put, List.setIfInBounds_toArray, List.set_cons_zero, List.set_cons_succ]
  refine s_two 5 8 rfl rfl (by kernel_rfl) ?_ ?_
  · refine g_event (.agg (nums .u8 xk).toArray) wd rfl (run_load_mid 160 _ rfl r (i * 217 + 144) rfl (nums .u8 xk) _ (hrk) Try.underlying160 rfl (by rw [nums_len, HLK.out]; kernel_rfl)) trivial (fun hS => ?_)
    simp only [Act.put, List.setIfInBounds_toArray, List.set_cons_zero, List.set_cons_succ]
    refine s_one 8 rfl (by kernel_rfl) ?_
    refine g_event (.agg (nums .u8 xi).toArray) wd rfl (run_load_mid 160 _ rfl r (oi) rfl (nums .u8 xi) _ (hri) Try.underlying160 rfl (by rw [nums_len, HLI.out]; kernel_rfl)) trivial (fun hS => ?_)
    simp only [Act.put, List.setIfInBounds_toArray, List.set_cons_zero, List.set_cons_succ]
    refine s_take 9 (.pointer (some ⟨r, oi, none⟩)) hS rfl (by kernel_rfl) (by kernel_rfl) (by kernel_rfl) (fun _ _ _ h => h) rfl (fun w' hw' => by (unfold execOp; simp [go_sem, Act.put, Act.eval])) ?_
    simp only [Act.put, List.setIfInBounds_toArray, List.set_cons_zero, List.set_cons_succ]
    obtain ⟨T5, K5, B5⟩ := HS1.out _ HTd.out
    refine s_one 10 rfl (by kernel_rfl) ?_
    refine g_skip (wd.setCells r (oi) (nums .u8 xk)) rfl (run_store_mid 160 _ _ rfl r (oi) (nums .u8 xk).toArray rfl rfl (HTd.out.there _ _ (by rw [List.size_toArray, nums_len, HLK.out]; exact HOI.out)) (by rw [List.size_toArray, nums_len, HLK.out]; kernel_rfl) (nums_one .u8 xk)) trivial (fun hS => ?_)
    simp only [Act.put, List.setIfInBounds_toArray, List.set_cons_zero, List.set_cons_succ]
    have HT5 := Lib.hid T5
    have HK5 := Lib.hid (HKd.out.trans K5)
    have HB5 := Lib.hid (HBd.out.trans B5)
    clear T5 K5 B5 HTd HKd HBd hri hrk
    generalize hw5 : wd.setCells r oi (nums .u8 xk) = w5 at *
    clear hw5
    refine s_take 11 (.pointer (some ⟨r, i * 217, none⟩)) hS rfl (by kernel_rfl) (by kernel_rfl) (by kernel_rfl) (fun _ _ _ h => h) rfl (fun w' hw' => by (unfold execOp; simp [go_sem, Act.put, Act.eval])) ?_
    simp only [Act.put, List.setIfInBounds_toArray, List.set_cons_zero, List.set_cons_succ]
    refine s_take 12 (.pointer (some ⟨r, i * 217 + 144, none⟩)) hS rfl (by kernel_rfl) (by kernel_rfl) (by kernel_rfl) (fun _ _ _ h => h) rfl (fun w' hw' => by (unfold execOp; simp [go_sem, Act.put, Act.eval])) ?_
    simp only [Act.put, List.setIfInBounds_toArray, List.set_cons_zero, List.set_cons_succ]
    obtain ⟨T6, K6, B6⟩ := HS2.out _ HT5.out
    refine s_one 13 rfl (by kernel_rfl) ?_
    refine g_skip (w5.setCells r (i * 217 + 144) (nums .u8 xi)) rfl (run_store_mid 160 _ _ rfl r (i * 217 + 144) (nums .u8 xi).toArray rfl rfl (HT5.out.there _ _ (by rw [List.size_toArray, nums_len, HLI.out]; exact (by rw [List.length_set]; exact HOK.out))) (by rw [List.size_toArray, nums_len, HLI.out]; kernel_rfl) (nums_one .u8 xi)) trivial (fun hS => ?_)
    simp only [Act.put, List.setIfInBounds_toArray, List.set_cons_zero, List.set_cons_succ]
    refine s_done (by kernel_rfl) ?_
    have F := Lib.hid (And.intro T6 (And.intro (HK5.out.trans K6) (HB5.out.trans B6)))
    clear T6 K6 B6 HT5 HK5 HB5 hS
    generalize hw6 : w5.setCells r (i * 217 + 144) (nums .u8 xi) = w6 at *
    clear hw6
    go_wp2
    go_ret
    exact ⟨rfl, F.out⟩
  · refine g_event (.agg (nums .u8 xi).toArray) wd rfl (run_load_mid 160 _ rfl r (oi) rfl (nums .u8 xi) _ (hri) Try.underlying160 rfl (by rw [nums_len, HLI.out]; kernel_rfl)) trivial (fun hS => ?_)
    simp only [Act.put, List.setIfInBounds_toArray, List.set_cons_zero, List.set_cons_succ]
    refine s_one 5 rfl (by kernel_rfl) ?_
    refine g_event (.agg (nums .u8 xk).toArray) wd rfl (run_load_mid 160 _ rfl r (i * 217 + 144) rfl (nums .u8 xk) _ (hrk) Try.underlying160 rfl (by rw [nums_len, HLK.out]; kernel_rfl)) trivial (fun hS => ?_)
    simp only [Act.put, List.setIfInBounds_toArray, List.set_cons_zero, List.set_cons_succ]
    refine s_take 9 (.pointer (some ⟨r, oi, none⟩)) hS rfl (by kernel_rfl) (by kernel_rfl) (by kernel_rfl) (fun _ _ _ h => h) rfl (fun w' hw' => by (unfold execOp; simp [go_sem, Act.put, Act.eval])) ?_
    simp only [Act.put, List.setIfInBounds_toArray, List.set_cons_zero, List.set_cons_succ]
    obtain ⟨T5, K5, B5⟩ := HS1.out _ HTd.out
    refine s_one 10 rfl (by kernel_rfl) ?_
    refine g_skip (wd.setCells r (oi) (nums .u8 xk)) rfl (run_store_mid 160 _ _ rfl r (oi) (nums .u8 xk).toArray rfl rfl (HTd.out.there _ _ (by rw [List.size_toArray, nums_len, HLK.out]; exact HOI.out)) (by rw [List.size_toArray, nums_len, HLK.out]; kernel_rfl) (nums_one .u8 xk)) trivial (fun hS => ?_)
    simp only [Act.put, List.setIfInBounds_toArray, List.set_cons_zero, List.set_cons_succ]
    have HT5 := Lib.hid T5
    have HK5 := Lib.hid (HKd.out.trans K5)
    have HB5 := Lib.hid (HBd.out.trans B5)
    clear T5 K5 B5 HTd HKd HBd hri hrk
    generalize hw5 : wd.setCells r oi (nums .u8 xk) = w5 at *
    clear hw5
    refine s_take 11 (.pointer (some ⟨r, i * 217, none⟩)) hS rfl (by kernel_rfl) (by kernel_rfl) (by kernel_rfl) (fun _ _ _ h => h) rfl (fun w' hw' => by (unfold execOp; simp [go_sem, Act.put, Act.eval])) ?_
    simp only [Act.put, List.setIfInBounds_toArray, List.set_cons_zero, List.set_cons_succ]
    refine s_take 12 (.pointer (some ⟨r, i * 217 + 144, none⟩)) hS rfl (by kernel_rfl) (by kernel_rfl) (by kernel_rfl) (fun _ _ _ h => h) rfl (fun w' hw' => by (unfold execOp; simp [go_sem, Act.put, Act.eval])) ?_
    simp only [Act.put, List.setIfInBounds_toArray, List.set_cons_zero, List.set_cons_succ]
    obtain ⟨T6, K6, B6⟩ := HS2.out _ HT5.out
    refine s_one 13 rfl (by kernel_rfl) ?_
    refine g_skip (w5.setCells r (i * 217 + 144) (nums .u8 xi)) rfl (run_store_mid 160 _ _ rfl r (i * 217 + 144) (nums .u8 xi).toArray rfl rfl (HT5.out.there _ _ (by rw [List.size_toArray, nums_len, HLI.out]; exact (by rw [List.length_set]; exact HOK.out))) (by rw [List.size_toArray, nums_len, HLI.out]; kernel_rfl) (nums_one .u8 xi)) trivial (fun hS => ?_)
    simp only [Act.put, List.setIfInBounds_toArray, List.set_cons_zero, List.set_cons_succ]
    refine s_done (by kernel_rfl) ?_
    have F := Lib.hid (And.intro T6 (And.intro (HK5.out.trans K6) (HB5.out.trans B6)))
    clear T6 K6 B6 HT5 HK5 HB5 hS
    generalize hw6 : w5.setCells r (i * 217 + 144) (nums .u8 xi) = w6 at *
    clear hw6
    go_wp2
    go_ret
    exact ⟨rfl, F.out⟩
end
end Go.Proofs.Ytoiiacbbfhlocaa.HDa
