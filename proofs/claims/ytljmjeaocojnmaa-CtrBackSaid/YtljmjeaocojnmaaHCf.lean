/- Layer 4: the walk of CtrBack. -/
import Derived.Test.YtljmjeaocojnmaaHCe
set_option linter.unusedVariables false
set_option linter.unusedSimpArgs false
namespace Go.Proofs.Ytljmjeaocojnmaa.HCa
open Go.RowKit Go.Proofs.YtljmjeaocojnmaaW.PrintWords Go.Proofs.YtljmjeaocojnmaaW.PrintLast Go.Proofs.YtljmjeaocojnmaaW.PrintMore Go.Proofs.Ytljmjeaocojnmaa.Kit Go.Proofs.Ytljmjeaocojnmaa.HAa Go.Proofs.Ytljmjeaocojnmaa.Cb
attribute [local go_sem ↓] Go.wp_at_zero Go.wp_at_succ
attribute [local irreducible] encF xN nN
set_option maxHeartbeats 4000000 in
set_option maxRecDepth 100000 in
theorem cback_few (key nonce : List Int) (A2 : Option Addr) (c2 : Nat) (l : List Int) (s : Int) (w : World) (h16 : key.length = 16) (hkb : Bytes key) (h12 : nonce.length = 12) (hnb : Bytes nonce) (hr : Kd.C (Kd.int .u8) w A2 l.length l) (hcc : l.length ≤ c2) (hl : l.length ≤ 300) (hlb : Bytes l)
    (hs : 0 ≤ s ∧ s < 65536) :
    Calls Try.prog 7 #[.agg (nums .u8 key).toArray, .agg (nums .u8 nonce).toArray, .slice A2 l.length c2, .int .u16 s] w (Tells4 w) := by
  obtain ⟨xs, hxs⟩ : ∃ xs, xs = xN key nonce l l.length := ⟨_, rfl⟩
  obtain ⟨m, hm⟩ : ∃ m, m = (s % ((l.length : Int) + 1)).toNat := ⟨_, rfl⟩
  have hm0 := Int.emod_nonneg s (show ((l.length : Int) + 1) ≠ 0 by omega)
  have hm1 := Int.emod_lt_of_pos s (show 0 < ((l.length : Int) + 1) by omega)
  have hmn : m ≤ l.length := by omega
  have hms : s % ((l.length : Int) + 1) = (m : Int) := by omega
  have hmt : Int.tmod s ((l.length : Int) + 1) = (m : Int) := by rw [Int.tmod_eq_emod_of_nonneg hs.1, hms]
  have HXL : Hid (xs.length = l.length) := Lib.hid (by rw [hxs, xN_length])
  have HXB : Hid (xN key nonce xs l.length = l) := Lib.hid (by rw [hxs]; exact xN_back key nonce l h12 hkb hnb hlb)
  have HXT : Hid (xN key nonce (l.take m) (l.take m).length = xs.take m) := Lib.hid (by rw [hxs]; exact xN_take key nonce l m hmn)
  have HTL : Hid ((l.take m).length = m) := Lib.hid (by rw [List.length_take]; omega)
  have HXTL : Hid ((xs.take m).length = m) := Lib.hid (by rw [List.length_take, HXL.out]; omega)
  have HXBy : Hid (Bytes xs) := Lib.hid (by rw [hxs]; exact xN_bytes key nonce l h12 hkb hnb hlb)
  have HK := Lib.hid h16
  have HN := Lib.hid h12
  have HKB := Lib.hid hkb
  have HNB := Lib.hid hnb
  have HR := Lib.hid hr
  have HXS := Lib.hid hxs
  obtain ⟨n, hn⟩ : ∃ n, n = l.length := ⟨_, rfl⟩
  have HLL := Lib.hid hn
  rw [← hn] at hcc hl HR HXL HXB hmn hms hmt ⊢
  have HCC := Lib.hid hcc
  obtain ⟨hs0, hs1⟩ := hs
  clear hm hxs h16 hkb h12 hnb hr hn hlb hm0 hm1
  go_enter Try.func7, Try.ntmps7
  go_wp2_with (first
    | ((with_reducible refine gate_dst (N := 4) rfl ?_); refine arr_new rfl 39 .u8 key (by first | (go_simp; done) | (go_simp; rfl)) ?_; intro w1 hA1 hB1; have HA1 := Lib.hid hA1; have HB1 := Lib.hid hB1; clear hA1 hB1)
    | ((with_reducible refine gate_dst (N := 5) rfl ?_); refine arr_new rfl 40 .u8 nonce (by first | (go_simp; done) | (go_simp; rfl)) ?_; intro w2 hA2 hB2; have HA2 := Lib.hid hA2; have HA12 := Lib.hid (HA1.out.next hB2); have HB2 := Lib.hid (below_next HB1.out hB2); have HR2 := Lib.hid (Kd.C_below HR.out HB2.out); clear hA2 hB2)
    | ((with_reducible refine gate_dst (N := 22) rfl ?_); refine load_arr rfl 39 _ rfl w.heap.size rfl .u8 _ _ _ _ HA12.out Try.underlying39 (by rw [HK.out]; kernel_rfl) ?_)
    | ((with_reducible refine gate_dst (N := 23) rfl ?_); refine load_arr rfl 40 _ rfl w1.heap.size rfl .u8 _ _ _ _ HA2.out Try.underlying40 (by rw [HN.out]; kernel_rfl) ?_)
    | fail)
  generalize w1.heap.size = g2 at *
  generalize hg1 : w.heap.size = g1 at *
  have HG1 := Lib.hid hg1
  clear hg1
  have hX := code_any key nonce A2 c2 l w2 HK.out HKB.out HN.out HNB.out (by rw [← HLL.out]; exact HR2.out) (by rw [← HLL.out]; exact HCC.out) (by rw [← HLL.out]; omega)
  rw [← HXS.out, ← HLL.out] at hX
  have hB2 : Hid (Below w.heap.size w w2) := Lib.hid (by have h := HB2.out; have hg := HG1.out; rw [← hg] at h; exact h)
  refine hX.mono ?_
  clear hX
  rintro e w5 ⟨v5, rfl, hO5, hB5⟩
  obtain ⟨A5, c5, e5, hlc5, hrd5⟩ := Kd.R_reads hO5
  rw [HXL.out] at e5 hlc5 hrd5
  subst e5
  have HX5 := Lib.hid hrd5
  have HXC := Lib.hid hlc5
  have HW5 := Lib.hid (below_next hB2.out hB5)
  have HA15 := Lib.hid (HA12.out.next hB5)
  have HA25 := Lib.hid (HA2.out.next hB5)
  have HR5 := Lib.hid (Kd.C_below HR2.out hB5)
  clear hO5 hB5 hrd5 hlc5 HA12 HA2 HR2 HB2 hB2 HB1 HA1
  have HA1w : Hid (∀ w', Ext w5.drew w' → Arr .u8 39 w' g1 key) := Lib.hid (fun w' h => HA15.out.drew.next h)
  have HA2w : Hid (∀ w', Ext w5.drew w' → Arr .u8 40 w' g2 nonce) := Lib.hid (fun w' h => HA25.out.drew.next h)
  have HSL : Hid (∀ w' : World, (Instr.slice 22 (.slice A2 n c2) none (some (.int .i64 (m : Int))) none).run Try.prog w' = .ok (.slice A2 m c2) w') := Lib.hid (fun w' => by
    have h := (print_take_int (P := Try.prog) (k := .u8) 22 5 Try.underlying22 rfl rfl A2 c2 l (m : Int) (by omega) (by have := HLL.out; omega) (by rw [← HLL.out]; exact HCC.out)).1 w'
    rw [Int.toNat_natCast, HTL.out, ← HLL.out] at h
    exact h)
  have HSX : Hid (∀ w' : World, (Instr.slice 22 (.slice A5 n c5) none (some (.int .i64 (m : Int))) none).run Try.prog w' = .ok (.slice A5 m c5) w') := Lib.hid (fun w' => by
    have h := (print_take_int (P := Try.prog) (k := .u8) 22 5 Try.underlying22 rfl rfl A5 c5 xs (m : Int) (by omega) (by rw [HXL.out]; omega) (by rw [HXL.out]; exact HXC.out)).1 w'
    rw [Int.toNat_natCast, HXTL.out, HXL.out] at h
    exact h)
  have HY : Hid (Calls Try.prog 22 #[.agg (nums .u8 key).toArray, .agg (nums .u8 nonce).toArray, .slice A2 m c2] w5.drew (Go.Proofs.Ytljmjeaocojnmaa.Com.OutB w5.drew (xs.take m))) := Lib.hid (by
    have h := code_any key nonce A2 c2 (l.take m) w5.drew HK.out HKB.out HN.out HNB.out (Kd.C_take (by rw [← HLL.out]; exact Kd.C_drew HR5.out) (by rw [← HLL.out]; exact hmn)) (by rw [HTL.out]; have := HCC.out; omega) (by rw [HTL.out]; omega)
    rw [HXT.out, HTL.out] at h
    exact h)
  go_wp2_with fail
  refine chain_region (by kernel_rfl) 7 (by kernel_rfl) ?_
  refine chain_take 0 ((.agg (nums .u8 key).toArray)) rfl (by kernel_rfl) (by kernel_rfl) (by kernel_rfl) (fun _ _ _ h => h) rfl (fun w' hw' => run_load_arr 39 _ rfl g1 rfl .u8 _ _ _ _ (HA1w.out w' hw') Try.underlying39 (by rw [HK.out]; kernel_rfl)) ?_
  simp only [Act.put, List.setIfInBounds_toArray, List.set_cons_zero, List.set_cons_succ]
  refine chain_take 1 ((.agg (nums .u8 nonce).toArray)) rfl (by kernel_rfl) (by kernel_rfl) (by kernel_rfl) (fun _ _ _ h => h) rfl (fun w' hw' => run_load_arr 40 _ rfl g2 rfl .u8 _ _ _ _ (HA2w.out w' hw') Try.underlying40 (by rw [HN.out]; kernel_rfl)) ?_
  simp only [Act.put, List.setIfInBounds_toArray, List.set_cons_zero, List.set_cons_succ]
  refine chain_take 2 (_) rfl (by kernel_rfl) (by kernel_rfl) (by kernel_rfl) (fun _ _ _ h => h) rfl (fun w' hw' => run_move_at _ rfl w') ?_
  simp only [Act.put, List.setIfInBounds_toArray, List.set_cons_zero, List.set_cons_succ]
  refine chain_take 3 (_) rfl (by kernel_rfl) (by kernel_rfl) (by kernel_rfl) (fun _ _ _ h => h) rfl (fun w' hw' => run_move_at _ rfl w') ?_
  simp only [Act.put, List.setIfInBounds_toArray, List.set_cons_zero, List.set_cons_succ]
  refine chain_take 4 (.slice A2 m c2) rfl (by kernel_rfl) (by kernel_rfl) (by kernel_rfl) (fun _ _ _ h => h) rfl (fun w' hw' => by (have hc0 := HSL.out w'; unfold execOp; simp [go_sem, Act.put, Act.eval, hc0])) ?_
  simp only [Act.put, List.setIfInBounds_toArray, List.set_cons_zero, List.set_cons_succ]
  refine chain_call 5 rfl (by kernel_rfl) rfl 22 _ _ Try.func22 (by kernel_rfl) rfl _ _ #[.agg (nums .u8 key).toArray, .agg (nums .u8 nonce).toArray, .slice A2 m c2] rfl (by simp [Act.put, Act.eval]) (HY.out) ?_
  rintro e W1 ⟨v9, rfl, hO1, hB1⟩
  refine ⟨_, rfl, hB1, ?_⟩
  simp only [Act.put, List.setIfInBounds_toArray, List.set_cons_zero, List.set_cons_succ]
  refine chain_take 6 (_) rfl (by kernel_rfl) (by kernel_rfl) (by kernel_rfl) (fun _ _ _ h => h) rfl (fun w' hw' => BigFrame.run_assign _ rfl w') ?_
  simp only [Act.put, List.setIfInBounds_toArray, List.set_cons_zero, List.set_cons_succ]
  refine chain_done (by kernel_rfl) ?_
  obtain ⟨A11, c11, e11, hlc11, hrd11⟩ := Kd.R_reads hO1
  rw [HXTL.out] at e11 hlc11 hrd11
  subst e11
  have HY8 := Lib.hid hrd11
  have HA18 := Lib.hid (HA15.out.drew.next hB1)
  have HA28 := Lib.hid (HA25.out.drew.next hB1)
  have HR8 := Lib.hid (Kd.C_below (Kd.C_drew HR5.out) hB1)
  have HX8 := Lib.hid (Kd.C_below (Kd.C_drew HX5.out) hB1)
  have HXT8 : Hid (Kd.C (Kd.int .u8) W1 A5 m (xs.take m)) := Lib.hid (by
    have h := Kd.C_take (m := m) (by rw [HXL.out]; exact HX8.out) (by rw [HXL.out]; exact hmn)
    rw [HXTL.out] at h
    exact h)
  have HW8 := Lib.hid (below_next (below_drew HW5.out) hB1)
  have HZ : Hid (Calls Try.prog 22 #[.agg (nums .u8 key).toArray, .agg (nums .u8 nonce).toArray, .slice A5 n c5] W1.drew (Go.Proofs.Ytljmjeaocojnmaa.Com.OutB W1.drew l)) := Lib.hid (by
    have h := code_any key nonce A5 c5 xs W1.drew HK.out HKB.out HN.out HNB.out (by rw [HXL.out]; exact Kd.C_drew HX8.out) (by rw [HXL.out]; exact HXC.out) (by rw [HXL.out]; omega)
    rw [HXL.out, HXB.out] at h
    exact h)
  clear hO1 hB1 hrd11 hlc11 HA1w HA2w HA15 HA25 HY HX5 HR5
  obtain ⟨wz, hwz⟩ : ∃ wz : World, wz = W1 := ⟨_, rfl⟩
  subst hwz
  go_wp2_with fail
  refine chain_region (by kernel_rfl) 21 (by kernel_rfl) ?_
  refine chain_take 0 ((.agg (nums .u8 key).toArray)) rfl (by kernel_rfl) (by kernel_rfl) (by kernel_rfl) (fun _ _ _ h => h) rfl (fun w' hw' => run_load_arr 39 _ rfl g1 rfl .u8 _ _ _ _ (HA18.out.drew.next hw') Try.underlying39 (by rw [HK.out]; kernel_rfl)) ?_
  simp only [Act.put, List.setIfInBounds_toArray, List.set_cons_zero, List.set_cons_succ]
  refine chain_take 1 ((.agg (nums .u8 nonce).toArray)) rfl (by kernel_rfl) (by kernel_rfl) (by kernel_rfl) (fun _ _ _ h => h) rfl (fun w' hw' => run_load_arr 40 _ rfl g2 rfl .u8 _ _ _ _ (HA28.out.drew.next hw') Try.underlying40 (by rw [HN.out]; kernel_rfl)) ?_
  simp only [Act.put, List.setIfInBounds_toArray, List.set_cons_zero, List.set_cons_succ]
  refine chain_take 2 (_) rfl (by kernel_rfl) (by kernel_rfl) (by kernel_rfl) (fun _ _ _ h => h) rfl (fun w' hw' => run_move_at _ rfl w') ?_
  simp only [Act.put, List.setIfInBounds_toArray, List.set_cons_zero, List.set_cons_succ]
  refine chain_take 5 (_) rfl (by kernel_rfl) (by kernel_rfl) (by kernel_rfl) (fun _ _ _ h => h) rfl (fun w' hw' => run_move_at _ rfl w') ?_
  simp only [Act.put, List.setIfInBounds_toArray, List.set_cons_zero, List.set_cons_succ]
  refine chain_take 6 (.string (strOfNums l)) rfl (by kernel_rfl) (by kernel_rfl) (by kernel_rfl) (fun _ _ _ h => h) rfl (fun w' hw' => by (have hc0 := Kd.C_string (P := Try.prog) (dst := 9) (c := c2) Try.underlying22 Try.underlying5 Try.underlying9 (Kd.C_below (Kd.C_drew HR8.out) hw'); unfold execOp; simp [go_sem, Act.put, Act.eval, hc0])) ?_
  simp only [Act.put, List.setIfInBounds_toArray, List.set_cons_zero, List.set_cons_succ]
  refine chain_call 3 rfl (by kernel_rfl) rfl 22 _ _ Try.func22 (by kernel_rfl) rfl _ _ #[.agg (nums .u8 key).toArray, .agg (nums .u8 nonce).toArray, .slice A5 n c5] rfl (by simp [Act.put, Act.eval]) (HZ.out) ?_
  rintro e W1 ⟨v9, rfl, hO1, hB1⟩
  refine ⟨_, rfl, hB1, ?_⟩
  simp only [Act.put, List.setIfInBounds_toArray, List.set_cons_zero, List.set_cons_succ]
  refine chain_take 4 (.string (strOfNums l)) rfl (by kernel_rfl) (by kernel_rfl) (by kernel_rfl) (fun _ _ _ h => h) rfl (fun w' hw' => by (have hc0 := own_string (P := Try.prog) (dst := 9) Try.underlying22 Try.underlying5 Try.underlying9 (Kd.own_of_R (Kd.R_below hO1 hw')); unfold execOp; simp [go_sem, Act.put, Act.eval, hc0])) ?_
  simp only [Act.put, List.setIfInBounds_toArray, List.set_cons_zero, List.set_cons_succ]
  refine chain_take 7 (.bool true) rfl (by kernel_rfl) (by kernel_rfl) (by kernel_rfl) (fun _ _ _ h => h) rfl (fun w' hw' => by (unfold execOp; simp [go_sem, Act.put, Act.eval])) ?_
  simp only [Act.put, List.setIfInBounds_toArray, List.set_cons_zero, List.set_cons_succ]
  refine chain_take 8 (_) rfl (by kernel_rfl) (by kernel_rfl) (by kernel_rfl) (fun _ _ _ h => h) rfl (fun w' hw' => run_move_at _ rfl w') ?_
  simp only [Act.put, List.setIfInBounds_toArray, List.set_cons_zero, List.set_cons_succ]
  refine chain_take 9 (_) rfl (by kernel_rfl) (by kernel_rfl) (by kernel_rfl) (fun _ _ _ h => h) rfl (fun w' hw' => run_move_at _ rfl w') ?_
  simp only [Act.put, List.setIfInBounds_toArray, List.set_cons_zero, List.set_cons_succ]
  refine chain_take 10 (.string (strOfNums (xs.take m))) rfl (by kernel_rfl) (by kernel_rfl) (by kernel_rfl) (fun _ _ _ h => h) rfl (fun w' hw' => by (have hc0 := Kd.C_string (P := Try.prog) (dst := 9) (c := c11) Try.underlying22 Try.underlying5 Try.underlying9 (Kd.C_below (Kd.C_drew HY8.out) (below_next hB1 hw')); unfold execOp; simp [go_sem, Act.put, Act.eval, hc0])) ?_
  simp only [Act.put, List.setIfInBounds_toArray, List.set_cons_zero, List.set_cons_succ]
  refine chain_take 11 (_) rfl (by kernel_rfl) (by kernel_rfl) (by kernel_rfl) (fun _ _ _ h => h) rfl (fun w' hw' => run_move_at _ rfl w') ?_
  simp only [Act.put, List.setIfInBounds_toArray, List.set_cons_zero, List.set_cons_succ]
  refine chain_take 12 (_) rfl (by kernel_rfl) (by kernel_rfl) (by kernel_rfl) (fun _ _ _ h => h) rfl (fun w' hw' => run_move_at _ rfl w') ?_
  simp only [Act.put, List.setIfInBounds_toArray, List.set_cons_zero, List.set_cons_succ]
  refine chain_take 13 (.slice A5 m c5) rfl (by kernel_rfl) (by kernel_rfl) (by kernel_rfl) (fun _ _ _ h => h) rfl (fun w' hw' => by (have hc0 := HSX.out w'; unfold execOp; simp [go_sem, Act.put, Act.eval, hc0])) ?_
  simp only [Act.put, List.setIfInBounds_toArray, List.set_cons_zero, List.set_cons_succ]
  refine chain_take 14 (.string (strOfNums (xs.take m))) rfl (by kernel_rfl) (by kernel_rfl) (by kernel_rfl) (fun _ _ _ h => h) rfl (fun w' hw' => by (have hc0 := Kd.C_string (P := Try.prog) (dst := 9) (c := c5) Try.underlying22 Try.underlying5 Try.underlying9 (Kd.C_below (Kd.C_drew HXT8.out) (below_next hB1 hw')); unfold execOp; simp [go_sem, Act.put, Act.eval, hc0])) ?_
  simp only [Act.put, List.setIfInBounds_toArray, List.set_cons_zero, List.set_cons_succ]
  refine chain_take 15 (.bool true) rfl (by kernel_rfl) (by kernel_rfl) (by kernel_rfl) (fun _ _ _ h => h) rfl (fun w' hw' => by (unfold execOp; simp [go_sem, Act.put, Act.eval])) ?_
  simp only [Act.put, List.setIfInBounds_toArray, List.set_cons_zero, List.set_cons_succ]
  refine chain_take 16 (.bool true) rfl (by kernel_rfl) (by kernel_rfl) (by kernel_rfl) (fun _ _ _ h => h) rfl (fun w' hw' => by (unfold execOp; simp [go_sem, Act.put, Act.eval])) ?_
  simp only [Act.put, List.setIfInBounds_toArray, List.set_cons_zero, List.set_cons_succ]
  refine chain_take 17 (_) rfl (by kernel_rfl) (by kernel_rfl) (by kernel_rfl) (fun _ _ _ h => h) rfl (fun w' hw' => run_move_at _ rfl w') ?_
  simp only [Act.put, List.setIfInBounds_toArray, List.set_cons_zero, List.set_cons_succ]
  refine chain_call 18 rfl (by kernel_rfl) rfl 21 _ _ Try.func21 (by kernel_rfl) rfl _ _ #[] rfl (by simp [Act.put, Act.eval]) (knows4_any W1) ?_
  rintro e W3 ⟨rfl, hB3⟩
  refine ⟨_, rfl, hB3, ?_⟩
  simp only [Act.put, List.setIfInBounds_toArray, List.set_cons_zero, List.set_cons_succ]
  refine chain_take 19 (.bool true) rfl (by kernel_rfl) (by kernel_rfl) (by kernel_rfl) (fun _ _ _ h => h) rfl (fun w' hw' => by (unfold execOp; simp [go_sem, Act.put, Act.eval])) ?_
  simp only [Act.put, List.setIfInBounds_toArray, List.set_cons_zero, List.set_cons_succ]
  refine chain_take 20 (_) rfl (by kernel_rfl) (by kernel_rfl) (by kernel_rfl) (fun _ _ _ h => h) rfl (fun w' hw' => BigFrame.run_assign _ rfl w') ?_
  simp only [Act.put, List.setIfInBounds_toArray, List.set_cons_zero, List.set_cons_succ]
  refine chain_done (by kernel_rfl) ?_
  go_wp2_with fail
  go_ret
  exact ⟨rfl, below_next (below_drew HW8.out) (below_next hB1 hB3)⟩
set_option maxHeartbeats 1000000 in
theorem cback_big (a0 a1 : List Int) (A2 : Option Addr) (n c2 : Nat) (s : Int) (w : World) (l0 : a0.length = 16) (l1 : a1.length = 12) (h : 300 < n) :
    Calls Try.prog 7 #[.agg (nums .u8 a0).toArray, .agg (nums .u8 a1).toArray, .slice A2 n c2, .int .u16 s] w (Tells4 w) := by
  have HK := Lib.hid l0
  have HN := Lib.hid l1
  clear l0 l1
  go_enter Try.func7, Try.ntmps7
  go_wp2_with (first
    | ((with_reducible refine gate_dst (N := 4) rfl ?_); refine arr_new rfl 39 .u8 a0 (by first | (go_simp; done) | (go_simp; rfl)) ?_; intro w1 hA1 hB1; have HB1 := Lib.hid hB1; clear hA1 hB1)
    | ((with_reducible refine gate_dst (N := 5) rfl ?_); refine arr_new rfl 40 .u8 a1 (by first | (go_simp; done) | (go_simp; rfl)) ?_; intro w2 hA2 hB2; have HB2 := Lib.hid (below_next HB1.out hB2); clear hA2 hB2)
    | fail)
  refine (knows4_any w2).mono ?_
  rintro e w3 ⟨rfl, hB⟩
  have HB := Lib.hid (below_next HB2.out hB)
  clear hB
  go_wp2_with fail
  go_ret
  exact ⟨rfl, HB.out⟩
theorem ctrBack_walk (a0 a1 : List Int) (a2 : Option Addr) (len2 cap2 : Nat) (z2 : List Int) (a3 : Int) (w : World) (l0 : a0.length = 16) (b0 : Bytes a0) (l1 : a1.length = 12) (b1 : Bytes a1)
    (w2 : (a2 = none ∧ len2 = 0 ∧ cap2 = 0 ∧ z2 = []) ∨ ∃ x, a2 = some x ∧ len2 ≤ cap2 ∧ cap2 ≤ maxLen ∧ z2.length = cap2 ∧ (∀ i, i < z2.length → w.cell? (x.add i) = some (.int .u8 (z2.getD i 0))) ∧ ∀ n ∈ z2, (Lit.int .u8 n).wf = true)
    (y2 : len2 * 1 ≤ 140737488351232) (w3 : (Lit.int .u16 a3).wf = true) :
    Calls Try.prog 7 #[.agg (nums .u8 a0).toArray, .agg (nums .u8 a1).toArray, .slice a2 len2 cap2, .int .u16 a3] w fun e w' => e = .returned (.bool true) ∧ Below w.heap.size w w' := by
  obtain ⟨l, hlen, hr, hc, hb⟩ := Go.Proofs.Ytljmjeaocojnmaa.Com.reads_of_row w2
  clear w2
  subst hlen
  by_cases hbig : 300 < l.length
  · exact cback_big a0 a1 a2 l.length cap2 a3 w l0 l1 hbig
  · exact cback_few a0 a1 a2 cap2 l a3 w l0 b0 l1 b1 hr hc (by omega) hb (Com.rangeu16 w3)
end Go.Proofs.Ytljmjeaocojnmaa.HCa
