/- Layer 4: the walk of CtrCodes. -/
import Derived.Test.YtljmjeaocojnmaaHCd
import Derived.Test.YtljmjeaocojnmaaChain
set_option linter.unusedVariables false
set_option linter.unusedSimpArgs false
namespace Go.Proofs.Ytljmjeaocojnmaa.HCa
open Go.RowKit Go.Proofs.YtljmjeaocojnmaaW.PrintWords Go.Proofs.YtljmjeaocojnmaaW.PrintLast Go.Proofs.YtljmjeaocojnmaaW.PrintMore Go.Proofs.Ytljmjeaocojnmaa.Kit Go.Proofs.Ytljmjeaocojnmaa.HAa Go.Proofs.Ytljmjeaocojnmaa.Cb
attribute [local go_sem ↓] Go.wp_at_zero Go.wp_at_succ
attribute [local irreducible] encF xN nN
theorem rnonce_any (b c : Int) (w : World) (hb : -9223372036854775808 ≤ b ∧ b < 9223372036854775808) (hc : 0 ≤ c ∧ c < 18446744073709551616) :
    Calls Try.prog 26 #[.int .i64 b, .int .u64 c] w (Go.Proofs.Ytljmjeaocojnmaa.Com.OutB w (nN (b % 4294967296) c 12)) := by
  exact padlockref04_Nonce.calls 20 b c _ w (nonce_tells b c hc)
set_option maxHeartbeats 4000000 in
set_option maxRecDepth 100000 in
theorem ccodes_few (key nonce : List Int) (A2 : Option Addr) (c2 : Nat) (l : List Int) (b c : Int) (w : World) (h16 : key.length = 16) (hkb : Bytes key) (h12 : nonce.length = 12) (hnb : Bytes nonce) (hr : Kd.C (Kd.int .u8) w A2 l.length l) (hcc : l.length ≤ c2) (hl : l.length ≤ 200) (hlb : Bytes l)
    (hb : -9223372036854775808 ≤ b ∧ b < 9223372036854775808) (hc : 0 ≤ c ∧ c < 18446744073709551616) :
    Calls Try.prog 6 #[.agg (nums .u8 key).toArray, .agg (nums .u8 nonce).toArray, .slice A2 l.length c2, .int .i64 b, .int .u64 c] w (Tells4 w) := by
  obtain ⟨ns, hns⟩ : ∃ ns, ns = nN (b % 4294967296) c 12 := ⟨_, rfl⟩
  obtain ⟨xs, hxs⟩ : ∃ xs, xs = xN key nonce l l.length := ⟨_, rfl⟩
  have HNC : Hid (∀ w, Calls Try.prog 23 #[.int .i64 b, .int .u64 c] w (Go.Proofs.Ytljmjeaocojnmaa.Com.GivesArr .u8 ns w)) := Lib.hid (fun w => by rw [hns]; exact nonce_any b _ c w rfl hc)
  have HNR : Hid (∀ w, Calls Try.prog 26 #[.int .i64 b, .int .u64 c] w (Go.Proofs.Ytljmjeaocojnmaa.Com.OutB w ns)) := Lib.hid (fun w => by rw [hns]; exact rnonce_any b c w hb hc)
  have HNL : Hid (ns.length = 12) := Lib.hid (by rw [hns]; exact nN_length _ _ _)
  have HXL : Hid (xs.length = l.length) := Lib.hid (by rw [hxs, xN_length])
  have HK := Lib.hid h16
  have HN := Lib.hid h12
  have HKB := Lib.hid hkb
  have HNB := Lib.hid hnb
  have HR := Lib.hid hr
  have HXS := Lib.hid hxs
  obtain ⟨n, hn⟩ : ∃ n, n = l.length := ⟨_, rfl⟩
  have HLL := Lib.hid hn
  rw [← hn] at hcc hl HR HXL ⊢
  have HCC := Lib.hid hcc
  clear hns hxs h16 hkb h12 hnb hr hn hcc hlb hb hc
  go_enter Try.func6, Try.ntmps6
  go_wp2_with (first
    | ((with_reducible refine gate_dst (N := 5) rfl ?_); refine arr_new rfl 39 .u8 key (by first | (go_simp; done) | (go_simp; rfl)) ?_; intro w1 hA1 hB1; have HA1 := Lib.hid hA1; have HB1 := Lib.hid hB1; clear hA1 hB1)
    | ((with_reducible refine gate_dst (N := 6) rfl ?_); refine arr_new rfl 40 .u8 nonce (by first | (go_simp; done) | (go_simp; rfl)) ?_; intro w2 hA2 hB2; have HA2 := Lib.hid hA2; have HA12 := Lib.hid (HA1.out.next hB2); have HB2 := Lib.hid (below_next HB1.out hB2); have HR2 := Lib.hid (Kd.C_below HR.out HB2.out); clear hA2 hB2)
    | ((with_reducible refine gate_dst (N := 19) rfl ?_); refine Kd.R_lit (Kd.int .u8) (w0 := w2) w2.heap.size 5 ?hg (N := 19) ?hd (xs := ([] : List Int)) (inner := []) (ok := fun _ => True) (okp := fun _ => True) ?hr ?hp (fun _ hk => hk) trivial (Below.refl _ _) (Nat.le_refl _) (by simp) ?_; (case hd => rfl); (case hg => rfl); (case hr => first | (go_simp; done) | (go_simp; rfl)); (case hp => exact (Reps.none _ _)); intro v3 w3 ho3 hb3 hg_ hnew_; clear hg_ hnew_; have HO3 := Aside0.mk ho3; have HB3 := Aside0.mk hb3; clear ho3 hb3)
    | ((with_reducible refine gate_builtin (b := .append) (xs := #[.tmp 19, .tmp 20]) rfl ?_); at_builtin; refine Kd.R_append_rows (Kd.int .u8) (w0 := w2) w2.heap.size rfl (.tmp 19) (.tmp 20) 22 5 (.int .u8 0) 1 rfl Try.underlying22 Go.Proofs.Ytljmjeaocojnmaa.Com.info5 rfl (by decide) (by omega) v3 [] l A2 n c2 (fun _ => True) (fun _ => False) rfl rfl HO3.out (by exact Kd.C_below HR2.out HB3.out) (fun _ _ h => h) (fun _ h => h.elim) (fun _ _ => trivial) HB3.out HB3.out.size (by simp; omega) ?_; intro v4 w4 ho4 hb4 hg4 hat4; rw [List.nil_append] at ho4; obtain ⟨A4, c4, hv4, hlc4, hrd4⟩ := Kd.R_reads ho4; rw [← HLL.out] at hv4 hlc4 hrd4; subst hv4; have HO4 := Lib.hid hrd4; have HLC4 := Lib.hid hlc4; have HB4 := Lib.hid hb4; have HA14 := Lib.hid (HA12.out.next hb4); have HA24 := Lib.hid (HA2.out.next hb4); clear ho4 hb4 hg4 hat4 hlc4 hrd4)
    | ((with_reducible refine gate_dst (N := 22) rfl ?_); refine load_arr rfl 39 _ rfl w.heap.size rfl .u8 _ _ _ _ HA14.out Try.underlying39 (by rw [HK.out]; kernel_rfl) ?_)
    | ((with_reducible refine gate_dst (N := 23) rfl ?_); refine load_arr rfl 40 _ rfl w1.heap.size rfl .u8 _ _ _ _ HA24.out Try.underlying40 (by rw [HN.out]; kernel_rfl) ?_)
    | fail)
  generalize w1.heap.size = g2 at *
  generalize hg1 : w.heap.size = g1 at *
  have HG1 := Lib.hid hg1
  clear hg1
  have hX := code_any key nonce A4 c4 l w4 HK.out HKB.out HN.out HNB.out (by rw [← HLL.out]; exact HO4.out) (by rw [← HLL.out]; exact HLC4.out) (by rw [← HLL.out]; omega)
  rw [← HXS.out, ← HLL.out] at hX
  refine hX.mono ?_
  clear hX
  rintro e w5 ⟨v5, rfl, hO5, hB5⟩
  obtain ⟨A5, c5, e5, hlc5, hrd5⟩ := Kd.R_reads hO5
  rw [HXL.out] at e5 hlc5 hrd5
  subst e5
  have HX5 := Lib.hid hrd5
  have HXC := Lib.hid hlc5
  have HW5 := Lib.hid hB5
  clear hO5 hB5 hrd5 hlc5
  go_wp2_with fail
  refine (HNC.out w5).mono ?_
  rintro e w6 ⟨rfl, hB6⟩
  have HW6 := Lib.hid (below_next HW5.out hB6)
  have HX6 := Lib.hid (Kd.C_below HX5.out hB6)
  clear hB6 HNC
  go_wp2_with (first
    | ((with_reducible refine gate_dst (N := 13) rfl ?_); refine alloc_arr rfl 40 rfl .u8 (List.replicate 12 0) (fun w => Try.zeroValue40 w) (by first | (go_simp; done) | (go_simp; rfl)) ?_; intro w7 hA7 hB7)
    | ((with_reducible refine gate_store (t := 40) (p := 13) rfl ?_); refine store_arr rfl 40 _ _ rfl w6.heap.size .u8 ns rfl rfl 40 _ hA7 (by rw [HNL.out]; rfl) (by rw [HNL.out]; kernel_rfl) ?_; intro w8 hA8 hw8; have hB8 := below_setRow hB7 w6.heap.size (Nat.le_refl _) (nums .u8 ns).toArray; rw [← hw8] at hB8; have HA8 := Lib.hid hA8; have HW8 := Lib.hid (below_next HW6.out hB8); have HX8 := Lib.hid (Kd.C_below HX6.out hB8); clear hw8 hA8 hB8 hA7 hB7)
    | fail)
  generalize w6.heap.size = g13 at *
  have HA18 := Lib.hid (HA14.out.next HW8.out)
  have HA28 := Lib.hid (HA24.out.next HW8.out)
  have HO8 := Lib.hid (Kd.C_below HO4.out HW8.out)
  have HWB8 : Hid (Below w.heap.size w w8) := Lib.hid (by
    have hg := HG1.out
    have hb2 := HB2.out
    rw [← hg] at hb2
    exact below_next (below_next hb2 HB4.out) HW8.out)
  refine (new4_any g1 0 16 39 key w8 HK.out HKB.out (HA18.out.reads 16 HK.out (by decide)) (by decide) ⟨_, HA18.out.out⟩).mono ?_
  rintro e w9 ⟨gk, Aw, cw, Ab, cb, rfl, hKS, hB9⟩
  have HKS := Lib.hid hKS
  have HX9 := Lib.hid (Kd.C_below HX8.out hB9)
  have HA29 := Lib.hid (HA28.out.next hB9)
  have HA9 := Lib.hid (HA8.out.next hB9)
  have HO9 := Lib.hid (Kd.C_below HO8.out hB9)
  have HW9 := Lib.hid (below_next HWB8.out hB9)
  have HR9 := Lib.hid (Kd.C_below HR.out HW9.out)
  clear hKS hB9 HWB8 HX8 HA28 HA8 HO8 HW8 HA18 HX6 HW6 HX5 HW5 HA14 HA24 HO4 HB4 HB2 HR2 HO3 HB3 HA12 HA2 HA1 HB1
  go_wp2_with fail
  refine chain_region (by kernel_rfl) 28 (by kernel_rfl) ?_
  refine chain_take 0 (_) rfl (by kernel_rfl) (by kernel_rfl) (by kernel_rfl) (fun _ _ _ h => h) rfl (fun w' hw' => run_move_at _ rfl w') ?_
  simp only [Act.put, List.setIfInBounds_toArray, List.set_cons_zero, List.set_cons_succ]
  refine chain_take 1 (.string (strOfNums xs)) rfl (by kernel_rfl) (by kernel_rfl) (by kernel_rfl) (fun _ _ _ h => h) rfl (fun w' hw' => by (have hc0 := Kd.C_string (P := Try.prog) (dst := 9) (c := c5) Try.underlying22 Try.underlying5 Try.underlying9 (Kd.C_below (Kd.C_drew HX9.out) hw'); unfold execOp; simp [go_sem, Act.put, Act.eval, hc0])) ?_
  simp only [Act.put, List.setIfInBounds_toArray, List.set_cons_zero, List.set_cons_succ]
  refine chain_take 2 (_) rfl (by kernel_rfl) (by kernel_rfl) (by kernel_rfl) (fun _ _ _ h => h) rfl (fun w' hw' => run_move_at _ rfl w') ?_
  simp only [Act.put, List.setIfInBounds_toArray, List.set_cons_zero, List.set_cons_succ]
  refine chain_take 3 (.slice (some ⟨g2, 0, none⟩) 12 12) rfl (by kernel_rfl) (by kernel_rfl) (by kernel_rfl) (fun _ _ _ h => h) rfl (fun w' hw' => by (unfold execOp; simp [go_sem, Act.put, Act.eval])) ?_
  simp only [Act.put, List.setIfInBounds_toArray, List.set_cons_zero, List.set_cons_succ]
  refine chain_take 4 (_) rfl (by kernel_rfl) (by kernel_rfl) (by kernel_rfl) (fun _ _ _ h => h) rfl (fun w' hw' => run_move_at _ rfl w') ?_
  simp only [Act.put, List.setIfInBounds_toArray, List.set_cons_zero, List.set_cons_succ]
  refine chain_call 5 rfl (by kernel_rfl) rfl 25 _ _ Try.func25 (by kernel_rfl) rfl _ _ #[.pointer (some ⟨gk, 0, none⟩), .slice (some ⟨g2, 0, none⟩) 12 12, .slice A2 n c2] rfl (by simp [Act.put, Act.eval]) (show Calls _ _ _ _ (Go.Proofs.Ytljmjeaocojnmaa.Com.OutB w9.drew xs) from by (have h := rcode_any gk key Aw cw Ab cb (some ⟨g2, 0, none⟩) 12 nonce A2 c2 l w9.drew HK.out HKB.out HN.out HNB.out (by rw [← HLL.out]; omega) HKS.out.drew (HA29.out.drew.reads 12 HN.out (by decide)) (by decide) (by rw [← HLL.out]; exact Kd.C_drew HR9.out) (by rw [← HLL.out]; exact HCC.out); rw [← HXS.out, ← HLL.out] at h; exact h)) ?_
  rintro e W1 ⟨v9, rfl, hO1, hB1⟩
  refine ⟨_, rfl, hB1, ?_⟩
  simp only [Act.put, List.setIfInBounds_toArray, List.set_cons_zero, List.set_cons_succ]
  refine chain_take 6 (.string (strOfNums xs)) rfl (by kernel_rfl) (by kernel_rfl) (by kernel_rfl) (fun _ _ _ h => h) rfl (fun w' hw' => by (have hc0 := own_string (P := Try.prog) (dst := 9) Try.underlying22 Try.underlying5 Try.underlying9 (Kd.own_of_R (Kd.R_below hO1 hw')); unfold execOp; simp [go_sem, Act.put, Act.eval, hc0])) ?_
  simp only [Act.put, List.setIfInBounds_toArray, List.set_cons_zero, List.set_cons_succ]
  refine chain_take 7 (.bool true) rfl (by kernel_rfl) (by kernel_rfl) (by kernel_rfl) (fun _ _ _ h => h) rfl (fun w' hw' => by (unfold execOp; simp [go_sem, Act.put, Act.eval])) ?_
  simp only [Act.put, List.setIfInBounds_toArray, List.set_cons_zero, List.set_cons_succ]
  refine chain_take 8 (_) rfl (by kernel_rfl) (by kernel_rfl) (by kernel_rfl) (fun _ _ _ h => h) rfl (fun w' hw' => run_move_at _ rfl w') ?_
  simp only [Act.put, List.setIfInBounds_toArray, List.set_cons_zero, List.set_cons_succ]
  refine chain_take 9 (.slice (some ⟨g13, 0, none⟩) 12 12) rfl (by kernel_rfl) (by kernel_rfl) (by kernel_rfl) (fun _ _ _ h => h) rfl (fun w' hw' => by (unfold execOp; simp [go_sem, Act.put, Act.eval])) ?_
  simp only [Act.put, List.setIfInBounds_toArray, List.set_cons_zero, List.set_cons_succ]
  refine chain_take 10 (.string (strOfNums ns)) rfl (by kernel_rfl) (by kernel_rfl) (by kernel_rfl) (fun _ _ _ h => h) rfl (fun w' hw' => by (have hc0 := Kd.C_string (P := Try.prog) (dst := 9) (c := 12) Try.underlying22 Try.underlying5 Try.underlying9 ((HA9.out.drew.next (below_next hB1 hw')).reads 12 HNL.out (by decide)); unfold execOp; simp [go_sem, Act.put, Act.eval, hc0])) ?_
  simp only [Act.put, List.setIfInBounds_toArray, List.set_cons_zero, List.set_cons_succ]
  refine chain_take 11 (_) rfl (by kernel_rfl) (by kernel_rfl) (by kernel_rfl) (fun _ _ _ h => h) rfl (fun w' hw' => run_move_at _ rfl w') ?_
  simp only [Act.put, List.setIfInBounds_toArray, List.set_cons_zero, List.set_cons_succ]
  refine chain_take 12 (_) rfl (by kernel_rfl) (by kernel_rfl) (by kernel_rfl) (fun _ _ _ h => h) rfl (fun w' hw' => run_move_at _ rfl w') ?_
  simp only [Act.put, List.setIfInBounds_toArray, List.set_cons_zero, List.set_cons_succ]
  refine chain_call 13 rfl (by kernel_rfl) rfl 26 _ _ Try.func26 (by kernel_rfl) rfl _ _ #[.int .i64 b, .int .u64 c] rfl (by simp [Act.put, Act.eval]) (HNR.out W1) ?_
  rintro e W2 ⟨v10, rfl, hO2, hB2⟩
  refine ⟨_, rfl, hB2, ?_⟩
  have hB12 := below_next hB1 hB2
  simp only [Act.put, List.setIfInBounds_toArray, List.set_cons_zero, List.set_cons_succ]
  refine chain_take 14 (.string (strOfNums ns)) rfl (by kernel_rfl) (by kernel_rfl) (by kernel_rfl) (fun _ _ _ h => h) rfl (fun w' hw' => by (have hc0 := own_string (P := Try.prog) (dst := 9) Try.underlying22 Try.underlying5 Try.underlying9 (Kd.own_of_R (Kd.R_below hO2 hw')); unfold execOp; simp [go_sem, Act.put, Act.eval, hc0])) ?_
  simp only [Act.put, List.setIfInBounds_toArray, List.set_cons_zero, List.set_cons_succ]
  refine chain_take 15 (.bool true) rfl (by kernel_rfl) (by kernel_rfl) (by kernel_rfl) (fun _ _ _ h => h) rfl (fun w' hw' => by (unfold execOp; simp [go_sem, Act.put, Act.eval])) ?_
  simp only [Act.put, List.setIfInBounds_toArray, List.set_cons_zero, List.set_cons_succ]
  refine chain_take 16 (.bool true) rfl (by kernel_rfl) (by kernel_rfl) (by kernel_rfl) (fun _ _ _ h => h) rfl (fun w' hw' => by (unfold execOp; simp [go_sem, Act.put, Act.eval])) ?_
  simp only [Act.put, List.setIfInBounds_toArray, List.set_cons_zero, List.set_cons_succ]
  refine chain_take 17 (_) rfl (by kernel_rfl) (by kernel_rfl) (by kernel_rfl) (fun _ _ _ h => h) rfl (fun w' hw' => run_move_at _ rfl w') ?_
  simp only [Act.put, List.setIfInBounds_toArray, List.set_cons_zero, List.set_cons_succ]
  refine chain_take 18 (_) rfl (by kernel_rfl) (by kernel_rfl) (by kernel_rfl) (fun _ _ _ h => h) rfl (fun w' hw' => run_move_at _ rfl w') ?_
  simp only [Act.put, List.setIfInBounds_toArray, List.set_cons_zero, List.set_cons_succ]
  refine chain_take 19 (.string (strOfNums l)) rfl (by kernel_rfl) (by kernel_rfl) (by kernel_rfl) (fun _ _ _ h => h) rfl (fun w' hw' => by (have hc0 := Kd.C_string (P := Try.prog) (dst := 9) (c := c4) Try.underlying22 Try.underlying5 Try.underlying9 (Kd.C_below (Kd.C_drew HO9.out) (below_next hB12 hw')); unfold execOp; simp [go_sem, Act.put, Act.eval, hc0])) ?_
  simp only [Act.put, List.setIfInBounds_toArray, List.set_cons_zero, List.set_cons_succ]
  refine chain_take 20 (_) rfl (by kernel_rfl) (by kernel_rfl) (by kernel_rfl) (fun _ _ _ h => h) rfl (fun w' hw' => run_move_at _ rfl w') ?_
  simp only [Act.put, List.setIfInBounds_toArray, List.set_cons_zero, List.set_cons_succ]
  refine chain_take 21 (.string (strOfNums l)) rfl (by kernel_rfl) (by kernel_rfl) (by kernel_rfl) (fun _ _ _ h => h) rfl (fun w' hw' => by (have hc0 := Kd.C_string (P := Try.prog) (dst := 9) (c := c2) Try.underlying22 Try.underlying5 Try.underlying9 (Kd.C_below (Kd.C_drew HR9.out) (below_next hB12 hw')); unfold execOp; simp [go_sem, Act.put, Act.eval, hc0])) ?_
  simp only [Act.put, List.setIfInBounds_toArray, List.set_cons_zero, List.set_cons_succ]
  refine chain_take 22 (.bool true) rfl (by kernel_rfl) (by kernel_rfl) (by kernel_rfl) (fun _ _ _ h => h) rfl (fun w' hw' => by (unfold execOp; simp [go_sem, Act.put, Act.eval])) ?_
  simp only [Act.put, List.setIfInBounds_toArray, List.set_cons_zero, List.set_cons_succ]
  refine chain_take 23 (.bool true) rfl (by kernel_rfl) (by kernel_rfl) (by kernel_rfl) (fun _ _ _ h => h) rfl (fun w' hw' => by (unfold execOp; simp [go_sem, Act.put, Act.eval])) ?_
  simp only [Act.put, List.setIfInBounds_toArray, List.set_cons_zero, List.set_cons_succ]
  refine chain_take 24 (_) rfl (by kernel_rfl) (by kernel_rfl) (by kernel_rfl) (fun _ _ _ h => h) rfl (fun w' hw' => run_move_at _ rfl w') ?_
  simp only [Act.put, List.setIfInBounds_toArray, List.set_cons_zero, List.set_cons_succ]
  refine chain_call 25 rfl (by kernel_rfl) rfl 21 _ _ Try.func21 (by kernel_rfl) rfl _ _ #[] rfl (by simp [Act.put, Act.eval]) (knows4_any W2) ?_
  rintro e W3 ⟨rfl, hB3⟩
  refine ⟨_, rfl, hB3, ?_⟩
  simp only [Act.put, List.setIfInBounds_toArray, List.set_cons_zero, List.set_cons_succ]
  refine chain_take 26 (.bool true) rfl (by kernel_rfl) (by kernel_rfl) (by kernel_rfl) (fun _ _ _ h => h) rfl (fun w' hw' => by (unfold execOp; simp [go_sem, Act.put, Act.eval])) ?_
  simp only [Act.put, List.setIfInBounds_toArray, List.set_cons_zero, List.set_cons_succ]
  refine chain_take 27 (_) rfl (by kernel_rfl) (by kernel_rfl) (by kernel_rfl) (fun _ _ _ h => h) rfl (fun w' hw' => BigFrame.run_assign _ rfl w') ?_
  simp only [Act.put, List.setIfInBounds_toArray, List.set_cons_zero, List.set_cons_succ]
  refine chain_done (by kernel_rfl) ?_
  go_wp2_with fail
  go_ret
  exact ⟨rfl, below_next (below_drew HW9.out) (below_next hB12 hB3)⟩
set_option maxHeartbeats 1000000 in
theorem ccodes_big (a0 a1 : List Int) (A2 : Option Addr) (n c2 : Nat) (b c : Int) (w : World) (l0 : a0.length = 16) (l1 : a1.length = 12) (h : 200 < n) :
    Calls Try.prog 6 #[.agg (nums .u8 a0).toArray, .agg (nums .u8 a1).toArray, .slice A2 n c2, .int .i64 b, .int .u64 c] w (Tells4 w) := by
  have HK := Lib.hid l0
  have HN := Lib.hid l1
  clear l0 l1
  go_enter Try.func6, Try.ntmps6
  go_wp2_with (first
    | ((with_reducible refine gate_dst (N := 5) rfl ?_); refine arr_new rfl 39 .u8 a0 (by first | (go_simp; done) | (go_simp; rfl)) ?_; intro w1 hA1 hB1; have HB1 := Lib.hid hB1; clear hA1 hB1)
    | ((with_reducible refine gate_dst (N := 6) rfl ?_); refine arr_new rfl 40 .u8 a1 (by first | (go_simp; done) | (go_simp; rfl)) ?_; intro w2 hA2 hB2; have HB2 := Lib.hid (below_next HB1.out hB2); clear hA2 hB2)
    | fail)
  refine (knows4_any w2).mono ?_
  rintro e w3 ⟨rfl, hB⟩
  have HB := Lib.hid (below_next HB2.out hB)
  clear hB
  go_wp2_with fail
  go_ret
  exact ⟨rfl, HB.out⟩
theorem ctrCodes_walk (a0 a1 : List Int) (a2 : Option Addr) (len2 cap2 : Nat) (z2 : List Int) (a3 a4 : Int) (w : World) (l0 : a0.length = 16) (b0 : Bytes a0) (l1 : a1.length = 12) (b1 : Bytes a1)
    (w2 : (a2 = none ∧ len2 = 0 ∧ cap2 = 0 ∧ z2 = []) ∨ ∃ x, a2 = some x ∧ len2 ≤ cap2 ∧ cap2 ≤ maxLen ∧ z2.length = cap2 ∧ (∀ i, i < z2.length → w.cell? (x.add i) = some (.int .u8 (z2.getD i 0))) ∧ ∀ n ∈ z2, (Lit.int .u8 n).wf = true)
    (y2 : len2 * 1 ≤ 140737488351232) (w3 : (Lit.int .i64 a3).wf = true) (w4 : (Lit.int .u64 a4).wf = true) :
    Calls Try.prog 6 #[.agg (nums .u8 a0).toArray, .agg (nums .u8 a1).toArray, .slice a2 len2 cap2, .int .i64 a3, .int .u64 a4] w fun e w' => e = .returned (.bool true) ∧ Below w.heap.size w w' := by
  obtain ⟨l, hlen, hr, hc, hb⟩ := Go.Proofs.Ytljmjeaocojnmaa.Com.reads_of_row w2
  clear w2
  subst hlen
  by_cases hbig : 200 < l.length
  · exact ccodes_big a0 a1 a2 l.length cap2 a3 a4 w l0 l1 hbig
  · exact ccodes_few a0 a1 a2 cap2 l a3 a4 w l0 b0 l1 b1 hr hc (by omega) hb (Com.range64 w3) (Com.rangeu64 w4)
end Go.Proofs.Ytljmjeaocojnmaa.HCa
