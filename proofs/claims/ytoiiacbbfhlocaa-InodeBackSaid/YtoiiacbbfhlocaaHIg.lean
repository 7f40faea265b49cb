import Derived.Test.YtoiiacbbfhlocaaHIe
import Derived.Test.YtoiiacbbfhlocaaHId
import Derived.Test.YtoiiacbbfhlocaaPKb
import Derived.Test.YtoiiacbbfhlocaaChain
section
/- Layer 13: the document's Put and Get. -/
set_option linter.unusedVariables false
set_option linter.unusedSimpArgs false
namespace Go.Proofs.Ytoiiacbbfhlocaa.HIa
open Go.RowKit Go.Proofs.YtoiiacbbfhlocaaW.PrintWords Go.Proofs.YtoiiacbbfhlocaaW.PrintLast Go.Proofs.YtoiiacbbfhlocaaW.PrintMore Go.Proofs.Ytoiiacbbfhlocaa.Kit Go.Proofs.Ytoiiacbbfhlocaa.Rc Go.Proofs.Ytoiiacbbfhlocaa.Iw Go.Proofs.Ytoiiacbbfhlocaa.HKa
def rbytes (K B a b c d e : Int) : List Int := [K % 256, B / 256 % 256, B % 256, a % 256, b % 256, c % 256, d % 256, e % 256]
set_option maxRecDepth 100000 in
set_option maxHeartbeats 4000000 in
theorem riput_any (K B a b c d e : Int) (hB : 0 ≤ B) (hB2 : B < 100000) (w : World) : Calls Try.prog 32 #[ino K B a b c d e] w fun en w' => ∃ v, en = .returned v ∧ Kd.R (Kd.int .u8) 5 w' w.heap.size (fun _ => True) v (rbytes K B a b c d e) ∧ Below w.heap.size w w' := by
  have HU := Lib.hid trivial
  have hq : B.tdiv 256 = B / 256 := Int.tdiv_eq_ediv_of_nonneg hB
  have hq2 : IntKind.i64.wrap (B / 256) = B / 256 := iwrap_id _ (by omega) (by omega)
  go_enter Try.func32, Try.ntmps32
  go_wp2_with fail
  refine (numbers_any K B a b c d e _).mono ?_
  rintro en wr ⟨v, rfl, hR, hB1⟩
  have HB := Lib.hid (below_next (below_alloc (Below.refl _ _) _) hB1)
  obtain ⟨A0, cc0, rfl, hl0, hC0⟩ := Kd.R_reads hR
  obtain ⟨b0, o0, rfl, -⟩ := C_cells hC0 (by simp)
  have HC := Lib.hid (show Kd.C (Kd.int .i64) wr (some ⟨b0, o0, none⟩) 7 [K, B, a, b, c, d, e] from hC0)
  have hcc : 7 ≤ cc0 := hl0
  clear hR hC0 hl0 hB1
  simp only [List.length_cons, List.length_nil, Nat.reduceAdd]
  go_wp2_with fail
  refine s_region (fun u => Below wr.drew.heap.size wr.drew u) (by kernel_rfl) 35 (by kernel_rfl) (Below.refl _ _) (fun hS => ?_)
  have HCd := Lib.hid (Kd.C_drew HC.out)
  have HBd := Lib.hid (below_drew HB.out)
  have HCE := Lib.hid (fun (u : World) (hu : Below wr.drew.heap.size wr.drew u) (j : Nat) (hj : j < 7) => cells_of (Kd.C_below HCd.out hu) j hj)
  generalize wr.drew = wd at *
  clear HC HB
  refine s_take 0 (_) hS rfl (by kernel_rfl) (by kernel_rfl) (by kernel_rfl) (fun _ _ _ h => h) rfl (fun w' hw' => run_move_at _ rfl w') ?_
  simp only [Act.put, List.setIfInBounds_toArray, List.set_cons_zero, List.set_cons_succ]
  refine s_take 1 (.pointer (some ⟨b0, o0, none⟩)) hS rfl (by kernel_rfl) (by kernel_rfl) (by kernel_rfl) (fun _ _ _ h => h) rfl (fun w' hw' => by (unfold execOp; simp [go_sem, Act.put, Act.eval])) ?_
  simp only [Act.put, List.setIfInBounds_toArray, List.set_cons_zero, List.set_cons_succ]
  refine s_take 2 (.int .i64 K) hS rfl (by kernel_rfl) (by kernel_rfl) (by kernel_rfl) (fun _ _ _ h => h) rfl (fun w' hw' => by (have hc0 := (by have h := HCE.out w' hw' 0 (by omega); simpa using h : w'.cell? ⟨b0, o0, none⟩ = some (.int .i64 K)); unfold execOp; simp [go_sem, Act.put, Act.eval, hc0])) ?_
  simp only [Act.put, List.setIfInBounds_toArray, List.set_cons_zero, List.set_cons_succ]
  refine s_take 3 (.int .u8 (K % 256)) hS rfl (by kernel_rfl) (by kernel_rfl) (by kernel_rfl) (fun _ _ _ h => h) rfl (fun w' hw' => by (have hc0 := HU.out; unfold execOp; simp [go_sem, Act.put, Act.eval, IntKind.wrap_u8, hc0])) ?_
  simp only [Act.put, List.setIfInBounds_toArray, List.set_cons_zero, List.set_cons_succ]
  refine s_take 4 (_) hS rfl (by kernel_rfl) (by kernel_rfl) (by kernel_rfl) (fun _ _ _ h => h) rfl (fun w' hw' => run_move_at _ rfl w') ?_
  simp only [Act.put, List.setIfInBounds_toArray, List.set_cons_zero, List.set_cons_succ]
  refine s_take 5 (.pointer (some ⟨b0, o0 + 1, none⟩)) hS rfl (by kernel_rfl) (by kernel_rfl) (by kernel_rfl) (fun _ _ _ h => h) rfl (fun w' hw' => by (unfold execOp; simp [go_sem, Act.put, Act.eval])) ?_
  simp only [Act.put, List.setIfInBounds_toArray, List.set_cons_zero, List.set_cons_succ]
  refine s_take 6 (.int .i64 B) hS rfl (by kernel_rfl) (by kernel_rfl) (by kernel_rfl) (fun _ _ _ h => h) rfl (fun w' hw' => by (have hc0 := (by have h := HCE.out w' hw' 1 (by omega); simpa using h : w'.cell? ⟨b0, o0 + 1, none⟩ = some (.int .i64 B)); unfold execOp; simp [go_sem, Act.put, Act.eval, hc0])) ?_
  simp only [Act.put, List.setIfInBounds_toArray, List.set_cons_zero, List.set_cons_succ]
  refine s_take 7 (.int .i64 (B / 256)) hS rfl (by kernel_rfl) (by kernel_rfl) (by kernel_rfl) (fun _ _ _ h => h) rfl (fun w' hw' => by (have hc0 := hq; have hc1 := hq2; unfold execOp; simp [go_sem, Act.put, Act.eval, hc0, hc1])) ?_
  simp only [Act.put, List.setIfInBounds_toArray, List.set_cons_zero, List.set_cons_succ]
  refine s_take 8 (.int .u8 (B / 256 % 256)) hS rfl (by kernel_rfl) (by kernel_rfl) (by kernel_rfl) (fun _ _ _ h => h) rfl (fun w' hw' => by (have hc0 := HU.out; unfold execOp; simp [go_sem, Act.put, Act.eval, IntKind.wrap_u8, hc0])) ?_
  simp only [Act.put, List.setIfInBounds_toArray, List.set_cons_zero, List.set_cons_succ]
  refine s_take 9 (_) hS rfl (by kernel_rfl) (by kernel_rfl) (by kernel_rfl) (fun _ _ _ h => h) rfl (fun w' hw' => run_move_at _ rfl w') ?_
  simp only [Act.put, List.setIfInBounds_toArray, List.set_cons_zero, List.set_cons_succ]
  refine s_take 10 (.pointer (some ⟨b0, o0 + 1, none⟩)) hS rfl (by kernel_rfl) (by kernel_rfl) (by kernel_rfl) (fun _ _ _ h => h) rfl (fun w' hw' => by (unfold execOp; simp [go_sem, Act.put, Act.eval])) ?_
  simp only [Act.put, List.setIfInBounds_toArray, List.set_cons_zero, List.set_cons_succ]
  refine s_take 11 (.int .i64 B) hS rfl (by kernel_rfl) (by kernel_rfl) (by kernel_rfl) (fun _ _ _ h => h) rfl (fun w' hw' => by (have hc0 := (by have h := HCE.out w' hw' 1 (by omega); simpa using h : w'.cell? ⟨b0, o0 + 1, none⟩ = some (.int .i64 B)); unfold execOp; simp [go_sem, Act.put, Act.eval, hc0])) ?_
  simp only [Act.put, List.setIfInBounds_toArray, List.set_cons_zero, List.set_cons_succ]
  refine s_take 12 (.int .u8 (B % 256)) hS rfl (by kernel_rfl) (by kernel_rfl) (by kernel_rfl) (fun _ _ _ h => h) rfl (fun w' hw' => by (have hc0 := HU.out; unfold execOp; simp [go_sem, Act.put, Act.eval, IntKind.wrap_u8, hc0])) ?_
  simp only [Act.put, List.setIfInBounds_toArray, List.set_cons_zero, List.set_cons_succ]
  refine s_take 13 (_) hS rfl (by kernel_rfl) (by kernel_rfl) (by kernel_rfl) (fun _ _ _ h => h) rfl (fun w' hw' => run_move_at _ rfl w') ?_
  simp only [Act.put, List.setIfInBounds_toArray, List.set_cons_zero, List.set_cons_succ]
  refine s_take 14 (.pointer (some ⟨b0, o0 + 2, none⟩)) hS rfl (by kernel_rfl) (by kernel_rfl) (by kernel_rfl) (fun _ _ _ h => h) rfl (fun w' hw' => by (unfold execOp; simp [go_sem, Act.put, Act.eval])) ?_
  simp only [Act.put, List.setIfInBounds_toArray, List.set_cons_zero, List.set_cons_succ]
  refine s_take 15 (.int .i64 a) hS rfl (by kernel_rfl) (by kernel_rfl) (by kernel_rfl) (fun _ _ _ h => h) rfl (fun w' hw' => by (have hc0 := (by have h := HCE.out w' hw' 2 (by omega); simpa using h : w'.cell? ⟨b0, o0 + 2, none⟩ = some (.int .i64 a)); unfold execOp; simp [go_sem, Act.put, Act.eval, hc0])) ?_
  simp only [Act.put, List.setIfInBounds_toArray, List.set_cons_zero, List.set_cons_succ]
  refine s_take 16 (.int .u8 (a % 256)) hS rfl (by kernel_rfl) (by kernel_rfl) (by kernel_rfl) (fun _ _ _ h => h) rfl (fun w' hw' => by (have hc0 := HU.out; unfold execOp; simp [go_sem, Act.put, Act.eval, IntKind.wrap_u8, hc0])) ?_
  simp only [Act.put, List.setIfInBounds_toArray, List.set_cons_zero, List.set_cons_succ]
  refine s_take 17 (_) hS rfl (by kernel_rfl) (by kernel_rfl) (by kernel_rfl) (fun _ _ _ h => h) rfl (fun w' hw' => run_move_at _ rfl w') ?_
  simp only [Act.put, List.setIfInBounds_toArray, List.set_cons_zero, List.set_cons_succ]
  refine s_take 18 (.pointer (some ⟨b0, o0 + 3, none⟩)) hS rfl (by kernel_rfl) (by kernel_rfl) (by kernel_rfl) (fun _ _ _ h => h) rfl (fun w' hw' => by (unfold execOp; simp [go_sem, Act.put, Act.eval])) ?_
  simp only [Act.put, List.setIfInBounds_toArray, List.set_cons_zero, List.set_cons_succ]
  refine s_take 19 (.int .i64 b) hS rfl (by kernel_rfl) (by kernel_rfl) (by kernel_rfl) (fun _ _ _ h => h) rfl (fun w' hw' => by (have hc0 := (by have h := HCE.out w' hw' 3 (by omega); simpa using h : w'.cell? ⟨b0, o0 + 3, none⟩ = some (.int .i64 b)); unfold execOp; simp [go_sem, Act.put, Act.eval, hc0])) ?_
  simp only [Act.put, List.setIfInBounds_toArray, List.set_cons_zero, List.set_cons_succ]
  refine s_take 20 (.int .u8 (b % 256)) hS rfl (by kernel_rfl) (by kernel_rfl) (by kernel_rfl) (fun _ _ _ h => h) rfl (fun w' hw' => by (have hc0 := HU.out; unfold execOp; simp [go_sem, Act.put, Act.eval, IntKind.wrap_u8, hc0])) ?_
  simp only [Act.put, List.setIfInBounds_toArray, List.set_cons_zero, List.set_cons_succ]
  refine s_take 21 (_) hS rfl (by kernel_rfl) (by kernel_rfl) (by kernel_rfl) (fun _ _ _ h => h) rfl (fun w' hw' => run_move_at _ rfl w') ?_
  simp only [Act.put, List.setIfInBounds_toArray, List.set_cons_zero, List.set_cons_succ]
  refine s_take 22 (.pointer (some ⟨b0, o0 + 4, none⟩)) hS rfl (by kernel_rfl) (by kernel_rfl) (by kernel_rfl) (fun _ _ _ h => h) rfl (fun w' hw' => by (unfold execOp; simp [go_sem, Act.put, Act.eval])) ?_
  simp only [Act.put, List.setIfInBounds_toArray, List.set_cons_zero, List.set_cons_succ]
  refine s_take 23 (.int .i64 c) hS rfl (by kernel_rfl) (by kernel_rfl) (by kernel_rfl) (fun _ _ _ h => h) rfl (fun w' hw' => by (have hc0 := (by have h := HCE.out w' hw' 4 (by omega); simpa using h : w'.cell? ⟨b0, o0 + 4, none⟩ = some (.int .i64 c)); unfold execOp; simp [go_sem, Act.put, Act.eval, hc0])) ?_
  simp only [Act.put, List.setIfInBounds_toArray, List.set_cons_zero, List.set_cons_succ]
  refine s_take 24 (.int .u8 (c % 256)) hS rfl (by kernel_rfl) (by kernel_rfl) (by kernel_rfl) (fun _ _ _ h => h) rfl (fun w' hw' => by (have hc0 := HU.out; unfold execOp; simp [go_sem, Act.put, Act.eval, IntKind.wrap_u8, hc0])) ?_
  simp only [Act.put, List.setIfInBounds_toArray, List.set_cons_zero, List.set_cons_succ]
  refine s_take 25 (_) hS rfl (by kernel_rfl) (by kernel_rfl) (by kernel_rfl) (fun _ _ _ h => h) rfl (fun w' hw' => run_move_at _ rfl w') ?_
  simp only [Act.put, List.setIfInBounds_toArray, List.set_cons_zero, List.set_cons_succ]
  refine s_take 26 (.pointer (some ⟨b0, o0 + 5, none⟩)) hS rfl (by kernel_rfl) (by kernel_rfl) (by kernel_rfl) (fun _ _ _ h => h) rfl (fun w' hw' => by (unfold execOp; simp [go_sem, Act.put, Act.eval])) ?_
  simp only [Act.put, List.setIfInBounds_toArray, List.set_cons_zero, List.set_cons_succ]
  refine s_take 27 (.int .i64 d) hS rfl (by kernel_rfl) (by kernel_rfl) (by kernel_rfl) (fun _ _ _ h => h) rfl (fun w' hw' => by (have hc0 := (by have h := HCE.out w' hw' 5 (by omega); simpa using h : w'.cell? ⟨b0, o0 + 5, none⟩ = some (.int .i64 d)); unfold execOp; simp [go_sem, Act.put, Act.eval, hc0])) ?_
  simp only [Act.put, List.setIfInBounds_toArray, List.set_cons_zero, List.set_cons_succ]
  refine s_take 28 (.int .u8 (d % 256)) hS rfl (by kernel_rfl) (by kernel_rfl) (by kernel_rfl) (fun _ _ _ h => h) rfl (fun w' hw' => by (have hc0 := HU.out; unfold execOp; simp [go_sem, Act.put, Act.eval, IntKind.wrap_u8, hc0])) ?_
  simp only [Act.put, List.setIfInBounds_toArray, List.set_cons_zero, List.set_cons_succ]
  refine s_take 29 (_) hS rfl (by kernel_rfl) (by kernel_rfl) (by kernel_rfl) (fun _ _ _ h => h) rfl (fun w' hw' => run_move_at _ rfl w') ?_
  simp only [Act.put, List.setIfInBounds_toArray, List.set_cons_zero, List.set_cons_succ]
  refine s_take 30 (.pointer (some ⟨b0, o0 + 6, none⟩)) hS rfl (by kernel_rfl) (by kernel_rfl) (by kernel_rfl) (fun _ _ _ h => h) rfl (fun w' hw' => by (unfold execOp; simp [go_sem, Act.put, Act.eval])) ?_
  simp only [Act.put, List.setIfInBounds_toArray, List.set_cons_zero, List.set_cons_succ]
  refine s_take 31 (.int .i64 e) hS rfl (by kernel_rfl) (by kernel_rfl) (by kernel_rfl) (fun _ _ _ h => h) rfl (fun w' hw' => by (have hc0 := (by have h := HCE.out w' hw' 6 (by omega); simpa using h : w'.cell? ⟨b0, o0 + 6, none⟩ = some (.int .i64 e)); unfold execOp; simp [go_sem, Act.put, Act.eval, hc0])) ?_
  simp only [Act.put, List.setIfInBounds_toArray, List.set_cons_zero, List.set_cons_succ]
  refine s_take 32 (.int .u8 (e % 256)) hS rfl (by kernel_rfl) (by kernel_rfl) (by kernel_rfl) (fun _ _ _ h => h) rfl (fun w' hw' => by (have hc0 := HU.out; unfold execOp; simp [go_sem, Act.put, Act.eval, IntKind.wrap_u8, hc0])) ?_
  simp only [Act.put, List.setIfInBounds_toArray, List.set_cons_zero, List.set_cons_succ]
  have hbA := below_alloc (Below.refl wd.heap.size wd) (.cells #[.int .u8 (K % 256), .int .u8 (B / 256 % 256), .int .u8 (B % 256), .int .u8 (a % 256), .int .u8 (b % 256), .int .u8 (c % 256), .int .u8 (d % 256), .int .u8 (e % 256)] 5)
  have hRA := (Arr.new wd .u8 5 [K % 256, B / 256 % 256, B % 256, a % 256, b % 256, c % 256, d % 256, e % 256]).row w.heap.size 8 rfl HBd.out.size (by decide) (fun _ => True) trivial
  refine s_event 33 (.slice (some ⟨wd.heap.size, 0, none⟩) 8 8) (wd.alloc (.cells #[.int .u8 (K % 256), .int .u8 (B / 256 % 256), .int .u8 (B % 256), .int .u8 (a % 256), .int .u8 (b % 256), .int .u8 (c % 256), .int .u8 (d % 256), .int .u8 (e % 256)] 5)) rfl (by kernel_rfl) rfl (by (unfold execOp; simp [go_sem, Act.put, Act.eval])) (hbA) (fun hS => ?_)
  simp only [Act.put, List.setIfInBounds_toArray, List.set_cons_zero, List.set_cons_succ]
  refine s_take 34 (_) hS rfl (by kernel_rfl) (by kernel_rfl) (by kernel_rfl) (fun _ _ _ h => h) rfl (fun w' hw' => BigFrame.run_assign _ rfl w') ?_
  simp only [Act.put, List.setIfInBounds_toArray, List.set_cons_zero, List.set_cons_succ]
  refine s_done (by kernel_rfl) ?_
  have HBA := Lib.hid (below_next HBd.out hbA)
  have HRA := Lib.hid hRA
  clear hbA hRA hS
  go_wp2_with fail
  go_ret
  exact ⟨_, rfl, HRA.out, HBA.out⟩
set_option maxRecDepth 100000 in
set_option maxHeartbeats 4000000 in
theorem riget_bad (A0 : Option Addr) (c0 : Nat) (b : List Int) (w : World) (h8 : b.length ≠ 8) : Calls Try.prog 34 #[.slice A0 b.length c0] w (GetIOut ([0, 0, 0, 0, 0, 0, 0], 1) w) := by
  have h8' : ((b.length : Int) != 8) = true := by simp; omega
  clear h8
  go_enter Try.func34, Try.ntmps34
  go_wp2_with (first
    | ((with_reducible refine gate_dst (N := 2) rfl ?_); refine alloc_arr rfl 52 rfl .i64 [0, 0, 0, 0, 0, 0, 0] (fun w => Try.zeroValue52 w) (by first | (go_simp; done) | (go_simp; rfl)) ?_; intro w1 hA1 hB1; have HA1 := Lib.hid hA1; have HB1 := Lib.hid hB1; clear hA1 hB1)
    | ((with_reducible refine gate_store (t := 52) (p := 2) rfl ?_); refine store_arr rfl 52 _ _ rfl w.heap.size .i64 [0, 0, 0, 0, 0, 0, 0] rfl (by rfl) 52 _ HA1.out rfl (by kernel_rfl) ?_; intro w4 hA4 hw4; have hB4 := below_setRow HB1.out w.heap.size (Nat.le_refl _) (nums .i64 [0, 0, 0, 0, 0, 0, 0]).toArray; rw [← hw4] at hB4; have HA4 := Lib.hid hA4; have HB4 := Lib.hid hB4; clear hA4 hw4 hB4)
    | fail)
  refine bodyPost_ret (results_ct rfl _ _ w.heap.size .i64 52 _ [0, 0, 0, 0, 0, 0, 0] rfl HA4.out Try.underlying52 rfl (by kernel_rfl)) rfl ?_
  exact ⟨rfl, HB4.out⟩
theorem u8i (x : Int) (h0 : 0 ≤ x) (h1 : x < 256) : IntKind.i64.wrap x = x := iwrap_id x h0 (by omega)
set_option maxRecDepth 100000 in
set_option maxHeartbeats 4000000 in
theorem riget_go (A0 : Option Addr) (c0 : Nat) (b0_ b1_ b2_ b3_ b4_ b5_ b6_ b7_ : Int) (w : World) (hr : Kd.C (Kd.int .u8) w A0 8 [b0_, b1_, b2_, b3_, b4_, b5_, b6_, b7_]) (hb : Bytes [b0_, b1_, b2_, b3_, b4_, b5_, b6_, b7_]) (R : List Int × Int) (hR : R = if mayF b0_ (256 * b1_ + b2_) b3_ b4_ b5_ b6_ b7_ = true then ([b0_, 256 * b1_ + b2_, b3_, b4_, b5_, b6_, b7_], 0) else ([0, 0, 0, 0, 0, 0, 0], 10)) : Calls Try.prog 34 #[.slice A0 8 c0] w (GetIOut R w) := by
  have HRR := Lib.hid hR
  clear hR
  have k0 := hb b0_ (by simp)
  have k1 := hb b1_ (by simp)
  have k2 := hb b2_ (by simp)
  have k3 := hb b3_ (by simp)
  have k4 := hb b4_ (by simp)
  have k5 := hb b5_ (by simp)
  have k6 := hb b6_ (by simp)
  have k7 := hb b7_ (by simp)
  have hw0 := u8i b0_ k0.1 k0.2
  have hw1 := u8i b1_ k1.1 k1.2
  have hw2 := u8i b2_ k2.1 k2.2
  have hw7 := u8i b7_ k7.1 k7.2
  have hw12 := iwrap_id (256 * b1_) (by omega) (by omega)
  have hw122 := iwrap_id (256 * b1_ + b2_) (by omega) (by omega)
  have HWX := Lib.hid (show ∀ q : Nat, q < 4 → IntKind.i64.wrap ([b3_, b4_, b5_, b6_].getD q 0) = [b3_, b4_, b5_, b6_].getD q 0 from fun q hq => by
    obtain rfl | rfl | rfl | rfl : q = 0 ∨ q = 1 ∨ q = 2 ∨ q = 3 := by omega
    · exact u8i b3_ k3.1 k3.2
    · exact u8i b4_ k4.1 k4.2
    · exact u8i b5_ k5.1 k5.2
    · exact u8i b6_ k6.1 k6.2)
  obtain ⟨b0, o0, rfl, -⟩ := C_cells hr (by omega)
  have HC0 := Lib.hid hr
  clear hr hb k3 k4 k5 k6
  go_enter Try.func34, Try.ntmps34
  go_wp2_with (first
    | ((with_reducible refine gate_dst (N := 2) rfl ?_); refine alloc_arr rfl 52 rfl .i64 [0, 0, 0, 0, 0, 0, 0] (fun w => Try.zeroValue52 w) (by first | (go_simp; done) | (go_simp; rfl)) ?_; intro wr hA1 hB1; have HR := Lib.hid hA1; have HB := Lib.hid hB1; have HC := Lib.hid (Kd.C_below HC0.out hB1); clear hA1 hB1)
    | fail)
  generalize hg2 : w.heap.size = g2 at HR ⊢
  refine s_region (fun u => Below wr.drew.heap.size wr.drew u) (by kernel_rfl) 21 (by kernel_rfl) (Below.refl _ _) (fun hS => ?_)
  have HCd := Lib.hid (Kd.C_drew HC.out)
  have HRd := Lib.hid HR.out.drew
  have HBd := Lib.hid (below_drew HB.out)
  have HCE := Lib.hid (fun (u : World) (hu : Below wr.drew.heap.size wr.drew u) (j : Nat) (hj : j < 8) => cells_of (Kd.C_below HCd.out hu) j hj)
  generalize wr.drew = wd at *
  clear HC HR HB
  refine s_take 0 (_) hS rfl (by kernel_rfl) (by kernel_rfl) (by kernel_rfl) (fun _ _ _ h => h) rfl (fun w' hw' => run_move_at _ rfl w') ?_
  simp only [Act.put, List.setIfInBounds_toArray, List.set_cons_zero, List.set_cons_succ]
  refine s_take 1 (.pointer (some ⟨b0, o0, none⟩)) hS rfl (by kernel_rfl) (by kernel_rfl) (by kernel_rfl) (fun _ _ _ h => h) rfl (fun w' hw' => by (unfold execOp; simp [go_sem, Act.put, Act.eval])) ?_
  simp only [Act.put, List.setIfInBounds_toArray, List.set_cons_zero, List.set_cons_succ]
  refine s_take 2 (.int .u8 b0_) hS rfl (by kernel_rfl) (by kernel_rfl) (by kernel_rfl) (fun _ _ _ h => h) rfl (fun w' hw' => by (have hc0 := (by have h := HCE.out w' hw' 0 (by omega); simpa using h : w'.cell? ⟨b0, o0, none⟩ = some (.int .u8 b0_)); unfold execOp; simp [go_sem, Act.put, Act.eval, hc0])) ?_
  simp only [Act.put, List.setIfInBounds_toArray, List.set_cons_zero, List.set_cons_succ]
  refine s_take 3 (.int .i64 b0_) hS rfl (by kernel_rfl) (by kernel_rfl) (by kernel_rfl) (fun _ _ _ h => h) rfl (fun w' hw' => by (have hc0 := hw0; unfold execOp; simp [go_sem, Act.put, Act.eval, hc0])) ?_
  simp only [Act.put, List.setIfInBounds_toArray, List.set_cons_zero, List.set_cons_succ]
  refine s_take 4 (_) hS rfl (by kernel_rfl) (by kernel_rfl) (by kernel_rfl) (fun _ _ _ h => h) rfl (fun w' hw' => run_move_at _ rfl w') ?_
  simp only [Act.put, List.setIfInBounds_toArray, List.set_cons_zero, List.set_cons_succ]
  refine s_take 5 (.pointer (some ⟨b0, o0 + 1, none⟩)) hS rfl (by kernel_rfl) (by kernel_rfl) (by kernel_rfl) (fun _ _ _ h => h) rfl (fun w' hw' => by (unfold execOp; simp [go_sem, Act.put, Act.eval])) ?_
  simp only [Act.put, List.setIfInBounds_toArray, List.set_cons_zero, List.set_cons_succ]
  refine s_take 6 (.int .u8 b1_) hS rfl (by kernel_rfl) (by kernel_rfl) (by kernel_rfl) (fun _ _ _ h => h) rfl (fun w' hw' => by (have hc0 := (by have h := HCE.out w' hw' 1 (by omega); simpa using h : w'.cell? ⟨b0, o0 + 1, none⟩ = some (.int .u8 b1_)); unfold execOp; simp [go_sem, Act.put, Act.eval, hc0])) ?_
  simp only [Act.put, List.setIfInBounds_toArray, List.set_cons_zero, List.set_cons_succ]
  refine s_take 7 (.int .i64 b1_) hS rfl (by kernel_rfl) (by kernel_rfl) (by kernel_rfl) (fun _ _ _ h => h) rfl (fun w' hw' => by (have hc0 := hw1; unfold execOp; simp [go_sem, Act.put, Act.eval, hc0])) ?_
  simp only [Act.put, List.setIfInBounds_toArray, List.set_cons_zero, List.set_cons_succ]
  refine s_take 8 (.int .i64 (256 * b1_)) hS rfl (by kernel_rfl) (by kernel_rfl) (by kernel_rfl) (fun _ _ _ h => h) rfl (fun w' hw' => by (have hc0 := hw12; unfold execOp; simp [go_sem, Act.put, Act.eval, hc0])) ?_
  simp only [Act.put, List.setIfInBounds_toArray, List.set_cons_zero, List.set_cons_succ]
  refine s_take 9 (_) hS rfl (by kernel_rfl) (by kernel_rfl) (by kernel_rfl) (fun _ _ _ h => h) rfl (fun w' hw' => run_move_at _ rfl w') ?_
  simp only [Act.put, List.setIfInBounds_toArray, List.set_cons_zero, List.set_cons_succ]
  refine s_take 10 (.pointer (some ⟨b0, o0 + 2, none⟩)) hS rfl (by kernel_rfl) (by kernel_rfl) (by kernel_rfl) (fun _ _ _ h => h) rfl (fun w' hw' => by (unfold execOp; simp [go_sem, Act.put, Act.eval])) ?_
  simp only [Act.put, List.setIfInBounds_toArray, List.set_cons_zero, List.set_cons_succ]
  refine s_take 11 (.int .u8 b2_) hS rfl (by kernel_rfl) (by kernel_rfl) (by kernel_rfl) (fun _ _ _ h => h) rfl (fun w' hw' => by (have hc0 := (by have h := HCE.out w' hw' 2 (by omega); simpa using h : w'.cell? ⟨b0, o0 + 2, none⟩ = some (.int .u8 b2_)); unfold execOp; simp [go_sem, Act.put, Act.eval, hc0])) ?_
  simp only [Act.put, List.setIfInBounds_toArray, List.set_cons_zero, List.set_cons_succ]
  refine s_take 12 (.int .i64 b2_) hS rfl (by kernel_rfl) (by kernel_rfl) (by kernel_rfl) (fun _ _ _ h => h) rfl (fun w' hw' => by (have hc0 := hw2; unfold execOp; simp [go_sem, Act.put, Act.eval, hc0])) ?_
  simp only [Act.put, List.setIfInBounds_toArray, List.set_cons_zero, List.set_cons_succ]
  refine s_take 13 (.int .i64 (256 * b1_ + b2_)) hS rfl (by kernel_rfl) (by kernel_rfl) (by kernel_rfl) (fun _ _ _ h => h) rfl (fun w' hw' => by (have hc0 := hw122; unfold execOp; simp [go_sem, Act.put, Act.eval, hc0])) ?_
  simp only [Act.put, List.setIfInBounds_toArray, List.set_cons_zero, List.set_cons_succ]
  refine s_take 14 (_) hS rfl (by kernel_rfl) (by kernel_rfl) (by kernel_rfl) (fun _ _ _ h => h) rfl (fun w' hw' => run_move_at _ rfl w') ?_
  simp only [Act.put, List.setIfInBounds_toArray, List.set_cons_zero, List.set_cons_succ]
  refine s_take 15 (.pointer (some ⟨b0, o0 + 7, none⟩)) hS rfl (by kernel_rfl) (by kernel_rfl) (by kernel_rfl) (fun _ _ _ h => h) rfl (fun w' hw' => by (unfold execOp; simp [go_sem, Act.put, Act.eval])) ?_
  simp only [Act.put, List.setIfInBounds_toArray, List.set_cons_zero, List.set_cons_succ]
  refine s_take 16 (.int .u8 b7_) hS rfl (by kernel_rfl) (by kernel_rfl) (by kernel_rfl) (fun _ _ _ h => h) rfl (fun w' hw' => by (have hc0 := (by have h := HCE.out w' hw' 7 (by omega); simpa using h : w'.cell? ⟨b0, o0 + 7, none⟩ = some (.int .u8 b7_)); unfold execOp; simp [go_sem, Act.put, Act.eval, hc0])) ?_
  simp only [Act.put, List.setIfInBounds_toArray, List.set_cons_zero, List.set_cons_succ]
  refine s_take 17 (.int .i64 b7_) hS rfl (by kernel_rfl) (by kernel_rfl) (by kernel_rfl) (fun _ _ _ h => h) rfl (fun w' hw' => by (have hc0 := hw7; unfold execOp; simp [go_sem, Act.put, Act.eval, hc0])) ?_
  simp only [Act.put, List.setIfInBounds_toArray, List.set_cons_zero, List.set_cons_succ]
  refine s_take 18 (.agg (nums .i64 [b0_, 256 * b1_ + b2_, 0, 0, 0, 0, b7_]).toArray) hS rfl (by kernel_rfl) (by kernel_rfl) (by kernel_rfl) (fun _ _ _ h => h) rfl (fun w' hw' => run_build_at _ _ rfl #[(0, .int .i64 b0_), (1, .int .i64 (256 * b1_ + b2_)), (3, .int .i64 b7_)] (by simp [Act.eval]) _ (by kernel_rfl)) ?_
  simp only [Act.put, List.setIfInBounds_toArray, List.set_cons_zero, List.set_cons_succ]
  refine s_one 19 rfl (by kernel_rfl) ?_
  have hbA := below_alloc (Below.refl wd.heap.size wd) (.cells (nums .i64 [0, 0, 0, 0, 0, 0, 0]).toArray 52)
  have HA6 := Arr.new wd .i64 52 [0, 0, 0, 0, 0, 0, 0]
  refine g_event (.pointer (some ⟨wd.heap.size, 0, none⟩)) (wd.alloc (.cells (nums .i64 [0, 0, 0, 0, 0, 0, 0]).toArray 52)) rfl (by (unfold execOp; simp [go_sem, Act.put, Act.eval]; first | done | rfl)) hbA (fun hS => ?_)
  simp only [Act.put, List.setIfInBounds_toArray, List.set_cons_zero, List.set_cons_succ]
  obtain ⟨wA, hwA⟩ : ∃ W, W = wd.alloc (.cells (nums .i64 [0, 0, 0, 0, 0, 0, 0]).toArray 52) := ⟨_, rfl⟩
  rw [← hwA] at HA6 hS hbA ⊢
  refine s_store_arr 20 rfl (by kernel_rfl) rfl 52 _ _ rfl wd.heap.size .i64 [b0_, 256 * b1_ + b2_, 0, 0, 0, 0, b7_] rfl rfl 52 [0, 0, 0, 0, 0, 0, 0] HA6 rfl (by kernel_rfl) (below_setRow hS _ (Nat.le_refl _) _) (fun hA7 => ?_)
  simp only [Act.put, List.setIfInBounds_toArray, List.set_cons_zero, List.set_cons_succ]
  have hB7 := below_setRow hbA wd.heap.size (Nat.le_refl _) (nums .i64 [b0_, 256 * b1_ + b2_, 0, 0, 0, 0, b7_]).toArray
  refine s_done (by kernel_rfl) ?_
  obtain ⟨w7, hw7'⟩ : ∃ W, W = wA.setRow wd.heap.size (nums .i64 [b0_, 256 * b1_ + b2_, 0, 0, 0, 0, b7_]).toArray := ⟨_, rfl⟩
  rw [← hw7'] at hA7 hB7 ⊢
  have HA7 := Lib.hid hA7
  have HB7 := Lib.hid (below_next HBd.out hB7)
  have HC7 := Lib.hid (fun (j : Nat) (hj : j < 8) => cells_of (Kd.C_below HCd.out hB7) j hj)
  have hb06 : b0 < wd.heap.size := cell_lt (cells_of HCd.out 0 (by omega))
  have HR7 := Lib.hid (HRd.out.next hB7)
  have hrg := HRd.out.lt
  have hgw : w.heap.size ≤ wd.heap.size := HBd.out.size
  generalize wd.heap.size = g6 at HA7 hrg hgw hb06 ⊢
  clear hA7 hB7 hw7' hwA HA6 hbA hS HCd HRd HBd HCE
  go_wp2_with fail
  go_loopw [5] (fun iv wr => ∃ q : Nat, iv = .int .i64 q ∧ q ≤ 4 ∧ Arr .i64 52 wr g6 ([b0_, 256 * b1_ + b2_] ++ [b3_, b4_, b5_, b6_].take q ++ List.replicate (4 - q) 0 ++ [b7_]) ∧ (∀ j, j < 8 → wr.cell? ⟨b0, o0 + j, none⟩ = some (.int .u8 ([b0_, b1_, b2_, b3_, b4_, b5_, b6_, b7_].getD j 0))) ∧ Arr .i64 52 wr g2 [0, 0, 0, 0, 0, 0, 0] ∧ Below w.heap.size w wr) (fun iv _ => 4 - (intOf iv).toNat)
  case atStart => exact ⟨0, rfl, by omega, HA7.out, HC7.out, HR7.out, HB7.out⟩
  obtain ⟨q, rfl, hq, hA, hC, hG, hB⟩ := hrel
  have HA := Lib.hid hA
  have HCq := Lib.hid hC
  have HGq := Lib.hid hG
  have HBq := Lib.hid hB
  clear hA hC hG hB HA7 HC7 HR7 HB7
  by_cases hq4 : q < 4
  · have hqi : (q : Int) < 4 := by omega
    obtain ⟨x, hx⟩ : ∃ x, x = [b3_, b4_, b5_, b6_].getD q 0 := ⟨_, rfl⟩
    have hxw := HWX.out q hq4
    rw [← hx] at hxw
    have hcx : wr.cell? ⟨b0, o0 + (3 + q), none⟩ = some (.int .u8 x) := by
      have h := HCq.out (3 + q) (by omega)
      rw [h, hx]
      obtain rfl | rfl | rfl | rfl : q = 0 ∨ q = 1 ∨ q = 2 ∨ q = 3 := by omega
      all_goals rfl
    have hlen : ([b0_, 256 * b1_ + b2_] ++ [b3_, b4_, b5_, b6_].take q ++ List.replicate (4 - q) 0 ++ [b7_]).length = 7 := by simp; omega
    have hcs := HA.out.cellN (2 + q) (by rw [hlen]; omega)
    have hfs := HA.out.free (2 + q)
    have HPUT := Lib.hid (HA.out.put (2 + q) x)
    have HSET : Hid (([b0_, 256 * b1_ + b2_] ++ [b3_, b4_, b5_, b6_].take q ++ List.replicate (4 - q) 0 ++ [b7_]).set (2 + q) x = [b0_, 256 * b1_ + b2_] ++ [b3_, b4_, b5_, b6_].take (q + 1) ++ List.replicate (4 - (q + 1)) 0 ++ [b7_]) := Lib.hid (by
      rw [hx]
      obtain rfl | rfl | rfl | rfl : q = 0 ∨ q = 1 ∨ q = 2 ∨ q = 3 := by omega
      all_goals rfl)
    have HCN := Lib.hid (show ∀ j, j < 8 → (wr.setCell ⟨g6, 2 + q, none⟩ (.int .i64 x)).cell? ⟨b0, o0 + j, none⟩ = some (.int .u8 ([b0_, b1_, b2_, b3_, b4_, b5_, b6_, b7_].getD j 0)) from fun j hj => by
      rw [World.cell?_setCell_other _ _ _ _ (fun e => by injection e with e1; omega)]
      exact HCq.out j hj)
    have HGN := Lib.hid (HGq.out.far ⟨g6, 2 + q, none⟩ (Nat.ne_of_lt hrg) (.int .i64 x))
    have HBN := Lib.hid (HBq.out.setCell (p := ⟨g6, 2 + q, none⟩) hgw (.int .i64 x))
    rw [HSET.out] at HPUT
    clear hx
    go_wp2_with fail
    go_roundw
    case rel => exact ⟨q + 1, rfl, by omega, HPUT.out, HCN.out, HGN.out, HBN.out⟩
    case measure => simp [intOf]; omega
  · obtain rfl : q = 4 := by omega
    have HA := Lib.hid (show Arr .i64 52 wr g6 [b0_, 256 * b1_ + b2_, b3_, b4_, b5_, b6_, b7_] from HA.out)
    go_wp2_with (first
      | ((with_reducible refine gate_dst (N := 43) rfl ?_); refine load_row rfl 52 _ rfl g6 rfl .i64 52 _ [b0_, 256 * b1_ + b2_, b3_, b4_, b5_, b6_, b7_] HA.out Try.underlying52 rfl (by kernel_rfl) ?_)
      | fail)
    refine (rmay_any b0_ (256 * b1_ + b2_) b3_ b4_ b5_ b6_ b7_ _).mono ?_
    rintro en w8 ⟨rfl, hB8⟩
    have HB8 := Lib.hid (below_next HBq.out hB8)
    have HA8 := Lib.hid (HA.out.next hB8)
    have HG8 := Lib.hid (HGq.out.next hB8)
    have hgg : w.heap.size ≤ g2 := Nat.le_of_eq hg2
    clear hB8 HA HBq HGq HCq
    by_cases hm : mayF b0_ (256 * b1_ + b2_) b3_ b4_ b5_ b6_ b7_ = true
    · have HRf : Hid (R = ([b0_, 256 * b1_ + b2_, b3_, b4_, b5_, b6_, b7_], 0)) := Lib.hid (by rw [HRR.out, if_pos hm])
      rw [hm]
      clear HRR hm
      go_wp2_with (first
        | ((with_reducible refine gate_dst (N := 48) rfl ?_); refine load_row rfl 52 _ rfl g6 rfl .i64 52 _ [b0_, 256 * b1_ + b2_, b3_, b4_, b5_, b6_, b7_] HA8.out Try.underlying52 rfl (by kernel_rfl) ?_)
        | ((with_reducible refine gate_store (t := 52) (p := 2) rfl ?_); refine store_arr rfl 52 _ _ rfl g2 .i64 [b0_, 256 * b1_ + b2_, b3_, b4_, b5_, b6_, b7_] rfl (by rfl) 52 _ HG8.out rfl (by kernel_rfl) ?_; intro w9 hA9 hw9; have hB9 := below_setRow HB8.out g2 hgg (nums .i64 [b0_, 256 * b1_ + b2_, b3_, b4_, b5_, b6_, b7_]).toArray; rw [← hw9] at hB9; have HA9 := Lib.hid hA9; have HB9 := Lib.hid hB9; clear hA9 hw9 hB9)
        | fail)
      refine bodyPost_ret (results_ct rfl _ _ g2 .i64 52 _ [b0_, 256 * b1_ + b2_, b3_, b4_, b5_, b6_, b7_] rfl HA9.out Try.underlying52 rfl (by kernel_rfl)) rfl ?_
      exact ⟨by rw [HRf.out]; rfl, HB9.out⟩
    · have HRf : Hid (R = ([0, 0, 0, 0, 0, 0, 0], 10)) := Lib.hid (by rw [HRR.out, if_neg hm])
      have hmf : mayF b0_ (256 * b1_ + b2_) b3_ b4_ b5_ b6_ b7_ = false := by simpa using hm
      rw [hmf]
      clear HRR hm hmf
      go_wp2_with (first
        | ((with_reducible refine gate_store (t := 52) (p := 2) rfl ?_); refine store_arr rfl 52 _ _ rfl g2 .i64 [0, 0, 0, 0, 0, 0, 0] rfl (by rfl) 52 _ HG8.out rfl (by kernel_rfl) ?_; intro w9 hA9 hw9; have hB9 := below_setRow HB8.out g2 hgg (nums .i64 [0, 0, 0, 0, 0, 0, 0]).toArray; rw [← hw9] at hB9; have HA9 := Lib.hid hA9; have HB9 := Lib.hid hB9; clear hA9 hw9 hB9)
        | fail)
      refine bodyPost_ret (results_ct rfl _ _ g2 .i64 52 _ [0, 0, 0, 0, 0, 0, 0] rfl HA9.out Try.underlying52 rfl (by kernel_rfl)) rfl ?_
      exact ⟨by rw [HRf.out]; rfl, HB9.out⟩
theorem riget_any (A0 : Option Addr) (c0 : Nat) (b : List Int) (w : World) (hr : Kd.C (Kd.int .u8) w A0 b.length b) (hb : Bytes b) : Calls Try.prog 34 #[.slice A0 b.length c0] w (GetIOut (getI b) w) := by
  unfold getI
  by_cases h8 : b.length = 8
  · rw [if_pos h8]
    match b, h8, hr, hb with
    | [b0_, b1_, b2_, b3_, b4_, b5_, b6_, b7_], _, hr, hb =>
      refine riget_go A0 c0 b0_ b1_ b2_ b3_ b4_ b5_ b6_ b7_ w hr hb _ ?_
      have e : zI [b0_, b1_, b2_, b3_, b4_, b5_, b6_, b7_] = [b0_, 256 * b1_ + b2_, b3_, b4_, b5_, b6_, b7_] := by
        show [b0_, b1_ * 256 + b2_, b3_, b4_, b5_, b6_, b7_] = _
        rw [Int.mul_comm]
      rw [e]
      rfl
  · rw [if_neg h8]
    exact riget_bad A0 c0 b w h8
end Go.Proofs.Ytoiiacbbfhlocaa.HIa
end
section
/- Layer 13, plain: an inode's bytes, and back. -/
set_option linter.unusedVariables false
set_option linter.unusedSimpArgs false
namespace Go.Proofs.Ytoiiacbbfhlocaa.HIa
open Go.RowKit Go.Proofs.YtoiiacbbfhlocaaW.PrintWords Go.Proofs.YtoiiacbbfhlocaaW.PrintLast Go.Proofs.YtoiiacbbfhlocaaW.PrintMore Go.Proofs.Ytoiiacbbfhlocaa.Kit Go.Proofs.Ytoiiacbbfhlocaa.Rc Go.Proofs.Ytoiiacbbfhlocaa.Iw Go.Proofs.Ytoiiacbbfhlocaa.HKa
theorem bg1 (x : Int) : bg x 1 = [x % 256] := rfl
theorem bg2 (x : Int) : bg x 2 = [x / 256 % 256, x % 256] := rfl
theorem putI_ok {K B a b c d e : Int} (h : mayF K B a b c d e = true) : putI K B a b c d e = (rbytes K B a b c d e, 0) := by
  unfold putI
  rw [if_pos h]
  obtain ⟨hK, hB, hx⟩ := may_range h
  have ha := hx a (by simp)
  have hb := hx b (by simp)
  have hc := hx c (by simp)
  have hd := hx d (by simp)
  have he := hx e (by simp)
  have z1 : ∀ x : Int, 0 ≤ x ∧ x ≤ 127 → x / 256 ^ (1 : Int).toNat = 0 := fun x hx => by
    show x / 256 ^ 1 = 0
    rw [Int.pow_succ, Int.pow_zero, Int.one_mul]; omega
  have zB : B / 256 ^ (2 : Int).toNat = 0 := by
    show B / 256 ^ 2 = 0
    rw [show (256 : Int) ^ 2 = 65536 from rfl]; omega
  unfold putF
  rw [if_neg (by rw [wide8]; simp)]
  simp only [putG, z1 K (by omega), z1 a ha, z1 b hb, z1 c hc, z1 d hd, z1 e he, zB, if_true]
  simp only [show (1 : Int).toNat = 1 from rfl, show (2 : Int).toNat = 2 from rfl, bg1, bg2]
  rfl
theorem putI_no {K B a b c d e : Int} (h : mayF K B a b c d e = false) : putI K B a b c d e = ([], 1) := by
  unfold putI
  rw [if_neg (by simp [h])]
theorem rbytes_len (K B a b c d e : Int) : (rbytes K B a b c d e).length = 8 := rfl
theorem rbytes_b (K B a b c d e : Int) : Bytes (rbytes K B a b c d e) := by
  intro y hy
  unfold rbytes at hy
  simp only [List.mem_cons, List.not_mem_nil, or_false] at hy
  omega
theorem zI_rbytes {K B a b c d e : Int} (h : mayF K B a b c d e = true) : zI (rbytes K B a b c d e) = [K, B, a, b, c, d, e] := by
  obtain ⟨hK, hB, hx⟩ := may_range h
  have ha := hx a (by simp)
  have hb := hx b (by simp)
  have hc := hx c (by simp)
  have hd := hx d (by simp)
  have he := hx e (by simp)
  show [K % 256, B / 256 % 256 * 256 + B % 256, a % 256, b % 256, c % 256, d % 256, e % 256] = _
  rw [show K % 256 = K from by omega, show B / 256 % 256 * 256 + B % 256 = B from by omega, show a % 256 = a from by omega, show b % 256 = b from by omega, show c % 256 = c from by omega, show d % 256 = d from by omega, show e % 256 = e from by omega]
theorem getI_put {K B a b c d e : Int} (h : mayF K B a b c d e = true) : getI (rbytes K B a b c d e) = ([K, B, a, b, c, d, e], 0) := by
  unfold getI
  rw [if_pos (rbytes_len _ _ _ _ _ _ _), zI_rbytes h, if_pos (show mayL [K, B, a, b, c, d, e] = true from h)]
theorem rbytes_zI (b0 b1 b2 b3 b4 b5 b6 b7 : Int) (hb : Bytes [b0, b1, b2, b3, b4, b5, b6, b7]) : rbytes b0 (b1 * 256 + b2) b3 b4 b5 b6 b7 = [b0, b1, b2, b3, b4, b5, b6, b7] := by
  have k0 := hb b0 (by simp)
  have k1 := hb b1 (by simp)
  have k2 := hb b2 (by simp)
  have k3 := hb b3 (by simp)
  have k4 := hb b4 (by simp)
  have k5 := hb b5 (by simp)
  have k6 := hb b6 (by simp)
  have k7 := hb b7 (by simp)
  unfold rbytes
  rw [show b0 % 256 = b0 from by omega, show (b1 * 256 + b2) / 256 % 256 = b1 from by omega, show (b1 * 256 + b2) % 256 = b2 from by omega, show b3 % 256 = b3 from by omega, show b4 % 256 = b4 from by omega, show b5 % 256 = b5 from by omega, show b6 % 256 = b6 from by omega, show b7 % 256 = b7 from by omega]
/-- what Get tells: seven numbers; fit, their bytes are those -/
theorem getI_two (b : List Int) (hb : Bytes b) : ∃ K B a c d e f, (getI b).1 = [K, B, a, c, d, e, f] ∧ (((getI b).2 = 0 ∧ mayF K B a c d e f = true ∧ rbytes K B a c d e f = b) ∨ (getI b).2 = 10 ∨ (getI b).2 = 1) := by
  unfold getI
  by_cases h8 : b.length = 8
  · rw [if_pos h8]
    match b, h8, hb with
    | [b0, b1, b2, b3, b4, b5, b6, b7], _, hb =>
      by_cases hm : mayL (zI [b0, b1, b2, b3, b4, b5, b6, b7]) = true
      · rw [if_pos hm]
        exact ⟨_, _, _, _, _, _, _, rfl, .inl ⟨rfl, hm, rbytes_zI b0 b1 b2 b3 b4 b5 b6 b7 hb⟩⟩
      · rw [if_neg hm]
        exact ⟨_, _, _, _, _, _, _, rfl, .inr (.inl rfl)⟩
  · rw [if_neg h8]
    exact ⟨_, _, _, _, _, _, _, rfl, .inr (.inr rfl)⟩
theorem need_any (B : Int) (h0 : -9223372036854775808 ≤ B) (h1 : B < 9223372036854775808) : inode_Need.f B = some (if dataF B > 4 then dataF B + 1 else dataF B) := by
  unfold inode_Need.f
  rw [data_tells B h0 h1]
  simp only [Option.bind_some]
  have hd : dataF B ≤ 144115188075855873 ∧ 0 ≤ dataF B := by unfold dataF; split <;> omega
  by_cases h : dataF B > 4
  · rw [if_pos h, if_pos h, wrap_id _ (by omega) (by omega)]
  · rw [if_neg h, if_neg h]
theorem need_mono (x y : Int) (h : x ≤ y) : (if dataF x > 4 then dataF x + 1 else dataF x) ≤ (if dataF y > 4 then dataF y + 1 else dataF y) := by
  have hd : dataF x ≤ dataF y := by unfold dataF; split <;> split <;> omega
  split <;> split <;> omega
end Go.Proofs.Ytoiiacbbfhlocaa.HIa
end
section
/- Layer 13: knows, and the walk of InodePuts. -/
set_option linter.unusedVariables false
set_option linter.unusedSimpArgs false
namespace Go.Proofs.Ytoiiacbbfhlocaa.HIa
open Go.RowKit Go.Proofs.YtoiiacbbfhlocaaW.PrintWords Go.Proofs.YtoiiacbbfhlocaaW.PrintLast Go.Proofs.YtoiiacbbfhlocaaW.PrintMore Go.Proofs.Ytoiiacbbfhlocaa.Kit Go.Proofs.Ytoiiacbbfhlocaa.Rc Go.Proofs.Ytoiiacbbfhlocaa.Iw Go.Proofs.Ytoiiacbbfhlocaa.HKa
attribute [local go_sem ↓] Go.wp_at_zero Go.wp_at_succ
attribute [local irreducible] putF getF mayF rbytes strOfNums inode_Need.f padlockref13_Need.f
set_option maxRecDepth 100000 in
set_option maxHeartbeats 4000000 in
theorem knows13_any (w : World) : Calls Try.prog 26 #[] w (Tells true w) := by
  have hm1 : mayF 1 65 9 10 0 0 0 = true := by decide +kernel
  have HP : Hid (putI 1 65 9 10 0 0 0 = ([1, 0, 65, 9, 10, 0, 0, 0], 0)) := Lib.hid (by rw [putI_ok hm1]; decide +kernel)
  have HG : Hid (getI [] = ([0, 0, 0, 0, 0, 0, 0], 1)) := Lib.hid (by decide +kernel)
  have HM : Hid (mayF 3 0 0 0 0 0 0 = false) := Lib.hid (by decide +kernel)
  have HN1 : Hid (inode_Need.f 256 = some 4) := Lib.hid (by decide +kernel)
  have HN2 : Hid (inode_Need.f 257 = some 6) := Lib.hid (by decide +kernel)
  clear hm1
  go_enter Try.func26, Try.ntmps26
  go_wp2_with fail
  have h1 := iput_any 1 65 9 10 0 0 0 w
  rw [HP.out] at h1
  refine h1.mono ?_
  rintro en w1 ⟨v1, rfl, hR1, hB1⟩
  obtain ⟨A1, c1, rfl, hl1, hC1⟩ := Kd.R_reads hR1
  have HC1 := Lib.hid hC1
  have HB1 := Lib.hid hB1
  clear hR1 hB1 hC1 hl1 h1 HP
  simp only [List.length_cons, List.length_nil, Nat.reduceAdd]
  go_wp2_with fail
  have h2 := iget_any none 0 [] w1 (Kd.C_nil _ _) (by simp) (fun y hy => absurd hy List.not_mem_nil)
  rw [HG.out] at h2
  refine h2.mono ?_
  rintro en w2 ⟨rfl, hB2⟩
  have HC2 := Lib.hid (Kd.C_below HC1.out hB2)
  have HB2 := Lib.hid (below_next HB1.out hB2)
  clear hB2 h2 HC1 HB1 HG
  go_wp2_with (first
    | ((with_reducible refine gate_dst (N := 3) rfl ?_); refine alloc_arr rfl 52 rfl .i64 [0, 0, 0, 0, 0, 0, 0] (fun w => Try.zeroValue52 w) (by first | (go_simp; done) | (go_simp; rfl)) ?_; intro w3 hA3 hB3; have HA3 := Lib.hid hA3; have HB3 := Lib.hid (below_next HB2.out hB3); have HC3 := Lib.hid (Kd.C_below HC2.out hB3); have HX3 := Lib.hid hB3; clear hA3 hB3)
    | ((with_reducible refine gate_store (t := 52) (p := 3) rfl ?_); refine store_arr rfl 52 _ _ rfl w2.heap.size .i64 [0, 0, 0, 0, 0, 0, 0] rfl (by rfl) 52 _ HA3.out rfl (by kernel_rfl) ?_; intro w4 hA4 hw4; have hb := below_setRow HX3.out w2.heap.size (Nat.le_refl _) (nums .i64 [0, 0, 0, 0, 0, 0, 0]).toArray; rw [← hw4] at hb; have HB4 := Lib.hid (below_next HB2.out hb); have HC4 := Lib.hid (Kd.C_below HC2.out hb); clear hA4 hw4 hb)
    | fail)
  refine (inode_Need.calls 256 4 _ HN1.out).mono ?_
  rintro en w5 ⟨rfl, hB5⟩
  have HC5 := Lib.hid (Kd.C_below HC4.out hB5)
  have HB5 := Lib.hid (below_next HB4.out hB5)
  clear hB5
  go_wp2_with fail
  refine (inode_Need.calls 257 6 _ HN2.out).mono ?_
  rintro en w6 ⟨rfl, hB6⟩
  have HC6 := Lib.hid (Kd.C_below HC5.out hB6)
  have HB6 := Lib.hid (below_next HB5.out hB6)
  have hs := Kd.C_string (P := Try.prog) (dst := 9) (c := c1) Try.underlying29 Try.underlying5 Try.underlying9 (HC6.out)
  rw [show strOfNums [1, 0, 65, 9, 10, 0, 0, 0] = ⟨#[1, 0, 65, 9, 10, 0, 0, 0]⟩ from by decide +kernel, show ([1, 0, 65, 9, 10, 0, 0, 0] : List Int).length = 8 from rfl] at hs
  clear hB6
  go_wp2_with fail
  refine (may_any 3 0 0 0 0 0 0 _).mono ?_
  rintro en w7 ⟨rfl, hB7⟩
  rw [HM.out]
  have HB7 := Lib.hid (below_next HB6.out hB7)
  clear hB7
  go_wp2_with fail
  go_ret
  exact ⟨rfl, HB7.out⟩
set_option maxRecDepth 100000 in
set_option maxHeartbeats 1000000 in
theorem iputs_big (K B a b c d e : Int) (A1 : Option Addr) (n c1 : Nat) (by_ : Int) (w : World) (h : 50 < 51 ∧ (100 < n ∨ 100000 < by_)) : Calls Try.prog 6 #[ino K B a b c d e, .slice A1 n c1, .int .i64 by_] w (Tells true w) := by
  have h' : (100 : Int) < (n : Int) ∨ 100000 < by_ := by omega
  clear h
  rcases Int.lt_or_le 100 (n : Int) with h1 | h1
  · clear h'
    go_enter Try.func6, Try.ntmps6
    go_wp2_with fail
    refine (knows13_any _).mono ?_
    rintro en w3 ⟨rfl, hB⟩
    have HB := Lib.hid (below_next (below_alloc (Below.refl _ _) _) hB)
    clear hB
    go_wp2_with fail
    go_ret
    exact ⟨rfl, HB.out⟩
  · have h2 : 100000 < by_ := by omega
    clear h'
    go_enter Try.func6, Try.ntmps6
    go_wp2_with fail
    refine (knows13_any _).mono ?_
    rintro en w3 ⟨rfl, hB⟩
    have HB := Lib.hid (below_next (below_alloc (Below.refl _ _) _) hB)
    clear hB
    go_wp2_with fail
    go_ret
    exact ⟨rfl, HB.out⟩
set_option maxRecDepth 100000 in
set_option maxHeartbeats 8000000 in
theorem iputs_few (K B a b c d e : Int) (A1 : Option Addr) (n c1 : Nat) (raw : List Int) (by_ : Int) (w : World) (hn : n ≤ 100) (hy : by_ ≤ 100000) (hy0 : -9223372036854775808 ≤ by_) (hr : Kd.C (Kd.int .u8) w A1 n raw) (hc : n ≤ c1) (hrb : Bytes raw) : Calls Try.prog 6 #[ino K B a b c d e, .slice A1 n c1, .int .i64 by_] w (Tells true w) := by
  obtain ⟨ND, hnd1, hnd2, -⟩ := need_tells by_ hy0 (by omega) 4000 (by omega)
  have HN1 := Lib.hid hnd1
  have HN2 := Lib.hid hnd2
  have hrl : raw.length = n := hr.1
  obtain ⟨z0, z1, z2, z3, z4, z5, z6, hz, -⟩ := getI_two raw hrb
  obtain ⟨er, her⟩ : ∃ x, x = (getI raw).2 := ⟨_, rfl⟩
  have HGT : Hid (getI raw = ([z0, z1, z2, z3, z4, z5, z6], er)) := Lib.hid (by rw [her, ← hz])
  have HIG : Hid (∀ W, Kd.C (Kd.int .u8) W A1 n raw → Calls Try.prog 33 #[.slice A1 n c1] W (GetIOut ([z0, z1, z2, z3, z4, z5, z6], er) W)) := Lib.hid (fun W h => by
    have h := iget_any A1 c1 raw W (by rw [hrl]; exact h) (by omega) hrb
    rw [HGT.out, hrl] at h
    exact h)
  have HRG : Hid (∀ W, Kd.C (Kd.int .u8) W A1 n raw → Calls Try.prog 34 #[.slice A1 n c1] W (GetIOut ([z0, z1, z2, z3, z4, z5, z6], er) W)) := Lib.hid (fun W h => by
    have h := riget_any A1 c1 raw W (by rw [hrl]; exact h) hrb
    rw [HGT.out, hrl] at h
    exact h)
  have HR := Lib.hid hr
  have HEQ := Lib.hid (show ∀ w, (Op.equalIn 10000 52 (.agg (nums .i64 [z0, z1, z2, z3, z4, z5, z6]).toArray) (.agg (nums .i64 [z0, z1, z2, z3, z4, z5, z6]).toArray)).run Try.prog w = .ok true w from fun w => (eq_ino z0 z1 z2 z3 z4 z5 z6 z0 z1 z2 z3 z4 z5 z6 w).trans (by simp))
  clear hnd1 hnd2 hr hc hrb hrl hz her
  have hn' : (n : Int) ≤ 100 := by omega
  obtain ⟨RB, hRB⟩ : ∃ l, l = rbytes K B a b c d e := ⟨_, rfl⟩
  have HRL : Hid (RB.length = 8) := Lib.hid (by rw [hRB]; exact rbytes_len _ _ _ _ _ _ _)
  have HRP : Hid (mayF K B a b c d e = true → ∀ W, Calls Try.prog 32 #[ino K B a b c d e] W fun en w' => ∃ v, en = .returned v ∧ Kd.R (Kd.int .u8) 5 w' W.heap.size (fun _ => True) v RB ∧ Below W.heap.size W w') := Lib.hid (fun h W => by
    rw [hRB]
    exact riput_any K B a b c d e (may_range h).2.1.1 (by have := (may_range h).2.1.2; omega) W)
  have HPT : Hid (∀ W, Calls Try.prog 27 #[ino K B a b c d e] W (PutOut (putI K B a b c d e) W)) := Lib.hid (fun W => iput_any K B a b c d e W)
  have HOK : Hid (mayF K B a b c d e = true → putI K B a b c d e = (RB, 0)) := Lib.hid (fun h => by rw [hRB]; exact putI_ok h)
  clear hRB
  go_enter Try.func6, Try.ntmps6
  go_wp2_with fail
  have HA0 := Lib.hid (Arr.new w .i64 52 [K, B, a, b, c, d, e])
  have HB0 := Lib.hid (below_alloc (Below.refl w.heap.size w) (.cells #[.int .i64 K, .int .i64 B, .int .i64 a, .int .i64 b, .int .i64 c, .int .i64 d, .int .i64 e] 52))
  cases hmv : mayF K B a b c d e
  · have HMV := Lib.hid hmv
    have HPK := putI_no hmv
    clear hmv HOK
    have hp := HPT.out (w.alloc (.cells #[.int .i64 K, .int .i64 B, .int .i64 a, .int .i64 b, .int .i64 c, .int .i64 d, .int .i64 e] 52))
    rw [HPK] at hp
    refine hp.mono ?_
    rintro en w4 ⟨v4, rfl, hR4, hB4⟩
    obtain ⟨A4, c4, rfl, hl4, hC4⟩ := Kd.R_reads hR4
    simp only [List.length_nil]
    have HA4 := Lib.hid (HA0.out.next hB4)
    have HB4 := Lib.hid (below_next HB0.out hB4)
    clear hp HPK hR4 hC4 hl4 hB4 HPT HA0 HB0
    generalize hg0 : w.heap.size = g at HA4 ⊢
    go_wp2_with (first | ((with_reducible refine gate_dst (N := 27) rfl ?_); refine load_row rfl 52 _ rfl g rfl .i64 52 _ [K, B, a, b, c, d, e] HA4.out Try.underlying52 rfl (by kernel_rfl) ?_) | fail)
    refine (rmay_any K B a b c d e _).mono ?_
    rintro en w5 ⟨rfl, hB5⟩
    have HA5 := Lib.hid (HA4.out.next hB5)
    have HB5 := Lib.hid (below_next HB4.out hB5)
    rw [HMV.out]
    clear hB5 HA4 HB4
    go_wp2_with (first | ((with_reducible refine gate_dst (N := 29) rfl ?_); refine load_row rfl 52 _ rfl g rfl .i64 52 _ [K, B, a, b, c, d, e] HA5.out Try.underlying52 rfl (by kernel_rfl) ?_) | fail)
    refine (may_any K B a b c d e _).mono ?_
    rintro en w6 ⟨rfl, hB6⟩
    have HA6 := Lib.hid (HA5.out.next hB6)
    have HB6 := Lib.hid (below_next HB5.out hB6)
    rw [HMV.out]
    clear hB6 HA5 HB5
    go_wp2_with fail
    refine (inode_Need.calls by_ ND _ HN1.out).mono ?_
    rintro en w7 ⟨rfl, hB7⟩
    have HA7 := Lib.hid (HA6.out.next hB7)
    have HB7 := Lib.hid (below_next HB6.out hB7)
    clear hB7 HA6 HB6
    go_wp2_with fail
    refine (padlockref13_Need.calls 4000 by_ ND _ HN2.out).mono ?_
    rintro en w8 ⟨rfl, hD8⟩
    have hB8 := hD8.below
    have HA := Lib.hid (HA7.out.next hB8)
    have HB := Lib.hid (below_next HB7.out hB8)
    clear hB8 hD8 HA7 HB7
    go_wp2_with fail
    go_quiet (fail)
    have HB9 := Lib.hid (below_next HB.out (pw_below_drewN (Below.refl w8.heap.size w8) nq))
    generalize w8.drewN nq = w9 at HB9 ⊢
    have HR9 := Lib.hid (Kd.C_below HR.out HB9.out)
    go_wp2_with fail
    refine (HIG.out w9 HR9.out).mono ?_
    rintro en w10 ⟨rfl, hB10⟩
    have HB10 := Lib.hid (below_next HB9.out hB10)
    have HR10 := Lib.hid (Kd.C_below HR9.out hB10)
    clear hB10 HB9 HR9
    go_wp2_with (first | ((with_reducible refine gate_dst (N := 10) rfl ?_); refine alloc_arr rfl 52 rfl .i64 [0, 0, 0, 0, 0, 0, 0] (fun w => Try.zeroValue52 w) (by first | (go_simp; done) | (go_simp; rfl)) ?_; intro wA1 hAA hBA; have HAA1 := Lib.hid hAA; have HXA1 := Lib.hid hBA; clear hAA hBA) | ((with_reducible refine gate_store (t := 52) (p := 10) rfl ?_); refine store_arr rfl 52 _ _ rfl w10.heap.size .i64 [z0, z1, z2, z3, z4, z5, z6] rfl (by rfl) 52 _ HAA1.out rfl (by kernel_rfl) ?_; intro w11 hAS hwS; have hb := below_setRow HXA1.out w10.heap.size (Nat.le_refl _) (nums .i64 [z0, z1, z2, z3, z4, z5, z6]).toArray; rw [← hwS] at hb; have HAS1 := Lib.hid hAS; have HBS1 := Lib.hid hb; clear hAS hwS hb) | fail)
    refine (HRG.out w11 (Kd.C_below HR10.out HBS1.out)).mono ?_
    rintro en w12 ⟨rfl, hB12⟩
    have HB12 := Lib.hid (below_next (below_next HB10.out HBS1.out) hB12)
    have HY12 := Lib.hid (HAS1.out.next hB12)
    have hlt10 : w10.heap.size < w12.heap.size := HY12.out.lt
    clear hB12 HB10 HR10 HBS1 HAS1
    have heq := HEQ.out
    go_wp2_with (first | ((with_reducible refine gate_dst (N := 12) rfl ?_); refine alloc_arr rfl 52 rfl .i64 [0, 0, 0, 0, 0, 0, 0] (fun w => Try.zeroValue52 w) (by first | (go_simp; done) | (go_simp; rfl)) ?_; intro wA2 hAA hBA; have HAA2 := Lib.hid hAA; have HXA2 := Lib.hid hBA; clear hAA hBA) | ((with_reducible refine gate_store (t := 52) (p := 12) rfl ?_); refine store_arr rfl 52 _ _ rfl w12.heap.size .i64 [z0, z1, z2, z3, z4, z5, z6] rfl (by rfl) 52 _ HAA2.out rfl (by kernel_rfl) ?_; intro w13 hAS hwS; have hb := below_setRow HXA2.out w12.heap.size (Nat.le_refl _) (nums .i64 [z0, z1, z2, z3, z4, z5, z6]).toArray; rw [← hwS] at hb; have HAS2 := Lib.hid hAS; have HBS2 := Lib.hid hb; clear hAS hwS hb) | ((with_reducible refine gate_dst (N := 76) rfl ?_); refine load_row rfl 52 _ rfl w10.heap.size rfl .i64 52 _ [z0, z1, z2, z3, z4, z5, z6] (HY12.out.next HBS2.out) Try.underlying52 rfl (by kernel_rfl) ?_) | ((with_reducible refine gate_dst (N := 77) rfl ?_); refine load_row rfl 52 _ rfl w12.heap.size rfl .i64 52 _ [z0, z1, z2, z3, z4, z5, z6] HAS2.out Try.underlying52 rfl (by kernel_rfl) ?_) | fail)
    refine (knows13_any w13).mono ?_
    rintro en w15 ⟨rfl, hB15⟩
    have HB15 := Lib.hid (below_next (below_next HB12.out HBS2.out) hB15)
    clear hB15
    go_wp2_with fail
    go_ret
    exact ⟨rfl, HB15.out⟩
  · have HMV := Lib.hid hmv
    have HPK := HOK.out hmv
    have HRP := Lib.hid (HRP.out hmv)
    clear hmv HOK
    have hp := HPT.out (w.alloc (.cells #[.int .i64 K, .int .i64 B, .int .i64 a, .int .i64 b, .int .i64 c, .int .i64 d, .int .i64 e] 52))
    rw [HPK] at hp
    refine hp.mono ?_
    rintro en w4 ⟨v4, rfl, hR4, hB4⟩
    obtain ⟨A4, c4, rfl, hl4, hC4⟩ := Kd.R_reads hR4
    have HX4 := Lib.hid hC4
    rw [HRL.out] at HX4 ⊢
    have HA4 := Lib.hid (HA0.out.next hB4)
    have HB4 := Lib.hid (below_next HB0.out hB4)
    clear hp HPK hR4 hC4 hl4 hB4 HPT HA0 HB0
    generalize hg0 : w.heap.size = g at HA4 ⊢
    go_wp2_with (first | ((with_reducible refine gate_dst (N := 27) rfl ?_); refine load_row rfl 52 _ rfl g rfl .i64 52 _ [K, B, a, b, c, d, e] HA4.out Try.underlying52 rfl (by kernel_rfl) ?_) | fail)
    refine (rmay_any K B a b c d e _).mono ?_
    rintro en w5 ⟨rfl, hB5⟩
    have HA5 := Lib.hid (HA4.out.next hB5)
    have HB5 := Lib.hid (below_next HB4.out hB5)
    have HX5 := Lib.hid (Kd.C_below HX4.out hB5)
    rw [HMV.out]
    clear hB5 HA4 HB4
    go_wp2_with (first | ((with_reducible refine gate_dst (N := 29) rfl ?_); refine load_row rfl 52 _ rfl g rfl .i64 52 _ [K, B, a, b, c, d, e] HA5.out Try.underlying52 rfl (by kernel_rfl) ?_) | fail)
    refine (may_any K B a b c d e _).mono ?_
    rintro en w6 ⟨rfl, hB6⟩
    have HA6 := Lib.hid (HA5.out.next hB6)
    have HB6 := Lib.hid (below_next HB5.out hB6)
    have HX6 := Lib.hid (Kd.C_below HX5.out hB6)
    rw [HMV.out]
    clear hB6 HA5 HB5
    go_wp2_with fail
    refine (inode_Need.calls by_ ND _ HN1.out).mono ?_
    rintro en w7 ⟨rfl, hB7⟩
    have HA7 := Lib.hid (HA6.out.next hB7)
    have HB7 := Lib.hid (below_next HB6.out hB7)
    have HX7 := Lib.hid (Kd.C_below HX6.out hB7)
    clear hB7 HA6 HB6
    go_wp2_with fail
    refine (padlockref13_Need.calls 4000 by_ ND _ HN2.out).mono ?_
    rintro en w8 ⟨rfl, hD8⟩
    have hB8 := hD8.below
    have HA := Lib.hid (HA7.out.next hB8)
    have HB := Lib.hid (below_next HB7.out hB8)
    have HX := Lib.hid (Kd.C_below HX7.out hB8)
    clear hB8 hD8 HA7 HB7
    go_wp2_with fail
    refine chain_region (by kernel_rfl) 26 (by kernel_rfl) ?_
    refine chain_take 0 (.bool true) rfl (by kernel_rfl) (by kernel_rfl) (by kernel_rfl) (fun _ _ _ h => h) rfl (fun w' hw' => by (unfold execOp; simp [go_sem, Act.put, Act.eval])) ?_
    simp only [Act.put, List.setIfInBounds_toArray, List.set_cons_zero, List.set_cons_succ]
    refine chain_take 1 (.bool true) rfl (by kernel_rfl) (by kernel_rfl) (by kernel_rfl) (fun _ _ _ h => h) rfl (fun w' hw' => by (unfold execOp; simp [go_sem, Act.put, Act.eval])) ?_
    simp only [Act.put, List.setIfInBounds_toArray, List.set_cons_zero, List.set_cons_succ]
    refine chain_take 2 (.slice A4 8 c4) rfl (by kernel_rfl) (by kernel_rfl) (by kernel_rfl) (fun _ _ _ h => h) rfl (fun w' hw' => by (unfold execOp; simp [go_sem, Act.put, Act.eval])) ?_
    simp only [Act.put, List.setIfInBounds_toArray, List.set_cons_zero, List.set_cons_succ]
    refine chain_take 3 (.string (strOfNums RB)) rfl (by kernel_rfl) (by kernel_rfl) (by kernel_rfl) (fun _ _ _ h => h) rfl (fun w' hw' => by (have hc0 := Kd.C_string (P := Try.prog) (dst := 9) (c := c4) Try.underlying29 Try.underlying5 Try.underlying9 (Kd.C_below (Kd.C_drew HX.out) hw'); unfold execOp; simp [go_sem, Act.put, Act.eval, hc0])) ?_
    simp only [Act.put, List.setIfInBounds_toArray, List.set_cons_zero, List.set_cons_succ]
    refine chain_take 4 (.agg (nums .i64 [K, B, a, b, c, d, e]).toArray) rfl (by kernel_rfl) (by kernel_rfl) (by kernel_rfl) (fun _ _ _ h => h) rfl (fun w' hw' => run_load_row 52 _ rfl g rfl .i64 _ _ [K, B, a, b, c, d, e] (HA.out.drew.next hw') Try.underlying52 rfl (by kernel_rfl)) ?_
    simp only [Act.put, List.setIfInBounds_toArray, List.set_cons_zero, List.set_cons_succ]
    refine chain_call 5 rfl (by kernel_rfl) rfl 32 _ _ Try.func32 (by kernel_rfl) rfl _ _ #[ino K B a b c d e] rfl (by simp [Act.put, Act.eval, nums]) (HRP.out _) ?_
    rintro en W1 ⟨v5, rfl, hR5, hB5⟩
    obtain ⟨A5, c5, rfl, hl5, hC5⟩ := Kd.R_reads hR5
    have HL5 := Lib.hid hC5
    have hl8 : RB.length = 8 := HRL.out
    rw [hl8] at HL5 ⊢
    clear hR5 hC5 hl5
    refine ⟨_, rfl, hB5, ?_⟩
    simp only [Act.put, List.setIfInBounds_toArray, List.set_cons_zero, List.set_cons_succ]
    refine chain_take 6 (.string (strOfNums RB)) rfl (by kernel_rfl) (by kernel_rfl) (by kernel_rfl) (fun _ _ _ h => h) rfl (fun w' hw' => by (have hc0 := Kd.C_string (P := Try.prog) (dst := 9) (c := c5) Try.underlying29 Try.underlying5 Try.underlying9 (Kd.C_below HL5.out hw'); unfold execOp; simp [go_sem, Act.put, Act.eval, hc0])) ?_
    simp only [Act.put, List.setIfInBounds_toArray, List.set_cons_zero, List.set_cons_succ]
    refine chain_take 7 (.bool false) rfl (by kernel_rfl) (by kernel_rfl) (by kernel_rfl) (fun _ _ _ h => h) rfl (fun w' hw' => by (unfold execOp; simp [go_sem, Act.put, Act.eval])) ?_
    simp only [Act.put, List.setIfInBounds_toArray, List.set_cons_zero, List.set_cons_succ]
    refine chain_take 8 (.bool false) rfl (by kernel_rfl) (by kernel_rfl) (by kernel_rfl) (fun _ _ _ h => h) rfl (fun w' hw' => by (unfold execOp; simp [go_sem, Act.put, Act.eval])) ?_
    simp only [Act.put, List.setIfInBounds_toArray, List.set_cons_zero, List.set_cons_succ]
    refine chain_take 9 (.int .i64 0) rfl (by kernel_rfl) (by kernel_rfl) (by kernel_rfl) (fun _ _ _ h => h) rfl (fun w' hw' => by (unfold execOp; simp [go_sem, Act.put, Act.eval])) ?_
    simp only [Act.put, List.setIfInBounds_toArray, List.set_cons_zero, List.set_cons_succ]
    refine chain_take 10 (.bool false) rfl (by kernel_rfl) (by kernel_rfl) (by kernel_rfl) (fun _ _ _ h => h) rfl (fun w' hw' => by (unfold execOp; simp [go_sem, Act.put, Act.eval])) ?_
    simp only [Act.put, List.setIfInBounds_toArray, List.set_cons_zero, List.set_cons_succ]
    refine chain_take 11 (.bool false) rfl (by kernel_rfl) (by kernel_rfl) (by kernel_rfl) (fun _ _ _ h => h) rfl (fun w' hw' => by (unfold execOp; simp [go_sem, Act.put, Act.eval])) ?_
    simp only [Act.put, List.setIfInBounds_toArray, List.set_cons_zero, List.set_cons_succ]
    refine chain_take 12 (.bool false) rfl (by kernel_rfl) (by kernel_rfl) (by kernel_rfl) (fun _ _ _ h => h) rfl (fun w' hw' => by (unfold execOp; simp [go_sem, Act.put, Act.eval])) ?_
    simp only [Act.put, List.setIfInBounds_toArray, List.set_cons_zero, List.set_cons_succ]
    refine chain_take 13 (.bool false) rfl (by kernel_rfl) (by kernel_rfl) (by kernel_rfl) (fun _ _ _ h => h) rfl (fun w' hw' => by (unfold execOp; simp [go_sem, Act.put, Act.eval])) ?_
    simp only [Act.put, List.setIfInBounds_toArray, List.set_cons_zero, List.set_cons_succ]
    refine chain_take 14 (.bool true) rfl (by kernel_rfl) (by kernel_rfl) (by kernel_rfl) (fun _ _ _ h => h) rfl (fun w' hw' => by (unfold execOp; simp [go_sem, Act.put, Act.eval])) ?_
    simp only [Act.put, List.setIfInBounds_toArray, List.set_cons_zero, List.set_cons_succ]
    refine chain_take 15 (.bool false) rfl (by kernel_rfl) (by kernel_rfl) (by kernel_rfl) (fun _ _ _ h => h) rfl (fun w' hw' => by (unfold execOp; simp [go_sem, Act.put, Act.eval])) ?_
    simp only [Act.put, List.setIfInBounds_toArray, List.set_cons_zero, List.set_cons_succ]
    refine chain_take 16 (.bool false) rfl (by kernel_rfl) (by kernel_rfl) (by kernel_rfl) (fun _ _ _ h => h) rfl (fun w' hw' => by (unfold execOp; simp [go_sem, Act.put, Act.eval])) ?_
    simp only [Act.put, List.setIfInBounds_toArray, List.set_cons_zero, List.set_cons_succ]
    refine chain_skip 17 rfl (by kernel_rfl) (by kernel_rfl) (by kernel_rfl) (fun _ _ _ h => h) rfl ?_
    simp only [Act.put, List.setIfInBounds_toArray, List.set_cons_zero, List.set_cons_succ]
    refine chain_skip 18 rfl (by kernel_rfl) (by kernel_rfl) (by kernel_rfl) (fun _ _ _ h => h) rfl ?_
    simp only [Act.put, List.setIfInBounds_toArray, List.set_cons_zero, List.set_cons_succ]
    refine chain_skip 19 rfl (by kernel_rfl) (by kernel_rfl) (by kernel_rfl) (fun _ _ _ h => h) rfl ?_
    simp only [Act.put, List.setIfInBounds_toArray, List.set_cons_zero, List.set_cons_succ]
    refine chain_skip 20 rfl (by kernel_rfl) (by kernel_rfl) (by kernel_rfl) (fun _ _ _ h => h) rfl ?_
    simp only [Act.put, List.setIfInBounds_toArray, List.set_cons_zero, List.set_cons_succ]
    refine chain_skip 21 rfl (by kernel_rfl) (by kernel_rfl) (by kernel_rfl) (fun _ _ _ h => h) rfl ?_
    simp only [Act.put, List.setIfInBounds_toArray, List.set_cons_zero, List.set_cons_succ]
    refine chain_skip 22 rfl (by kernel_rfl) (by kernel_rfl) (by kernel_rfl) (fun _ _ _ h => h) rfl ?_
    simp only [Act.put, List.setIfInBounds_toArray, List.set_cons_zero, List.set_cons_succ]
    refine chain_skip 23 rfl (by kernel_rfl) (by kernel_rfl) (by kernel_rfl) (fun _ _ _ h => h) rfl ?_
    simp only [Act.put, List.setIfInBounds_toArray, List.set_cons_zero, List.set_cons_succ]
    refine chain_take 24 (.bool false) rfl (by kernel_rfl) (by kernel_rfl) (by kernel_rfl) (fun _ _ _ h => h) rfl (fun w' hw' => by (unfold execOp; simp [go_sem, Act.put, Act.eval])) ?_
    simp only [Act.put, List.setIfInBounds_toArray, List.set_cons_zero, List.set_cons_succ]
    refine chain_take 25 (.bool false) rfl (by kernel_rfl) (by kernel_rfl) (by kernel_rfl) (fun _ _ _ h => h) rfl (fun w' hw' => by (unfold execOp; simp [go_sem, Act.put, Act.eval])) ?_
    simp only [Act.put, List.setIfInBounds_toArray, List.set_cons_zero, List.set_cons_succ]
    refine chain_done (by kernel_rfl) ?_
    have HB9 := Lib.hid (below_next (below_drew HB.out) hB5)
    have HR9 := Lib.hid (Kd.C_below HR.out HB9.out)
    clear hB5 HL5 HX HA HB
    generalize hW9 : W1 = w9 at HB9 HR9 ⊢
    clear hW9
    go_wp2_with fail
    refine (HIG.out w9 HR9.out).mono ?_
    rintro en w10 ⟨rfl, hB10⟩
    have HB10 := Lib.hid (below_next HB9.out hB10)
    have HR10 := Lib.hid (Kd.C_below HR9.out hB10)
    clear hB10 HB9 HR9
    go_wp2_with (first | ((with_reducible refine gate_dst (N := 10) rfl ?_); refine alloc_arr rfl 52 rfl .i64 [0, 0, 0, 0, 0, 0, 0] (fun w => Try.zeroValue52 w) (by first | (go_simp; done) | (go_simp; rfl)) ?_; intro wA1 hAA hBA; have HAA1 := Lib.hid hAA; have HXA1 := Lib.hid hBA; clear hAA hBA) | ((with_reducible refine gate_store (t := 52) (p := 10) rfl ?_); refine store_arr rfl 52 _ _ rfl w10.heap.size .i64 [z0, z1, z2, z3, z4, z5, z6] rfl (by rfl) 52 _ HAA1.out rfl (by kernel_rfl) ?_; intro w11 hAS hwS; have hb := below_setRow HXA1.out w10.heap.size (Nat.le_refl _) (nums .i64 [z0, z1, z2, z3, z4, z5, z6]).toArray; rw [← hwS] at hb; have HAS1 := Lib.hid hAS; have HBS1 := Lib.hid hb; clear hAS hwS hb) | fail)
    refine (HRG.out w11 (Kd.C_below HR10.out HBS1.out)).mono ?_
    rintro en w12 ⟨rfl, hB12⟩
    have HB12 := Lib.hid (below_next (below_next HB10.out HBS1.out) hB12)
    have HY12 := Lib.hid (HAS1.out.next hB12)
    have hlt10 : w10.heap.size < w12.heap.size := HY12.out.lt
    clear hB12 HB10 HR10 HBS1 HAS1
    have heq := HEQ.out
    go_wp2_with (first | ((with_reducible refine gate_dst (N := 12) rfl ?_); refine alloc_arr rfl 52 rfl .i64 [0, 0, 0, 0, 0, 0, 0] (fun w => Try.zeroValue52 w) (by first | (go_simp; done) | (go_simp; rfl)) ?_; intro wA2 hAA hBA; have HAA2 := Lib.hid hAA; have HXA2 := Lib.hid hBA; clear hAA hBA) | ((with_reducible refine gate_store (t := 52) (p := 12) rfl ?_); refine store_arr rfl 52 _ _ rfl w12.heap.size .i64 [z0, z1, z2, z3, z4, z5, z6] rfl (by rfl) 52 _ HAA2.out rfl (by kernel_rfl) ?_; intro w13 hAS hwS; have hb := below_setRow HXA2.out w12.heap.size (Nat.le_refl _) (nums .i64 [z0, z1, z2, z3, z4, z5, z6]).toArray; rw [← hwS] at hb; have HAS2 := Lib.hid hAS; have HBS2 := Lib.hid hb; clear hAS hwS hb) | ((with_reducible refine gate_dst (N := 76) rfl ?_); refine load_row rfl 52 _ rfl w10.heap.size rfl .i64 52 _ [z0, z1, z2, z3, z4, z5, z6] (HY12.out.next HBS2.out) Try.underlying52 rfl (by kernel_rfl) ?_) | ((with_reducible refine gate_dst (N := 77) rfl ?_); refine load_row rfl 52 _ rfl w12.heap.size rfl .i64 52 _ [z0, z1, z2, z3, z4, z5, z6] HAS2.out Try.underlying52 rfl (by kernel_rfl) ?_) | fail)
    refine (knows13_any w13).mono ?_
    rintro en w15 ⟨rfl, hB15⟩
    have HB15 := Lib.hid (below_next (below_next HB12.out HBS2.out) hB15)
    clear hB15
    go_wp2_with fail
    go_ret
    exact ⟨rfl, HB15.out⟩
theorem inodePuts_walk (a0 : List Int) (a1 : Option Addr) (len1 cap1 : Nat) (z1 : List Int) (a2 : Int) (w : World) (l0 : a0.length = 7) (b0 : ∀ z ∈ a0, (Lit.int .i64 z).wf = true)
    (w1 : (a1 = none ∧ len1 = 0 ∧ cap1 = 0 ∧ z1 = []) ∨ ∃ x, a1 = some x ∧ len1 ≤ cap1 ∧ cap1 ≤ maxLen ∧ z1.length = cap1 ∧ (∀ i, i < z1.length → w.cell? (x.add i) = some (.int .u8 (z1.getD i 0))) ∧ ∀ n ∈ z1, (Lit.int .u8 n).wf = true)
    (y1 : len1 * 1 ≤ 140737488351232) (w2 : (Lit.int .i64 a2).wf = true) :
    Calls Try.prog 6 #[.agg (nums .i64 a0).toArray, .slice a1 len1 cap1, .int .i64 a2] w fun e w' => e = .returned (.bool true) ∧ Below w.heap.size w w' := by
  obtain ⟨l, hlen, hr, hc, hb⟩ := Go.Proofs.Ytoiiacbbfhlocaa.Com.reads_of_row w1
  clear w1
  subst hlen
  match a0, l0 with
  | [K, B, a, b, c, d, e], _ =>
    have hx := Com.range64 w2
    by_cases hbig : 100 < l.length ∨ 100000 < a2
    · exact iputs_big K B a b c d e a1 l.length cap1 a2 w ⟨by decide, hbig⟩
    · exact iputs_few K B a b c d e a1 l.length cap1 l a2 w (by omega) (by omega) hx.1 hr hc hb
end Go.Proofs.Ytoiiacbbfhlocaa.HIa
end
