/- Layer 13: inode.Get's walk. -/
import Derived.Test.YtoiiacbbfhlocaaHIb
set_option linter.unusedVariables false
set_option linter.unusedSimpArgs false
namespace Go.Proofs.Ytoiiacbbfhlocaa.HIa
open Go.RowKit Go.Proofs.YtoiiacbbfhlocaaW.PrintWords Go.Proofs.YtoiiacbbfhlocaaW.PrintLast Go.Proofs.YtoiiacbbfhlocaaW.PrintMore Go.Proofs.Ytoiiacbbfhlocaa.Kit Go.Proofs.Ytoiiacbbfhlocaa.Rc Go.Proofs.Ytoiiacbbfhlocaa.Iw Go.Proofs.Ytoiiacbbfhlocaa.HKa
theorem results_ct {P : Program} {fn : Func} {u p : Tmp} {T : TypeId} (h : fn.results = #[.cell p T, .tmp u]) (tmps : Array Value) (w : World) (g : Nat) (k : IntKind) (T' : Nat) (d : TypeDesc) (xs : List Int)
    (hp : tmps.getD p undef = .pointer (some ⟨g, 0, none⟩)) (hA : Arr k T' w g xs) (hu : P.underlying T = some d) (hd : d.isRow = true) (hi : (P.info? T).map (·.size) = some xs.length) :
    (results fn tmps).run P w = .ok (.tuple #[.agg (nums k xs).toArray, tmps.getD u undef]) w := by
  have hp' : tmps[p]?.getD undef = .pointer (some ⟨g, 0, none⟩) := by simpa using hp
  simp [results, h, hp', asAddr, run_loadVar_row w g T' T (nums k xs).toArray (0, 0) d hA.out hu (by cases d <;> first | rfl | exact hd) (by rw [hi]; simp [nums])]
theorem cells_of {k : IntKind} {w : World} {b o n : Nat} {l : List Int} (h : Kd.C (Kd.int k) w (some ⟨b, o, none⟩) n l) (j : Nat) (hj : j < n) : w.cell? ⟨b, o + j, none⟩ = some (.int k (l.getD j 0)) := by
  obtain ⟨b', o', e, hc⟩ := C_cells h (by omega)
  injection e with e
  injection e with e1 e2
  subst e1 e2
  exact hc j hj
def mayL (z : List Int) : Bool := mayF (z.getD 0 0) (z.getD 1 0) (z.getD 2 0) (z.getD 3 0) (z.getD 4 0) (z.getD 5 0) (z.getD 6 0)
def zI (b : List Int) : List Int := [b.getD 0 0, b.getD 1 0 * 256 + b.getD 2 0, b.getD 3 0, b.getD 4 0, b.getD 5 0, b.getD 6 0, b.getD 7 0]
def getI (b : List Int) : List Int × Int := if b.length = 8 then (if mayL (zI b) = true then (zI b, 0) else ([0, 0, 0, 0, 0, 0, 0], 10)) else ([0, 0, 0, 0, 0, 0, 0], 1)
def GetIOut (x : List Int × Int) (w : World) (e : Ending) (w' : World) : Prop := e = .returned (.tuple #[.agg (nums .i64 x.1).toArray, .int .i64 x.2]) ∧ Below w.heap.size w w'
theorem wide8 : wideG [1, 2, 1, 1, 1, 1, 1] 0 = 8 := by decide
theorem getF8 (b : List Int) (h : b.length = 8) : getF [1, 2, 1, 1, 1, 1, 1] b = (zI b, 0) := by
  match b, h with
  | [a0, a1, a2, a3, a4, a5, a6, a7], _ =>
    unfold getF
    rw [wide8, if_pos (by rfl)]
    simp [getG, vN, zI]
theorem getFn (b : List Int) (h : b.length ≠ 8) : getF [1, 2, 1, 1, 1, 1, 1] b = ([], 1) := by
  unfold getF
  rw [wide8, if_neg (by omega)]
theorem iwrap_id (x : Int) (h0 : 0 ≤ x) (h1 : x < 100000) : IntKind.i64.wrap x = x := by
  exact IntWalk.i64_in x (by omega)
theorem zI_range (b : List Int) (hb : Bytes b) : ∀ j, 0 ≤ (zI b).getD j 0 ∧ (zI b).getD j 0 < 65536 := by
  have h : ∀ j, 0 ≤ b.getD j 0 ∧ b.getD j 0 < 256 := by
    intro j
    rw [List.getD_eq_getElem?_getD]
    cases hj : b[j]? with
    | none => exact ⟨by decide, by decide⟩
    | some x => exact hb x (List.mem_of_getElem? hj)
  intro j
  have h0 := h 0
  have h1 := h 1
  have h2 := h 2
  have h3 := h 3
  have h4 := h 4
  have h5 := h 5
  have h6 := h 6
  have h7 := h 7
  unfold zI
  match j with
  | 0 => exact ⟨h0.1, by show b.getD 0 0 < 65536; omega⟩
  | 1 => exact ⟨by show 0 ≤ b.getD 1 0 * 256 + b.getD 2 0; omega, by show b.getD 1 0 * 256 + b.getD 2 0 < 65536; omega⟩
  | 2 => exact ⟨h3.1, by show b.getD 3 0 < 65536; omega⟩
  | 3 => exact ⟨h4.1, by show b.getD 4 0 < 65536; omega⟩
  | 4 => exact ⟨h5.1, by show b.getD 5 0 < 65536; omega⟩
  | 5 => exact ⟨h6.1, by show b.getD 6 0 < 65536; omega⟩
  | 6 => exact ⟨h7.1, by show b.getD 7 0 < 65536; omega⟩
  | j + 7 => exact ⟨by simp, by simp⟩
attribute [local irreducible] getF mayF
set_option maxRecDepth 100000 in
set_option maxHeartbeats 4000000 in
theorem iget_bad (A0 : Option Addr) (c0 : Nat) (b : List Int) (w : World) (hr : Kd.C (Kd.int .u8) w A0 b.length b) (hc : b.length ≤ c0) (hb : Bytes b) (h8 : b.length ≠ 8) : Calls Try.prog 33 #[.slice A0 b.length c0] w (GetIOut ([0, 0, 0, 0, 0, 0, 0], 1) w) := by
  have HF := Lib.hid (getFn b h8)
  have HR := Lib.hid hr
  have HB := Lib.hid hb
  have HC := Lib.hid hc
  clear hr hb hc h8
  go_enter Try.func33, Try.ntmps33
  go_wp2_with (first
    | ((with_reducible refine gate_dst (N := 2) rfl ?_); refine alloc_arr rfl 52 rfl .i64 [0, 0, 0, 0, 0, 0, 0] (fun w => Try.zeroValue52 w) (by first | (go_simp; done) | (go_simp; rfl)) ?_; intro w1 hA1 hB1; have HA1 := Lib.hid hA1; have HB1 := Lib.hid hB1; clear hA1 hB1)
    | fail)
  refine (inode_widths.calls [1, 2, 1, 1, 1, 1, 1] _ rfl).mono ?_
  rintro en w2 ⟨vw, rfl, hRw, hbw⟩
  obtain ⟨Aw, cw, rfl, hlw, hCw⟩ := Kd.R_reads hRw
  have HB2 := Lib.hid (below_next HB1.out hbw)
  have HA2 := Lib.hid (HA1.out.next hbw)
  have HCW := Lib.hid hCw
  have HLW := Lib.hid hlw
  clear hRw hbw hCw hlw HB1 HA1
  go_wp2_with fail
  have hg := get_any Aw cw [1, 2, 1, 1, 1, 1, 1] A0 c0 b w2 HCW.out HLW.out (Kd.C_below HR.out HB2.out) HC.out (by decide) HB.out
  rw [HF.out] at hg
  refine hg.mono ?_
  rintro en w3 ⟨v3, rfl, hR3, hB3⟩
  have HB3 := Lib.hid (below_next HB2.out hB3)
  have HA3 := Lib.hid (HA2.out.next hB3)
  clear hR3 hB3 hg HB2 HA2
  go_wp2_with (first
    | ((with_reducible refine gate_store (t := 52) (p := 2) rfl ?_); refine store_arr rfl 52 _ _ rfl w.heap.size .i64 [0, 0, 0, 0, 0, 0, 0] rfl (by rfl) 52 _ HA3.out rfl (by kernel_rfl) ?_; intro w4 hA4 hw4; have hB4 := below_setRow HB3.out w.heap.size (Nat.le_refl _) (nums .i64 [0, 0, 0, 0, 0, 0, 0]).toArray; rw [← hw4] at hB4; have HA4 := Lib.hid hA4; have HB4 := Lib.hid hB4; clear hA4 hw4 hB4)
    | fail)
  refine bodyPost_ret (results_ct rfl _ _ w.heap.size .i64 52 _ [0, 0, 0, 0, 0, 0, 0] rfl HA4.out Try.underlying52 rfl (by kernel_rfl)) rfl ?_
  exact ⟨rfl, HB4.out⟩
set_option maxRecDepth 100000 in
set_option maxHeartbeats 4000000 in
theorem iget_go (A0 : Option Addr) (c0 : Nat) (b : List Int) (w : World) (hr : Kd.C (Kd.int .u8) w A0 b.length b) (hc : b.length ≤ c0) (hb : Bytes b) (h8 : b.length = 8) (K B a0 a1 a2 a3 e : Int) (hz : zI b = [K, B, a0, a1, a2, a3, e]) (R : List Int × Int) (hR : R = if mayF K B a0 a1 a2 a3 e = true then ([K, B, a0, a1, a2, a3, e], 0) else ([0, 0, 0, 0, 0, 0, 0], 10)) : Calls Try.prog 33 #[.slice A0 b.length c0] w (GetIOut R w) := by
  have HRR := Lib.hid hR
  clear hR
  have HF := Lib.hid (show getF [1, 2, 1, 1, 1, 1, 1] b = ([K, B, a0, a1, a2, a3, e], 0) by rw [getF8 b h8, hz])
  have hrg := zI_range b hb
  rw [hz] at hrg
  have hwK := iwrap_id K (hrg 0).1 (by have h : K < 65536 := (hrg 0).2; omega)
  have hwB := iwrap_id B (hrg 1).1 (by have h : B < 65536 := (hrg 1).2; omega)
  have hwe := iwrap_id e (hrg 6).1 (by have h : e < 65536 := (hrg 6).2; omega)
  have HWX := Lib.hid (show ∀ q : Nat, q < 4 → IntKind.i64.wrap ([a0, a1, a2, a3].getD q 0) = [a0, a1, a2, a3].getD q 0 from fun q hq => by
    have h0 : 0 ≤ a0 ∧ a0 < 65536 := hrg 2
    have h1 : 0 ≤ a1 ∧ a1 < 65536 := hrg 3
    have h2 : 0 ≤ a2 ∧ a2 < 65536 := hrg 4
    have h3 : 0 ≤ a3 ∧ a3 < 65536 := hrg 5
    obtain rfl | rfl | rfl | rfl : q = 0 ∨ q = 1 ∨ q = 2 ∨ q = 3 := by omega
    · exact iwrap_id a0 h0.1 (by omega)
    · exact iwrap_id a1 h1.1 (by omega)
    · exact iwrap_id a2 h2.1 (by omega)
    · exact iwrap_id a3 h3.1 (by omega))
  have HB := Lib.hid hb
  have HR0 := Lib.hid hr
  have HC0 := Lib.hid hc
  clear hr hb hc h8 hz hrg
  go_enter Try.func33, Try.ntmps33
  go_wp2_with (first
    | ((with_reducible refine gate_dst (N := 2) rfl ?_); refine alloc_arr rfl 52 rfl .i64 [0, 0, 0, 0, 0, 0, 0] (fun w => Try.zeroValue52 w) (by first | (go_simp; done) | (go_simp; rfl)) ?_; intro w1 hA1 hB1; have HA1 := Lib.hid hA1; have HB1 := Lib.hid hB1; clear hA1 hB1)
    | fail)
  refine (inode_widths.calls [1, 2, 1, 1, 1, 1, 1] _ rfl).mono ?_
  rintro en w2 ⟨vw, rfl, hRw, hbw⟩
  obtain ⟨Aw, cw, rfl, hlw, hCw⟩ := Kd.R_reads hRw
  have HB2 := Lib.hid (below_next HB1.out hbw)
  have HA2 := Lib.hid (HA1.out.next hbw)
  have HCW := Lib.hid hCw
  have HLW := Lib.hid hlw
  clear hRw hbw hCw hlw HB1 HA1
  go_wp2_with fail
  have hg := get_any Aw cw [1, 2, 1, 1, 1, 1, 1] A0 c0 b w2 HCW.out HLW.out (Kd.C_below HR0.out HB2.out) HC0.out (by decide) HB.out
  rw [HF.out] at hg
  refine hg.mono ?_
  rintro en wq ⟨v3, rfl, hR3, hB3⟩
  obtain ⟨A3, c3, rfl, hl3, hC3⟩ := Kd.R_reads hR3
  obtain ⟨b0, o0, rfl, -⟩ := C_cells hC3 (by simp)
  have HC := Lib.hid (show Kd.C (Kd.int .u64) wq (some ⟨b0, o0, none⟩) 7 [K, B, a0, a1, a2, a3, e] from hC3)
  have HL3 := Lib.hid (show 7 ≤ c3 from hl3)
  have HB := Lib.hid (below_next HB2.out hB3)
  have HR := Lib.hid (HA2.out.next hB3)
  generalize hg2 : w.heap.size = g2 at HR ⊢
  clear hR3 hC3 hl3 hB3 hg HB2 HA2 HF HCW HLW
  simp only [List.length_cons, List.length_nil, Nat.reduceAdd]
  go_wp2_with fail
  refine s_region (fun u => Below wq.drew.heap.size wq.drew u) (by kernel_rfl) 15 (by kernel_rfl) (Below.refl _ _) (fun hS => ?_)
  have HCd := Lib.hid (Kd.C_drew HC.out)
  have HRd := Lib.hid HR.out.drew
  have HBd := Lib.hid (below_drew HB.out)
  have HCE := Lib.hid (fun (u : World) (hu : Below wq.drew.heap.size wq.drew u) (j : Nat) (hj : j < 7) => cells_of (Kd.C_below HCd.out hu) j hj)
  generalize wq.drew = wd at *
  clear HC HR HB
  refine s_take 0 (_) hS rfl (by kernel_rfl) (by kernel_rfl) (by kernel_rfl) (fun _ _ _ h => h) rfl (fun w' hw' => run_move_at _ rfl w') ?_
  simp only [Act.put, List.setIfInBounds_toArray, List.set_cons_zero, List.set_cons_succ]
  refine s_take 1 (.pointer (some ⟨b0, o0, none⟩)) hS rfl (by kernel_rfl) (by kernel_rfl) (by kernel_rfl) (fun _ _ _ h => h) rfl (fun w' hw' => by (unfold execOp; simp [go_sem, Act.put, Act.eval])) ?_
  simp only [Act.put, List.setIfInBounds_toArray, List.set_cons_zero, List.set_cons_succ]
  refine s_take 2 (.int .u64 K) hS rfl (by kernel_rfl) (by kernel_rfl) (by kernel_rfl) (fun _ _ _ h => h) rfl (fun w' hw' => by (have hc0 := (by have h := HCE.out w' hw' 0 (by omega); simpa using h : w'.cell? ⟨b0, o0, none⟩ = some (.int .u64 K)); unfold execOp; simp [go_sem, Act.put, Act.eval, hc0])) ?_
  simp only [Act.put, List.setIfInBounds_toArray, List.set_cons_zero, List.set_cons_succ]
  refine s_take 3 (.int .i64 K) hS rfl (by kernel_rfl) (by kernel_rfl) (by kernel_rfl) (fun _ _ _ h => h) rfl (fun w' hw' => by (have hc0 := hwK; unfold execOp; simp [go_sem, Act.put, Act.eval, hc0])) ?_
  simp only [Act.put, List.setIfInBounds_toArray, List.set_cons_zero, List.set_cons_succ]
  refine s_take 4 (_) hS rfl (by kernel_rfl) (by kernel_rfl) (by kernel_rfl) (fun _ _ _ h => h) rfl (fun w' hw' => run_move_at _ rfl w') ?_
  simp only [Act.put, List.setIfInBounds_toArray, List.set_cons_zero, List.set_cons_succ]
  refine s_take 5 (.pointer (some ⟨b0, o0 + 1, none⟩)) hS rfl (by kernel_rfl) (by kernel_rfl) (by kernel_rfl) (fun _ _ _ h => h) rfl (fun w' hw' => by (unfold execOp; simp [go_sem, Act.put, Act.eval])) ?_
  simp only [Act.put, List.setIfInBounds_toArray, List.set_cons_zero, List.set_cons_succ]
  refine s_take 6 (.int .u64 B) hS rfl (by kernel_rfl) (by kernel_rfl) (by kernel_rfl) (fun _ _ _ h => h) rfl (fun w' hw' => by (have hc0 := (by have h := HCE.out w' hw' 1 (by omega); simpa using h : w'.cell? ⟨b0, o0 + 1, none⟩ = some (.int .u64 B)); unfold execOp; simp [go_sem, Act.put, Act.eval, hc0])) ?_
  simp only [Act.put, List.setIfInBounds_toArray, List.set_cons_zero, List.set_cons_succ]
  refine s_take 7 (.int .i64 B) hS rfl (by kernel_rfl) (by kernel_rfl) (by kernel_rfl) (fun _ _ _ h => h) rfl (fun w' hw' => by (have hc0 := hwB; unfold execOp; simp [go_sem, Act.put, Act.eval, hc0])) ?_
  simp only [Act.put, List.setIfInBounds_toArray, List.set_cons_zero, List.set_cons_succ]
  refine s_take 8 (_) hS rfl (by kernel_rfl) (by kernel_rfl) (by kernel_rfl) (fun _ _ _ h => h) rfl (fun w' hw' => run_move_at _ rfl w') ?_
  simp only [Act.put, List.setIfInBounds_toArray, List.set_cons_zero, List.set_cons_succ]
  refine s_take 9 (.pointer (some ⟨b0, o0 + 6, none⟩)) hS rfl (by kernel_rfl) (by kernel_rfl) (by kernel_rfl) (fun _ _ _ h => h) rfl (fun w' hw' => by (unfold execOp; simp [go_sem, Act.put, Act.eval])) ?_
  simp only [Act.put, List.setIfInBounds_toArray, List.set_cons_zero, List.set_cons_succ]
  refine s_take 10 (.int .u64 e) hS rfl (by kernel_rfl) (by kernel_rfl) (by kernel_rfl) (fun _ _ _ h => h) rfl (fun w' hw' => by (have hc0 := (by have h := HCE.out w' hw' 6 (by omega); simpa using h : w'.cell? ⟨b0, o0 + 6, none⟩ = some (.int .u64 e)); unfold execOp; simp [go_sem, Act.put, Act.eval, hc0])) ?_
  simp only [Act.put, List.setIfInBounds_toArray, List.set_cons_zero, List.set_cons_succ]
  refine s_take 11 (.int .i64 e) hS rfl (by kernel_rfl) (by kernel_rfl) (by kernel_rfl) (fun _ _ _ h => h) rfl (fun w' hw' => by (have hc0 := hwe; unfold execOp; simp [go_sem, Act.put, Act.eval, hc0])) ?_
  simp only [Act.put, List.setIfInBounds_toArray, List.set_cons_zero, List.set_cons_succ]
  refine s_take 12 (.agg (nums .i64 [K, B, 0, 0, 0, 0, e]).toArray) hS rfl (by kernel_rfl) (by kernel_rfl) (by kernel_rfl) (fun _ _ _ h => h) rfl (fun w' hw' => run_build_at _ _ rfl #[(0, .int .i64 K), (1, .int .i64 B), (3, .int .i64 e)] (by simp [Act.eval]) _ (by kernel_rfl)) ?_
  simp only [Act.put, List.setIfInBounds_toArray, List.set_cons_zero, List.set_cons_succ]
  refine s_one 13 rfl (by kernel_rfl) ?_
  have hbA := below_alloc (Below.refl wd.heap.size wd) (.cells (nums .i64 [0, 0, 0, 0, 0, 0, 0]).toArray 52)
  have HA6 := Arr.new wd .i64 52 [0, 0, 0, 0, 0, 0, 0]
  refine g_event (.pointer (some ⟨wd.heap.size, 0, none⟩)) (wd.alloc (.cells (nums .i64 [0, 0, 0, 0, 0, 0, 0]).toArray 52)) rfl (by (unfold execOp; simp [go_sem, Act.put, Act.eval]; first | done | rfl)) hbA (fun hS => ?_)
  simp only [Act.put, List.setIfInBounds_toArray, List.set_cons_zero, List.set_cons_succ]
  obtain ⟨wA, hwA⟩ : ∃ W, W = wd.alloc (.cells (nums .i64 [0, 0, 0, 0, 0, 0, 0]).toArray 52) := ⟨_, rfl⟩
  rw [← hwA] at HA6 hS hbA ⊢
  refine s_store_arr 14 rfl (by kernel_rfl) rfl 52 _ _ rfl wd.heap.size .i64 [K, B, 0, 0, 0, 0, e] rfl rfl 52 [0, 0, 0, 0, 0, 0, 0] HA6 rfl (by kernel_rfl) (below_setRow hS _ (Nat.le_refl _) _) (fun hA7 => ?_)
  simp only [Act.put, List.setIfInBounds_toArray, List.set_cons_zero, List.set_cons_succ]
  have hB7 := below_setRow hbA wd.heap.size (Nat.le_refl _) (nums .i64 [K, B, 0, 0, 0, 0, e]).toArray
  refine s_done (by kernel_rfl) ?_
  obtain ⟨w7, hw7⟩ : ∃ W, W = wA.setRow wd.heap.size (nums .i64 [K, B, 0, 0, 0, 0, e]).toArray := ⟨_, rfl⟩
  rw [← hw7] at hA7 hB7 ⊢
  have HA7 := Lib.hid hA7
  have HB7 := Lib.hid (below_next HBd.out hB7)
  have HC7 := Lib.hid (fun (j : Nat) (hj : j < 7) => cells_of (Kd.C_below HCd.out hB7) j hj)
  have hb06 : b0 < wd.heap.size := cell_lt (cells_of HCd.out 0 (by omega))
  have HR7 := Lib.hid (HRd.out.next hB7)
  have hg6 : wd.heap.size < w7.heap.size := hA7.lt
  have hrg := HRd.out.lt
  have hgw : w.heap.size ≤ wd.heap.size := HBd.out.size
  generalize wd.heap.size = g6 at HA7 hg6 hrg hgw hb06 ⊢
  clear hA7 hB7 hw7 hwA HA6 hbA hS HCd HRd HBd HCE
  go_wp2_with fail
  go_loopw [31] (fun iv wr => ∃ q : Nat, iv = .int .i64 q ∧ q ≤ 4 ∧ Arr .i64 52 wr g6 ([K, B] ++ [a0, a1, a2, a3].take q ++ List.replicate (4 - q) 0 ++ [e]) ∧ (∀ j, j < 7 → wr.cell? ⟨b0, o0 + j, none⟩ = some (.int .u64 ([K, B, a0, a1, a2, a3, e].getD j 0))) ∧ Arr .i64 52 wr g2 [0, 0, 0, 0, 0, 0, 0] ∧ Below w.heap.size w wr) (fun iv _ => 4 - (intOf iv).toNat)
  case atStart => exact ⟨0, rfl, by omega, HA7.out, HC7.out, HR7.out, HB7.out⟩
  obtain ⟨q, rfl, hq, hA, hC, hG, hB⟩ := hrel
  have HA := Lib.hid hA
  have HCq := Lib.hid hC
  have HGq := Lib.hid hG
  have HBq := Lib.hid hB
  clear hA hC hG hB HA7 HC7 HR7 HB7
  by_cases hq4 : q < 4
  · have hqi : (q : Int) < 4 := by omega
    obtain ⟨x, hx⟩ : ∃ x, x = [a0, a1, a2, a3].getD q 0 := ⟨_, rfl⟩
    have hxw := HWX.out q hq4
    rw [← hx] at hxw
    have hcx : wr.cell? ⟨b0, o0 + (2 + q), none⟩ = some (.int .u64 x) := by
      have h := HCq.out (2 + q) (by omega)
      rw [h, hx]
      obtain rfl | rfl | rfl | rfl : q = 0 ∨ q = 1 ∨ q = 2 ∨ q = 3 := by omega
      all_goals rfl
    have hlen : ([K, B] ++ [a0, a1, a2, a3].take q ++ List.replicate (4 - q) 0 ++ [e]).length = 7 := by simp; omega
    have hcs := HA.out.cellN (2 + q) (by rw [hlen]; omega)
    have hfs := HA.out.free (2 + q)
    have HPUT := Lib.hid (HA.out.put (2 + q) x)
    have HSET : Hid (([K, B] ++ [a0, a1, a2, a3].take q ++ List.replicate (4 - q) 0 ++ [e]).set (2 + q) x = [K, B] ++ [a0, a1, a2, a3].take (q + 1) ++ List.replicate (4 - (q + 1)) 0 ++ [e]) := Lib.hid (by
      rw [hx]
      obtain rfl | rfl | rfl | rfl : q = 0 ∨ q = 1 ∨ q = 2 ∨ q = 3 := by omega
      all_goals rfl)
    have HCN := Lib.hid (show ∀ j, j < 7 → (wr.setCell ⟨g6, 2 + q, none⟩ (.int .i64 x)).cell? ⟨b0, o0 + j, none⟩ = some (.int .u64 ([K, B, a0, a1, a2, a3, e].getD j 0)) from fun j hj => by
      rw [World.cell?_setCell_other _ _ _ _ (fun e => by injection e with e1; omega)]
      exact HCq.out j hj)
    have HGN := Lib.hid (HGq.out.far ⟨g6, 2 + q, none⟩ (Nat.ne_of_lt hrg) (.int .i64 x))
    have HBN := Lib.hid (HBq.out.setCell (p := ⟨g6, 2 + q, none⟩) hgw (.int .i64 x))
    rw [HSET.out] at HPUT
    clear hx
    go_wp2_with fail
    go_roundw
    case rel => exact ⟨q + 1, rfl, by omega, HPUT.out, HCN.out, HGN.out, HBN.out⟩
    case measure => simp [intOf]; omega
  · obtain rfl : q = 4 := by omega
    have HA := Lib.hid (show Arr .i64 52 wr g6 [K, B, a0, a1, a2, a3, e] from HA.out)
    go_wp2_with (first
      | ((with_reducible refine gate_dst (N := 44) rfl ?_); refine load_row rfl 52 _ rfl g6 rfl .i64 52 _ [K, B, a0, a1, a2, a3, e] HA.out Try.underlying52 rfl (by kernel_rfl) ?_)
      | fail)
    refine (may_any K B a0 a1 a2 a3 e _).mono ?_
    rintro en w8 ⟨rfl, hB8⟩
    have HB8 := Lib.hid (below_next HBq.out hB8)
    have HA8 := Lib.hid (HA.out.next hB8)
    have HG8 := Lib.hid (HGq.out.next hB8)
    have hgg : w.heap.size ≤ g2 := Nat.le_of_eq hg2
    clear hB8 HA HBq HGq HCq
    by_cases hm : mayF K B a0 a1 a2 a3 e = true
    · have HRf : Hid (R = ([K, B, a0, a1, a2, a3, e], 0)) := Lib.hid (by rw [HRR.out, if_pos hm])
      rw [hm]
      clear HRR hm
      go_wp2_with (first
        | ((with_reducible refine gate_dst (N := 48) rfl ?_); refine load_row rfl 52 _ rfl g6 rfl .i64 52 _ [K, B, a0, a1, a2, a3, e] HA8.out Try.underlying52 rfl (by kernel_rfl) ?_)
        | ((with_reducible refine gate_store (t := 52) (p := 2) rfl ?_); refine store_arr rfl 52 _ _ rfl g2 .i64 [K, B, a0, a1, a2, a3, e] rfl (by rfl) 52 _ HG8.out rfl (by kernel_rfl) ?_; intro w9 hA9 hw9; have hB9 := below_setRow HB8.out g2 hgg (nums .i64 [K, B, a0, a1, a2, a3, e]).toArray; rw [← hw9] at hB9; have HA9 := Lib.hid hA9; have HB9 := Lib.hid hB9; clear hA9 hw9 hB9)
        | fail)
      refine bodyPost_ret (results_ct rfl _ _ g2 .i64 52 _ [K, B, a0, a1, a2, a3, e] rfl HA9.out Try.underlying52 rfl (by kernel_rfl)) rfl ?_
      exact ⟨by rw [HRf.out]; rfl, HB9.out⟩
    · have HRf : Hid (R = ([0, 0, 0, 0, 0, 0, 0], 10)) := Lib.hid (by rw [HRR.out, if_neg hm])
      have hmf : mayF K B a0 a1 a2 a3 e = false := by simpa using hm
      rw [hmf]
      clear HRR hm hmf
      go_wp2_with (first
        | ((with_reducible refine gate_store (t := 52) (p := 2) rfl ?_); refine store_arr rfl 52 _ _ rfl g2 .i64 [0, 0, 0, 0, 0, 0, 0] rfl (by rfl) 52 _ HG8.out rfl (by kernel_rfl) ?_; intro w9 hA9 hw9; have hB9 := below_setRow HB8.out g2 hgg (nums .i64 [0, 0, 0, 0, 0, 0, 0]).toArray; rw [← hw9] at hB9; have HA9 := Lib.hid hA9; have HB9 := Lib.hid hB9; clear hA9 hw9 hB9)
        | fail)
      refine bodyPost_ret (results_ct rfl _ _ g2 .i64 52 _ [0, 0, 0, 0, 0, 0, 0] rfl HA9.out Try.underlying52 rfl (by kernel_rfl)) rfl ?_
      exact ⟨by rw [HRf.out]; rfl, HB9.out⟩
theorem iget_any (A0 : Option Addr) (c0 : Nat) (b : List Int) (w : World) (hr : Kd.C (Kd.int .u8) w A0 b.length b) (hc : b.length ≤ c0) (hb : Bytes b) : Calls Try.prog 33 #[.slice A0 b.length c0] w (GetIOut (getI b) w) := by
  unfold getI
  by_cases h8 : b.length = 8
  · rw [if_pos h8]
    exact iget_go A0 c0 b w hr hc hb h8 _ _ _ _ _ _ _ rfl _ rfl
  · rw [if_neg h8]
    exact iget_bad A0 c0 b w hr hc hb h8
end Go.Proofs.Ytoiiacbbfhlocaa.HIa
