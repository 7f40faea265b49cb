/- Layer 6: the walk of DiskKeeps. -/
import Derived.Test.YtoiiacbbfhlocaaPDa
import Derived.Test.YtoiiacbbfhlocaaHDi
import Derived.Test.YtoiiacbbfhlocaaRowE
set_option linter.unusedVariables false
set_option linter.unusedSimpArgs false
namespace Go.Proofs.Ytoiiacbbfhlocaa.HDa
open Go.RowKit Go.Proofs.YtoiiacbbfhlocaaW.PrintWords Go.Proofs.YtoiiacbbfhlocaaW.PrintLast Go.Proofs.YtoiiacbbfhlocaaW.PrintMore Go.Proofs.Ytoiiacbbfhlocaa.Kit
theorem made_rep (z : Value) (n : Nat) : madeCells #[z] n = (List.replicate n z).toArray := by
  apply Array.ext
  · simp [madeCells]
  · intro i h1 h2
    simp [madeCells, Nat.mod_one]
theorem d6_cells {w : World} {a : Option Addr} {i : Nat} {x : D6} (h : D6At w a i x) : ∃ ad : Addr, a = some ad ∧ ∀ W, Below w.heap.size w W → W.cell? ⟨(ad.add (i * 6)).block, (ad.add (i * 6)).off + 1, none⟩ = some (.int .i64 x.i) ∧ W.cell? ⟨(ad.add (i * 6)).block, (ad.add (i * 6)).off + 4, none⟩ = some (.slice x.A x.n x.c) ∧ Kd.C (Kd.int .u8) W x.A x.n x.bs := by
  obtain ⟨ad, ha, hc⟩ := h.cells
  have key : ∀ (W : World), Below w.heap.size w W → ∀ (j : Nat) (v : Value), (d6C x)[j]? = some v → W.cell? (ad.add (i * 6 + j)) = some v := fun W hb j v hv => pw_cell_below hb (hc j v hv)
  exact ⟨ad, ha, fun W hb => ⟨by rw [← add_field _ _ 1 (by omega)]; exact key W hb 1 _ rfl, by rw [← add_field _ _ 4 (by omega)]; exact key W hb 4 _ rfl, Kd.C_below h.bytes hb⟩⟩
theorem d6_far {w : World} {a : Option Addr} {i : Nat} {x : D6} (h : D6At w a i x) : ∀ p, x.A = some p → 0 < x.n → p.block < w.heap.size := fun p hp hn => by
  obtain ⟨b, o, e, hcell⟩ := C_cells h.bytes hn
  rw [hp] at e
  obtain rfl := Option.some.inj e
  exact World.block_lt_of_cell? _ _ (hcell 0 hn)
set_option maxRecDepth 100000 in
set_option maxHeartbeats 16000000 in
theorem diskKeeps_walk (blocks : Int) (a1 : Option Addr) (len1 cap1 : Nat) (z1 : List D6) (a2 : Option Addr) (len2 cap2 : Nat) (z2 : List D6) (a3 : Option Addr) (len3 cap3 : Nat) (B3 : Nat → Bool) (w : World) (w0 : (Lit.int .i64 blocks).wf = true)
    (pl1 : z1.length = len1) (pc1 : len1 ≤ cap1) (w1 : ∀ (i : Nat) (x : D6), z1[i]? = some x → D6At w a1 i x) (pl2 : z2.length = len2) (pc2 : len2 ≤ cap2) (w2 : ∀ (i : Nat) (x : D6), z2[i]? = some x → D6At w a2 i x) (w3 : BoolRow w a3 len3 cap3 B3) :
    Calls Try.prog 10 #[.int .i64 blocks, .slice a1 len1 cap1, .slice a2 len2 cap2, .slice a3 len3 cap3] w fun e w' => e = .returned (.bool true) ∧ Below w.heap.size w w' := by
  have hkn : ∀ W, Calls Try.prog 47 #[] W (TellsB true W) := knows6_any
  have HZ1 := Lib.hid w1
  have HZ2 := Lib.hid w2
  have HZ3 := Lib.hid w3
  have HP1 := Lib.hid pl1
  have HP2 := Lib.hid pl2
  clear w0 w1 w2 w3 pl1 pl2 pc1 pc2
  by_cases h1 : blocks < 1
  · as_aux_lemma =>
      go_enter Try.func10, Try.ntmps10
      go_wp2_with (go_at_call 47; refine (hkn _).mono ?_; rintro e w1 ⟨rfl, hb1⟩)
      go_ret
      exact ⟨rfl, hb1⟩
  by_cases h2 : blocks > 20
  · as_aux_lemma =>
      go_enter Try.func10, Try.ntmps10
      go_wp2_with (go_at_call 47; refine (hkn _).mono ?_; rintro e w1 ⟨rfl, hb1⟩)
      go_ret
      exact ⟨rfl, hb1⟩
  by_cases h3 : (len1 : Int) > 30
  · as_aux_lemma =>
      go_enter Try.func10, Try.ntmps10
      go_wp2_with (go_at_call 47; refine (hkn _).mono ?_; rintro e w1 ⟨rfl, hb1⟩)
      go_ret
      exact ⟨rfl, hb1⟩
  by_cases h4 : (len2 : Int) > 30
  · as_aux_lemma =>
      go_enter Try.func10, Try.ntmps10
      go_wp2_with (go_at_call 47; refine (hkn _).mono ?_; rintro e w1 ⟨rfl, hb1⟩)
      go_ret
      exact ⟨rfl, hb1⟩
  by_cases h5 : (len3 : Int) > 100
  · as_aux_lemma =>
      go_enter Try.func10, Try.ntmps10
      go_wp2_with (go_at_call 47; refine (hkn _).mono ?_; rintro e w1 ⟨rfl, hb1⟩)
      go_ret
      exact ⟨rfl, hb1⟩
  obtain ⟨n, rfl⟩ := Int.eq_ofNat_of_zero_le (show 0 ≤ blocks by omega)
  have n1 : 1 ≤ n := by omega
  have n2 : n ≤ 20 := by omega
  have l1 : len1 ≤ 30 := by omega
  have l2 : len2 ≤ 30 := by omega
  have l3 : len3 ≤ 100 := by omega
  have hnew := new_any n w n1 (by omega)
  have hrnew : ∀ W, Calls Try.prog 49 #[.int .i64 n] W (RNewOut n W) := fun W => rnew_any n W (by omega)
  have hm : ∀ L : List Blk, L.length = n → L.length ≤ 1000 := fun L h => by omega
  go_enter Try.func10, Try.ntmps10
  go_wp2_with (first
    | (go_at_call 49; refine (hrnew w4).mono ?_; rintro e w5 ⟨g', vs0, rfl, hR, hb⟩; have HR5 := Lib.hid hR; have HT5 := Lib.hid (HT4.out.next hb); have HB5 := Lib.hid (below_next HB4.out hb); have HLE := Lib.hid HB4.out.size; clear hR hb)
    | (go_at_call 48; refine hnew.mono ?_; rintro e w4 ⟨g, r, rfl, hT, hb⟩; have HT4 := Lib.hid hT; have HB4 := Lib.hid hb; clear hT hb))
  have HRD := Lib.hid (show RD w.heap.size w5 g' vs0 (List.replicate n blk0) from by
    have h := HR5.out
    unfold RD
    rw [List.map_replicate, List.map_replicate, List.map_replicate, Z72_blk, show blk0.p = Z72 from Z72_blk, show frF blk0 = [] from rfl]
    exact ⟨h.tab, Nat.le_trans HLE.out h.hg, h.len, fun i v l hv hl => own_down (h.row i v l hv hl) HLE.out, h.apart⟩)
  clear hnew hrnew HR5 HT4 HB4
  go_loopg [12] len1 (fun gg s12 wr => ∃ (kk : Nat) (L : List Blk) (vs : List Value), kk ≤ len1 ∧ len1 - kk ≤ gg ∧ s12 = .int .i64 kk ∧ L.length = n ∧ Aside0 (DTab w.heap.size wr g r L) ∧ Aside0 (RD w.heap.size wr g' vs L) ∧ Aside0 (Below w.heap.size w wr))
  case atStart => exact ⟨0, _, _, Nat.zero_le _, by omega, rfl, List.length_replicate, ⟨HT5.out⟩, ⟨HRD.out⟩, ⟨HB5.out⟩⟩
  case round =>
    clear HT5 HRD HB5
    obtain ⟨kk, L, vs, hkk, hg, rfl, hL, HT, HR, HB⟩ := hrel
    by_cases hlt : kk < len1
    · have hltz : (kk : Int) < (len1 : Int) := by omega
      have hk4 : ¬ (kk : Int) < 0 := by omega
      have hk5 : kk ≤ 9223372036854775807 := by omega
      obtain ⟨x, hx⟩ : ∃ x, z1[kk]? = some x := ⟨_, List.getElem?_eq_getElem (by rw [HP1.out]; exact hlt)⟩
      have hX := HZ1.out kk x hx
      obtain ⟨ad, rfl, hdc⟩ := d6_cells hX
      have hfar := d6_far hX
      obtain ⟨xw, I, xk, xx, A, n0, c0, bs, kA, kn, kc, kks⟩ := x
      have HDC := Lib.hid hdc
      have hm := hm L hL
      have HF := Lib.hid (fun i b hb => (HT.out.blk i b hb).2)
      obtain ⟨code, hcode⟩ : ∃ code : Int, code = (if wrOk L I bs then 0 else 1) := ⟨_, rfl⟩
      have HWR := Lib.hid (show ∀ W, DTab w.heap.size W g r L → Below w.heap.size w W → Calls Try.prog 50 #[.pointer (some ⟨g, 0, none⟩), .int .i64 I, .slice A n0 c0] W (WriteOut w.heap.size g r code (wrB L I bs) W) from fun W h hb => by rw [hcode]; exact write_any h I A n0 c0 bs hm (Kd.C_below hX.bytes hb) hX.nc hX.ok (fun p hp hn => by have h1 : p.block < w.heap.size := hfar p hp hn; have := h.hr; omega))
      have HLL := Lib.hid (wrB_length L I bs)
      have HLN := Lib.hid hL
      clear hdc hx hX hfar hL hcode
      obtain ⟨wq, hwq⟩ : ∃ wq : World, wq = wr := ⟨_, rfl⟩
      subst hwq
      go_wp2
      refine s_region (fun u => Below w.heap.size w u) (by kernel_rfl) 12 (by kernel_rfl) (below_drew HB.out) (fun hS => ?_)
      have HT1 := Lib.hid (HT.out.next (below_drew (Below.refl wq.heap.size wq)))
      have HR1 := Lib.hid (RDsk.next HR.out (below_drew (Below.refl wq.heap.size wq)))
      generalize hwd : wq.drew = wd at *
      clear hwd HT HR HB
      refine s_take 0 (_) hS rfl (by kernel_rfl) (by kernel_rfl) (by kernel_rfl) (fun _ _ _ h => h) rfl (fun w' hw' => run_move_at _ rfl w') ?_
      simp only [Act.put, List.setIfInBounds_toArray, List.set_cons_zero, List.set_cons_succ]
      refine s_take 1 (_) hS rfl (by kernel_rfl) (by kernel_rfl) (by kernel_rfl) (fun _ _ _ h => h) rfl (fun w' hw' => run_move_at _ rfl w') ?_
      simp only [Act.put, List.setIfInBounds_toArray, List.set_cons_zero, List.set_cons_succ]
      refine s_take 2 (_) hS rfl (by kernel_rfl) (by kernel_rfl) (by kernel_rfl) (fun _ _ _ h => h) rfl (fun w' hw' => run_move_at _ rfl w') ?_
      simp only [Act.put, List.setIfInBounds_toArray, List.set_cons_zero, List.set_cons_succ]
      refine s_take 3 (.pointer (some (ad.add (kk * 6)))) hS rfl (by kernel_rfl) (by kernel_rfl) (by kernel_rfl) (fun _ _ _ h => h) rfl (fun w' hw' => by (have hc0 := hltz; have hc1 := hk4; have hc2 := hk5; unfold execOp; simp [go_sem, Act.put, Act.eval, hc0, hc1, hc2])) ?_
      simp only [Act.put, List.setIfInBounds_toArray, List.set_cons_zero, List.set_cons_succ]
      refine s_take 4 (.pointer (some ⟨(ad.add (kk * 6)).block, (ad.add (kk * 6)).off + 1, none⟩)) hS rfl (by kernel_rfl) (by kernel_rfl) (by kernel_rfl) (fun _ _ _ h => h) rfl (fun w' hw' => by (unfold execOp; simp [go_sem, Act.put, Act.eval])) ?_
      simp only [Act.put, List.setIfInBounds_toArray, List.set_cons_zero, List.set_cons_succ]
      refine s_take 5 (.int .i64 I) hS rfl (by kernel_rfl) (by kernel_rfl) (by kernel_rfl) (fun _ _ _ h => h) rfl (fun w' hw' => by (have hc0 := (HDC.out w' hw').1; unfold execOp; simp [go_sem, Act.put, Act.eval, hc0])) ?_
      simp only [Act.put, List.setIfInBounds_toArray, List.set_cons_zero, List.set_cons_succ]
      refine s_take 6 (_) hS rfl (by kernel_rfl) (by kernel_rfl) (by kernel_rfl) (fun _ _ _ h => h) rfl (fun w' hw' => run_move_at _ rfl w') ?_
      simp only [Act.put, List.setIfInBounds_toArray, List.set_cons_zero, List.set_cons_succ]
      refine s_take 7 (_) hS rfl (by kernel_rfl) (by kernel_rfl) (by kernel_rfl) (fun _ _ _ h => h) rfl (fun w' hw' => run_move_at _ rfl w') ?_
      simp only [Act.put, List.setIfInBounds_toArray, List.set_cons_zero, List.set_cons_succ]
      refine s_take 8 (.pointer (some (ad.add (kk * 6)))) hS rfl (by kernel_rfl) (by kernel_rfl) (by kernel_rfl) (fun _ _ _ h => h) rfl (fun w' hw' => by (have hc0 := hltz; have hc1 := hk4; have hc2 := hk5; unfold execOp; simp [go_sem, Act.put, Act.eval, hc0, hc1, hc2])) ?_
      simp only [Act.put, List.setIfInBounds_toArray, List.set_cons_zero, List.set_cons_succ]
      refine s_take 9 (.pointer (some ⟨(ad.add (kk * 6)).block, (ad.add (kk * 6)).off + 4, none⟩)) hS rfl (by kernel_rfl) (by kernel_rfl) (by kernel_rfl) (fun _ _ _ h => h) rfl (fun w' hw' => by (unfold execOp; simp [go_sem, Act.put, Act.eval])) ?_
      simp only [Act.put, List.setIfInBounds_toArray, List.set_cons_zero, List.set_cons_succ]
      refine s_take 10 (.slice A n0 c0) hS rfl (by kernel_rfl) (by kernel_rfl) (by kernel_rfl) (fun _ _ _ h => h) rfl (fun w' hw' => by (have hc0 := (HDC.out w' hw').2.1; unfold execOp; simp [go_sem, Act.put, Act.eval, hc0])) ?_
      simp only [Act.put, List.setIfInBounds_toArray, List.set_cons_zero, List.set_cons_succ]
      refine s_call 11 rfl (by kernel_rfl) rfl 50 _ _ Try.func50 (by kernel_rfl) rfl _ _ #[.pointer (some ⟨g, 0, none⟩), .int .i64 I, .slice A n0 c0] rfl (by simp [Act.put, Act.eval]) (HWR.out _ HT1.out hS) ?_
      rintro e w3 ⟨rfl, hT3, hK3, hB3⟩
      have HT3 := Lib.hid hT3
      have HR3 := Lib.hid (RDsk.keepB HR1.out HT1.out hK3)
      have HB3 := Lib.hid (hS.trans hB3)
      clear hT3 hK3 hB3 HT1 HR1
      have hS := HB3.out
      refine ⟨_, rfl, hS, ?_⟩
      simp only [Act.put, List.setIfInBounds_toArray, List.set_cons_zero, List.set_cons_succ]
      refine s_done (by kernel_rfl) ?_
      clear hS
      go_wp2
      refine s_region (fun u => Below w.heap.size w u) (by kernel_rfl) 13 (by kernel_rfl) (below_drew HB3.out) (fun hS => ?_)
      have HT4 := Lib.hid (HT3.out.next (below_drew (Below.refl w3.heap.size w3)))
      have HR4 := Lib.hid (RDsk.next HR3.out (below_drew (Below.refl w3.heap.size w3)))
      generalize hwe : w3.drew = we at *
      clear hwe HT3 HR3 HB3
      refine s_take 0 (_) hS rfl (by kernel_rfl) (by kernel_rfl) (by kernel_rfl) (fun _ _ _ h => h) rfl (fun w' hw' => run_move_at _ rfl w') ?_
      simp only [Act.put, List.setIfInBounds_toArray, List.set_cons_zero, List.set_cons_succ]
      refine s_take 1 (_) hS rfl (by kernel_rfl) (by kernel_rfl) (by kernel_rfl) (fun _ _ _ h => h) rfl (fun w' hw' => run_move_at _ rfl w') ?_
      simp only [Act.put, List.setIfInBounds_toArray, List.set_cons_zero, List.set_cons_succ]
      refine s_take 2 (_) hS rfl (by kernel_rfl) (by kernel_rfl) (by kernel_rfl) (fun _ _ _ h => h) rfl (fun w' hw' => run_move_at _ rfl w') ?_
      simp only [Act.put, List.setIfInBounds_toArray, List.set_cons_zero, List.set_cons_succ]
      refine s_take 3 (.pointer (some (ad.add (kk * 6)))) hS rfl (by kernel_rfl) (by kernel_rfl) (by kernel_rfl) (fun _ _ _ h => h) rfl (fun w' hw' => by (have hc0 := hltz; have hc1 := hk4; have hc2 := hk5; unfold execOp; simp [go_sem, Act.put, Act.eval, hc0, hc1, hc2])) ?_
      simp only [Act.put, List.setIfInBounds_toArray, List.set_cons_zero, List.set_cons_succ]
      refine s_take 4 (.pointer (some ⟨(ad.add (kk * 6)).block, (ad.add (kk * 6)).off + 1, none⟩)) hS rfl (by kernel_rfl) (by kernel_rfl) (by kernel_rfl) (fun _ _ _ h => h) rfl (fun w' hw' => by (unfold execOp; simp [go_sem, Act.put, Act.eval])) ?_
      simp only [Act.put, List.setIfInBounds_toArray, List.set_cons_zero, List.set_cons_succ]
      refine s_take 5 (.int .i64 I) hS rfl (by kernel_rfl) (by kernel_rfl) (by kernel_rfl) (fun _ _ _ h => h) rfl (fun w' hw' => by (have hc0 := (HDC.out w' hw').1; unfold execOp; simp [go_sem, Act.put, Act.eval, hc0])) ?_
      simp only [Act.put, List.setIfInBounds_toArray, List.set_cons_zero, List.set_cons_succ]
      refine s_take 6 (_) hS rfl (by kernel_rfl) (by kernel_rfl) (by kernel_rfl) (fun _ _ _ h => h) rfl (fun w' hw' => run_move_at _ rfl w') ?_
      simp only [Act.put, List.setIfInBounds_toArray, List.set_cons_zero, List.set_cons_succ]
      refine s_take 7 (_) hS rfl (by kernel_rfl) (by kernel_rfl) (by kernel_rfl) (fun _ _ _ h => h) rfl (fun w' hw' => run_move_at _ rfl w') ?_
      simp only [Act.put, List.setIfInBounds_toArray, List.set_cons_zero, List.set_cons_succ]
      refine s_take 8 (.pointer (some (ad.add (kk * 6)))) hS rfl (by kernel_rfl) (by kernel_rfl) (by kernel_rfl) (fun _ _ _ h => h) rfl (fun w' hw' => by (have hc0 := hltz; have hc1 := hk4; have hc2 := hk5; unfold execOp; simp [go_sem, Act.put, Act.eval, hc0, hc1, hc2])) ?_
      simp only [Act.put, List.setIfInBounds_toArray, List.set_cons_zero, List.set_cons_succ]
      refine s_take 9 (.pointer (some ⟨(ad.add (kk * 6)).block, (ad.add (kk * 6)).off + 4, none⟩)) hS rfl (by kernel_rfl) (by kernel_rfl) (by kernel_rfl) (fun _ _ _ h => h) rfl (fun w' hw' => by (unfold execOp; simp [go_sem, Act.put, Act.eval])) ?_
      simp only [Act.put, List.setIfInBounds_toArray, List.set_cons_zero, List.set_cons_succ]
      refine s_take 10 (.slice A n0 c0) hS rfl (by kernel_rfl) (by kernel_rfl) (by kernel_rfl) (fun _ _ _ h => h) rfl (fun w' hw' => by (have hc0 := (HDC.out w' hw').2.1; unfold execOp; simp [go_sem, Act.put, Act.eval, hc0])) ?_
      simp only [Act.put, List.setIfInBounds_toArray, List.set_cons_zero, List.set_cons_succ]
      refine s_take 11 (.string (strOfNums bs)) hS rfl (by kernel_rfl) (by kernel_rfl) (by kernel_rfl) (fun _ _ _ h => h) rfl (fun w' hw' => by (have hc0 := Kd.C_string (P := Try.prog) (dst := 9) (c := c0) Try.underlying29 Try.underlying5 Try.underlying9 ((HDC.out w' hw').2.2); unfold execOp; simp [go_sem, Act.put, Act.eval, hc0])) ?_
      simp only [Act.put, List.setIfInBounds_toArray, List.set_cons_zero, List.set_cons_succ]
      refine s_call 12 rfl (by kernel_rfl) rfl 51 _ _ Try.func51 (by kernel_rfl) rfl _ _ #[.pointer (some ⟨g', 0, none⟩), .int .i64 I, .string (strOfNums bs)] rfl (by simp [Act.put, Act.eval]) (rwrite_any HR4.out HF.out I bs hm) ?_
      rintro e w5 ⟨rfl, hR5, hK5, hB5⟩
      have HT5 := Lib.hid (HT4.out.keepT hK5 (by decide) (by decide))
      have HR5 := Lib.hid hR5
      have HB5 := Lib.hid (hS.trans hB5)
      clear hR5 hK5 hB5 HT4 HR4
      have hS := HB5.out
      refine ⟨_, rfl, hS, ?_⟩
      simp only [Act.put, List.setIfInBounds_toArray, List.set_cons_zero, List.set_cons_succ]
      refine s_done (by kernel_rfl) ?_
      clear hS
      go_wp2
      go_roundg (len1 - (kk + 1))
      case measure => omega
      case rel => exact ⟨kk + 1, _, vs, by omega, by omega, by go_num, by rw [HLL.out]; exact HLN.out, ⟨HT5.out⟩, ⟨HR5.out⟩, ⟨HB5.out⟩⟩
    · have hltz : ¬ (kk : Int) < (len1 : Int) := by omega
      have hmL := hm L hL
      have HFL := Lib.hid (show ∀ (i : Nat) (b : Blk), L[i]? = some b → b.Fine from fun i b hb => (HT.out.blk i b hb).2)
      have HFI := Lib.hid (flush_any HT.out hmL)
      have HMK := Lib.hid (fun W => run_make_row' 94 9 (.string ⟨#[]⟩) 16 Try.underlying94 infoS rfl .i64 .i64 n (by omega) (by omega) W)
      obtain ⟨wq, hwq⟩ : ∃ wq : World, wq = wr := ⟨_, rfl⟩
      subst hwq
      have HLN := Lib.hid hL
      clear hL
      go_wp2_with (go_at_call 52; refine HFI.out.mono ?_; rintro e w6 ⟨rfl, hT6, hK6, hB6⟩; have hmk := HMK.out w6; rw [made_rep] at hmk; have HT6 := Lib.hid hT6; have HR6 := Lib.hid (RDsk.keepB HR.out HT.out hK6); have HB6 := Lib.hid (HB.out.trans hB6); clear hT6 hK6 hB6)
      clear HT HR HB HFI HMK
      obtain ⟨bl, hbl⟩ : ∃ bl, bl = w6.heap.size := ⟨_, rfl⟩
      have hblw : w.heap.size ≤ bl := by rw [hbl]; exact HB6.out.size
      have hblr : bl ≠ r := by have := HT6.out.rlt; omega
      have hblg : bl ≠ g := by have := (Array.getElem?_eq_some_iff.1 HT6.out.tab).1; omega
      have hblg' : bl ≠ g' := by have := (RDsk.own_lt HR6.out).1; omega
      have HOW := Lib.hid (show ∀ v ∈ vs, ∀ k, v.ownBlock = some k → k ≠ bl from fun v hv k hk => by have := (RDsk.own_lt HR6.out).2 v hv k hk; omega)
      have HT7 := Lib.hid (HT6.out.next (below_alloc (Below.refl w6.heap.size w6) (.cells (List.replicate n (Value.string ⟨#[]⟩)).toArray 9)))
      have HR7 := Lib.hid (RDsk.next HR6.out (below_alloc (Below.refl w6.heap.size w6) (.cells (List.replicate n (Value.string ⟨#[]⟩)).toArray 9)))
      have HL7 := Lib.hid (show SArr (w6.alloc (.cells (List.replicate n (Value.string ⟨#[]⟩)).toArray 9)) bl (List.replicate L.length []) from by rw [hbl, HLN.out]; unfold SArr strC; rw [List.map_replicate, strOf_nil]; exact heap_alloc_new w6 _)
      have HB7 := Lib.hid (below_alloc HB6.out (.cells (List.replicate n (Value.string ⟨#[]⟩)).toArray 9))
      try simp only [List.toArray_replicate] at HT7 HR7 HL7 HB7
      rw [← hbl]
      have HBL := Lib.hid hbl
      clear hbl HT6 HR6 HB6 hmk
      go_loopg [14] len2 (fun gg s14 wr => ∃ (k2 : Nat) (L2 : List Blk) (last : List (List Int)), k2 ≤ len2 ∧ len2 - k2 ≤ gg ∧ s14 = .int .i64 k2 ∧ Aside0 (Rel2 L L2 last) ∧ Aside0 (DTab w.heap.size wr g r L2) ∧ Aside0 (RD w.heap.size wr g' vs L) ∧ Aside0 (SArr wr bl last) ∧ Aside0 (Below w.heap.size w wr))
      case atStart => exact ⟨0, _, _, Nat.zero_le _, by omega, rfl, ⟨.start L⟩, ⟨HT7.out⟩, ⟨HR7.out⟩, ⟨HL7.out⟩, ⟨HB7.out⟩⟩
      case round =>
        clear HT7 HR7 HL7 HB7 hltz hkk hg hlt
        obtain ⟨wz, hwz⟩ : ∃ wz : World, wz = wq := ⟨_, rfl⟩
        clear hwz
        obtain ⟨k2, L2, last, hkk, hg, rfl, HREL, HT, HR, HL, HB⟩ := hrel
        by_cases hlt : k2 < len2
        · as_aux_lemma =>
          obtain ⟨kk, hkk0⟩ : ∃ kk, kk = k2 := ⟨_, rfl⟩
          subst hkk0
          have hltz : (kk : Int) < (len2 : Int) := by omega
          have hk4 : ¬ (kk : Int) < 0 := by omega
          have hk5 : kk ≤ 9223372036854775807 := by omega
          obtain ⟨x, hx⟩ : ∃ x, z2[kk]? = some x := ⟨_, List.getElem?_eq_getElem (by rw [HP2.out]; exact hlt)⟩
          have hX := HZ2.out kk x hx
          obtain ⟨ad, rfl, hdc⟩ := d6_cells hX
          have hfar := d6_far hX
          obtain ⟨xw, I, xk, xx, A, n0, c0, bs, kA, kn, kc, kks⟩ := x
          have hL2n : L2.length = n := by rw [HREL.out.len]; exact HLN.out
          have hm2 := hm L2 hL2n
          cases hok : wrOk L2 I bs with
          | true =>
            obtain ⟨j, b2, rfl, hb2, hbs, hwe⟩ := wrB_ok hok
            have HDC := Lib.hid hdc
            have HWR := Lib.hid (show ∀ W, DTab w.heap.size W g r L2 → Below w.heap.size w W → Calls Try.prog 50 #[.pointer (some ⟨g, 0, none⟩), .int .i64 (j : Int), .slice A n0 c0] W (WriteOut w.heap.size g r 0 (L2.set j { b2 with f := bs, p := b2.now, q := true }) W) from fun W h hb => by
              have h' := write_any h (j : Int) A n0 c0 bs hm2 (Kd.C_below hX.bytes hb) hX.nc hX.ok (fun p hp hn => by have h1 : p.block < w.heap.size := hfar p hp hn; have := h.hr; omega)
              rw [hok, hwe] at h'
              exact h')
            have hjl0 := (List.getElem?_eq_some_iff.1 hb2).1
            have hjn : j < n := by omega
            have hjl : j < L.length := by rw [HLN.out]; exact hjn
            have hj1 : (j : Int) < (n : Int) := by omega
            have hj2 : ¬ (j : Int) < 0 := by omega
            have hj3 : j ≤ 9223372036854775807 := by omega
            have hj4 : ¬ (j : Int) ≥ (n : Int) := by omega
            have HRW := Lib.hid (HREL.out.write j b2 hb2 bs hbs b2.now)
            clear hdc hx hX hfar hwe hok hb2 hjl0 hL2n hm2
            obtain ⟨wq, hwq⟩ : ∃ wq : World, wq = wr := ⟨_, rfl⟩
            subst hwq
            go_wp2
            refine s_region (fun u => Below w.heap.size w u) (by kernel_rfl) 13 (by kernel_rfl) (below_drew HB.out) (fun hS => ?_)
            have HT1 := Lib.hid (HT.out.next (below_drew (Below.refl wq.heap.size wq)))
            have HR1 := Lib.hid (RDsk.next HR.out (below_drew (Below.refl wq.heap.size wq)))
            have HL1 := Lib.hid (HL.out.next (below_drew (Below.refl wq.heap.size wq)))
            generalize hwd : wq.drew = wd at *
            clear hwd HT HR HB HL
            refine s_take 0 (_) hS rfl (by kernel_rfl) (by kernel_rfl) (by kernel_rfl) (fun _ _ _ h => h) rfl (fun w' hw' => run_move_at _ rfl w') ?_
            simp only [Act.put, List.setIfInBounds_toArray, List.set_cons_zero, List.set_cons_succ]
            refine s_take 1 (_) hS rfl (by kernel_rfl) (by kernel_rfl) (by kernel_rfl) (fun _ _ _ h => h) rfl (fun w' hw' => run_move_at _ rfl w') ?_
            simp only [Act.put, List.setIfInBounds_toArray, List.set_cons_zero, List.set_cons_succ]
            refine s_take 2 (_) hS rfl (by kernel_rfl) (by kernel_rfl) (by kernel_rfl) (fun _ _ _ h => h) rfl (fun w' hw' => run_move_at _ rfl w') ?_
            simp only [Act.put, List.setIfInBounds_toArray, List.set_cons_zero, List.set_cons_succ]
            refine s_take 3 (.pointer (some (ad.add (kk * 6)))) hS rfl (by kernel_rfl) (by kernel_rfl) (by kernel_rfl) (fun _ _ _ h => h) rfl (fun w' hw' => by (have hc0 := hltz; have hc1 := hk4; have hc2 := hk5; unfold execOp; simp [go_sem, Act.put, Act.eval, hc0, hc1, hc2])) ?_
            simp only [Act.put, List.setIfInBounds_toArray, List.set_cons_zero, List.set_cons_succ]
            refine s_take 4 (.pointer (some ⟨(ad.add (kk * 6)).block, (ad.add (kk * 6)).off + 1, none⟩)) hS rfl (by kernel_rfl) (by kernel_rfl) (by kernel_rfl) (fun _ _ _ h => h) rfl (fun w' hw' => by (unfold execOp; simp [go_sem, Act.put, Act.eval])) ?_
            simp only [Act.put, List.setIfInBounds_toArray, List.set_cons_zero, List.set_cons_succ]
            refine s_take 5 (.int .i64 (j : Int)) hS rfl (by kernel_rfl) (by kernel_rfl) (by kernel_rfl) (fun _ _ _ h => h) rfl (fun w' hw' => by (have hc0 := (HDC.out w' hw').1; unfold execOp; simp [go_sem, Act.put, Act.eval, hc0])) ?_
            simp only [Act.put, List.setIfInBounds_toArray, List.set_cons_zero, List.set_cons_succ]
            refine s_take 6 (_) hS rfl (by kernel_rfl) (by kernel_rfl) (by kernel_rfl) (fun _ _ _ h => h) rfl (fun w' hw' => run_move_at _ rfl w') ?_
            simp only [Act.put, List.setIfInBounds_toArray, List.set_cons_zero, List.set_cons_succ]
            refine s_take 7 (_) hS rfl (by kernel_rfl) (by kernel_rfl) (by kernel_rfl) (fun _ _ _ h => h) rfl (fun w' hw' => run_move_at _ rfl w') ?_
            simp only [Act.put, List.setIfInBounds_toArray, List.set_cons_zero, List.set_cons_succ]
            refine s_take 8 (.pointer (some (ad.add (kk * 6)))) hS rfl (by kernel_rfl) (by kernel_rfl) (by kernel_rfl) (fun _ _ _ h => h) rfl (fun w' hw' => by (have hc0 := hltz; have hc1 := hk4; have hc2 := hk5; unfold execOp; simp [go_sem, Act.put, Act.eval, hc0, hc1, hc2])) ?_
            simp only [Act.put, List.setIfInBounds_toArray, List.set_cons_zero, List.set_cons_succ]
            refine s_take 9 (.pointer (some ⟨(ad.add (kk * 6)).block, (ad.add (kk * 6)).off + 4, none⟩)) hS rfl (by kernel_rfl) (by kernel_rfl) (by kernel_rfl) (fun _ _ _ h => h) rfl (fun w' hw' => by (unfold execOp; simp [go_sem, Act.put, Act.eval])) ?_
            simp only [Act.put, List.setIfInBounds_toArray, List.set_cons_zero, List.set_cons_succ]
            refine s_take 10 (.slice A n0 c0) hS rfl (by kernel_rfl) (by kernel_rfl) (by kernel_rfl) (fun _ _ _ h => h) rfl (fun w' hw' => by (have hc0 := (HDC.out w' hw').2.1; unfold execOp; simp [go_sem, Act.put, Act.eval, hc0])) ?_
            simp only [Act.put, List.setIfInBounds_toArray, List.set_cons_zero, List.set_cons_succ]
            refine s_call 11 rfl (by kernel_rfl) rfl 50 _ _ Try.func50 (by kernel_rfl) rfl _ _ #[.pointer (some ⟨g, 0, none⟩), .int .i64 (j : Int), .slice A n0 c0] rfl (by simp [Act.put, Act.eval]) (HWR.out _ HT1.out hS) ?_
            rintro e w3 ⟨rfl, hT3, hK3, hB3⟩
            have HT3 := Lib.hid hT3
            have HR3 := Lib.hid (RDsk.keepB HR1.out HT1.out hK3)
            have HL3 := Lib.hid (HL1.out.keepB hK3 (fun hh => hblr (List.mem_singleton.1 hh)))
            have HB3 := Lib.hid (hS.trans hB3)
            clear hT3 hK3 hB3 HT1 HR1 HL1
            have hS := HB3.out
            refine ⟨_, rfl, hS, ?_⟩
            simp only [Act.put, List.setIfInBounds_toArray, List.set_cons_zero, List.set_cons_succ]
            refine s_take 12 (.bool true) hS rfl (by kernel_rfl) (by kernel_rfl) (by kernel_rfl) (fun _ _ _ h => h) rfl (fun w' hw' => by (unfold execOp; simp [go_sem, Act.put, Act.eval])) ?_
            simp only [Act.put, List.setIfInBounds_toArray, List.set_cons_zero, List.set_cons_succ]
            refine s_done (by kernel_rfl) ?_
            clear hS
            have c5 := (HDC.out _ HB3.out).1
            go_wp2
            clear c5
            refine s_region (fun u => Below w.heap.size w u) (by kernel_rfl) 14 (by kernel_rfl) (below_drew HB3.out) (fun hS => ?_)
            have HT4 := Lib.hid (HT3.out.next (below_drew (Below.refl w3.heap.size w3)))
            have HR4 := Lib.hid (RDsk.next HR3.out (below_drew (Below.refl w3.heap.size w3)))
            have HL4 := Lib.hid (HL3.out.next (below_drew (Below.refl w3.heap.size w3)))
            generalize hwe : w3.drew = we at *
            clear hwe HT3 HR3 HL3 HB3
            refine s_take 0 (_) hS rfl (by kernel_rfl) (by kernel_rfl) (by kernel_rfl) (fun _ _ _ h => h) rfl (fun w' hw' => run_move_at _ rfl w') ?_
            simp only [Act.put, List.setIfInBounds_toArray, List.set_cons_zero, List.set_cons_succ]
            refine s_take 1 (_) hS rfl (by kernel_rfl) (by kernel_rfl) (by kernel_rfl) (fun _ _ _ h => h) rfl (fun w' hw' => run_move_at _ rfl w') ?_
            simp only [Act.put, List.setIfInBounds_toArray, List.set_cons_zero, List.set_cons_succ]
            refine s_take 2 (_) hS rfl (by kernel_rfl) (by kernel_rfl) (by kernel_rfl) (fun _ _ _ h => h) rfl (fun w' hw' => run_move_at _ rfl w') ?_
            simp only [Act.put, List.setIfInBounds_toArray, List.set_cons_zero, List.set_cons_succ]
            refine s_take 3 (.pointer (some (ad.add (kk * 6)))) hS rfl (by kernel_rfl) (by kernel_rfl) (by kernel_rfl) (fun _ _ _ h => h) rfl (fun w' hw' => by (have hc0 := hltz; have hc1 := hk4; have hc2 := hk5; unfold execOp; simp [go_sem, Act.put, Act.eval, hc0, hc1, hc2])) ?_
            simp only [Act.put, List.setIfInBounds_toArray, List.set_cons_zero, List.set_cons_succ]
            refine s_take 4 (.pointer (some ⟨(ad.add (kk * 6)).block, (ad.add (kk * 6)).off + 1, none⟩)) hS rfl (by kernel_rfl) (by kernel_rfl) (by kernel_rfl) (fun _ _ _ h => h) rfl (fun w' hw' => by (unfold execOp; simp [go_sem, Act.put, Act.eval])) ?_
            simp only [Act.put, List.setIfInBounds_toArray, List.set_cons_zero, List.set_cons_succ]
            refine s_take 5 (.int .i64 (j : Int)) hS rfl (by kernel_rfl) (by kernel_rfl) (by kernel_rfl) (fun _ _ _ h => h) rfl (fun w' hw' => by (have hc0 := (HDC.out w' hw').1; unfold execOp; simp [go_sem, Act.put, Act.eval, hc0])) ?_
            simp only [Act.put, List.setIfInBounds_toArray, List.set_cons_zero, List.set_cons_succ]
            refine s_take 6 (_) hS rfl (by kernel_rfl) (by kernel_rfl) (by kernel_rfl) (fun _ _ _ h => h) rfl (fun w' hw' => run_move_at _ rfl w') ?_
            simp only [Act.put, List.setIfInBounds_toArray, List.set_cons_zero, List.set_cons_succ]
            refine s_take 7 (_) hS rfl (by kernel_rfl) (by kernel_rfl) (by kernel_rfl) (fun _ _ _ h => h) rfl (fun w' hw' => run_move_at _ rfl w') ?_
            simp only [Act.put, List.setIfInBounds_toArray, List.set_cons_zero, List.set_cons_succ]
            refine s_take 8 (.pointer (some (ad.add (kk * 6)))) hS rfl (by kernel_rfl) (by kernel_rfl) (by kernel_rfl) (fun _ _ _ h => h) rfl (fun w' hw' => by (have hc0 := hltz; have hc1 := hk4; have hc2 := hk5; unfold execOp; simp [go_sem, Act.put, Act.eval, hc0, hc1, hc2])) ?_
            simp only [Act.put, List.setIfInBounds_toArray, List.set_cons_zero, List.set_cons_succ]
            refine s_take 9 (.pointer (some ⟨(ad.add (kk * 6)).block, (ad.add (kk * 6)).off + 4, none⟩)) hS rfl (by kernel_rfl) (by kernel_rfl) (by kernel_rfl) (fun _ _ _ h => h) rfl (fun w' hw' => by (unfold execOp; simp [go_sem, Act.put, Act.eval])) ?_
            simp only [Act.put, List.setIfInBounds_toArray, List.set_cons_zero, List.set_cons_succ]
            refine s_take 10 (.slice A n0 c0) hS rfl (by kernel_rfl) (by kernel_rfl) (by kernel_rfl) (fun _ _ _ h => h) rfl (fun w' hw' => by (have hc0 := (HDC.out w' hw').2.1; unfold execOp; simp [go_sem, Act.put, Act.eval, hc0])) ?_
            simp only [Act.put, List.setIfInBounds_toArray, List.set_cons_zero, List.set_cons_succ]
            refine s_take 11 (.string (strOfNums bs)) hS rfl (by kernel_rfl) (by kernel_rfl) (by kernel_rfl) (fun _ _ _ h => h) rfl (fun w' hw' => by (have hc0 := Kd.C_string (P := Try.prog) (dst := 9) (c := c0) Try.underlying29 Try.underlying5 Try.underlying9 ((HDC.out w' hw').2.2); unfold execOp; simp [go_sem, Act.put, Act.eval, hc0])) ?_
            simp only [Act.put, List.setIfInBounds_toArray, List.set_cons_zero, List.set_cons_succ]
            refine s_take 12 (.pointer (some ⟨bl, j, none⟩)) hS rfl (by kernel_rfl) (by kernel_rfl) (by kernel_rfl) (fun _ _ _ h => h) rfl (fun w' hw' => by (have hc0 := hj1; have hc1 := hj2; have hc2 := hj3; unfold execOp; simp [go_sem, Act.put, Act.eval, hc0, hc1, hc2])) ?_
            simp only [Act.put, List.setIfInBounds_toArray, List.set_cons_zero, List.set_cons_succ]
            have hS2 := HL4.out.set j bs
            have HB7 := Lib.hid (hS.setCell (p := ⟨bl, j, none⟩) hblw (.string (strOfNums bs)))
            obtain ⟨s0, hs0⟩ : ∃ s0, last[j]? = some s0 := ⟨_, List.getElem?_eq_getElem (by rw [HREL.out.len2]; exact hjl)⟩
            have hm1 := HL4.out.cell j s0 hs0
            have hm2 := HL4.out.free j
            refine s_one 13 rfl (by kernel_rfl) ?_
            refine g_skip (we.setCell ⟨bl, j, none⟩ (.string (strOfNums bs))) rfl (by (have hc0 := hm1; have hc1 := hm2; unfold execOp; simp [go_sem, Act.put, Act.eval, hc0, hc1])) HB7.out (fun _ => ?_)
            simp only [Act.put, List.setIfInBounds_toArray, List.set_cons_zero, List.set_cons_succ]
            refine s_done (by kernel_rfl) ?_
            have HT8 := Lib.hid (HT4.out.keepB hS2.2 (fun hh => hblg (List.mem_singleton.1 hh).symm) (fun hh => hblr (List.mem_singleton.1 hh).symm))
            have HR8 := Lib.hid (RDsk.keepOwn HR4.out [bl] hS2.2 (fun hh => hblg' (List.mem_singleton.1 hh).symm) (fun v hv k hk hh => HOW.out v hv k hk (List.mem_singleton.1 hh)))
            have HL8 := Lib.hid hS2.1
            clear hS hm1 hm2 hS2 HT4 HR4 HL4 hs0
            generalize hw8 : we.setCell ⟨bl, j, none⟩ (.string (strOfNums bs)) = w8 at *
            clear hw8
            go_wp2
            go_roundg (len2 - (kk + 1))
            case measure => omega
            case rel => exact ⟨kk + 1, _, _, by omega, by omega, by go_num, ⟨HRW.out⟩, ⟨HT8.out⟩, ⟨HR8.out⟩, ⟨HL8.out⟩, ⟨HB7.out⟩⟩
          | false =>
            have HDC := Lib.hid hdc
            have HWR := Lib.hid (show ∀ W, DTab w.heap.size W g r L2 → Below w.heap.size w W → Calls Try.prog 50 #[.pointer (some ⟨g, 0, none⟩), .int .i64 I, .slice A n0 c0] W (WriteOut w.heap.size g r 1 L2 W) from fun W h hb => by
              have h' := write_any h I A n0 c0 bs hm2 (Kd.C_below hX.bytes hb) hX.nc hX.ok (fun p hp hn => by have h1 : p.block < w.heap.size := hfar p hp hn; have := h.hr; omega)
              rw [hok, wrB_bad hok] at h'
              exact h')
            clear hdc hx hX hfar hok hL2n hm2
            obtain ⟨wq, hwq⟩ : ∃ wq : World, wq = wr := ⟨_, rfl⟩
            subst hwq
            go_wp2
            refine s_region (fun u => Below w.heap.size w u) (by kernel_rfl) 13 (by kernel_rfl) (below_drew HB.out) (fun hS => ?_)
            have HT1 := Lib.hid (HT.out.next (below_drew (Below.refl wq.heap.size wq)))
            have HR1 := Lib.hid (RDsk.next HR.out (below_drew (Below.refl wq.heap.size wq)))
            have HL1 := Lib.hid (HL.out.next (below_drew (Below.refl wq.heap.size wq)))
            generalize hwd : wq.drew = wd at *
            clear hwd HT HR HB HL
            refine s_take 0 (_) hS rfl (by kernel_rfl) (by kernel_rfl) (by kernel_rfl) (fun _ _ _ h => h) rfl (fun w' hw' => run_move_at _ rfl w') ?_
            simp only [Act.put, List.setIfInBounds_toArray, List.set_cons_zero, List.set_cons_succ]
            refine s_take 1 (_) hS rfl (by kernel_rfl) (by kernel_rfl) (by kernel_rfl) (fun _ _ _ h => h) rfl (fun w' hw' => run_move_at _ rfl w') ?_
            simp only [Act.put, List.setIfInBounds_toArray, List.set_cons_zero, List.set_cons_succ]
            refine s_take 2 (_) hS rfl (by kernel_rfl) (by kernel_rfl) (by kernel_rfl) (fun _ _ _ h => h) rfl (fun w' hw' => run_move_at _ rfl w') ?_
            simp only [Act.put, List.setIfInBounds_toArray, List.set_cons_zero, List.set_cons_succ]
            refine s_take 3 (.pointer (some (ad.add (kk * 6)))) hS rfl (by kernel_rfl) (by kernel_rfl) (by kernel_rfl) (fun _ _ _ h => h) rfl (fun w' hw' => by (have hc0 := hltz; have hc1 := hk4; have hc2 := hk5; unfold execOp; simp [go_sem, Act.put, Act.eval, hc0, hc1, hc2])) ?_
            simp only [Act.put, List.setIfInBounds_toArray, List.set_cons_zero, List.set_cons_succ]
            refine s_take 4 (.pointer (some ⟨(ad.add (kk * 6)).block, (ad.add (kk * 6)).off + 1, none⟩)) hS rfl (by kernel_rfl) (by kernel_rfl) (by kernel_rfl) (fun _ _ _ h => h) rfl (fun w' hw' => by (unfold execOp; simp [go_sem, Act.put, Act.eval])) ?_
            simp only [Act.put, List.setIfInBounds_toArray, List.set_cons_zero, List.set_cons_succ]
            refine s_take 5 (.int .i64 I) hS rfl (by kernel_rfl) (by kernel_rfl) (by kernel_rfl) (fun _ _ _ h => h) rfl (fun w' hw' => by (have hc0 := (HDC.out w' hw').1; unfold execOp; simp [go_sem, Act.put, Act.eval, hc0])) ?_
            simp only [Act.put, List.setIfInBounds_toArray, List.set_cons_zero, List.set_cons_succ]
            refine s_take 6 (_) hS rfl (by kernel_rfl) (by kernel_rfl) (by kernel_rfl) (fun _ _ _ h => h) rfl (fun w' hw' => run_move_at _ rfl w') ?_
            simp only [Act.put, List.setIfInBounds_toArray, List.set_cons_zero, List.set_cons_succ]
            refine s_take 7 (_) hS rfl (by kernel_rfl) (by kernel_rfl) (by kernel_rfl) (fun _ _ _ h => h) rfl (fun w' hw' => run_move_at _ rfl w') ?_
            simp only [Act.put, List.setIfInBounds_toArray, List.set_cons_zero, List.set_cons_succ]
            refine s_take 8 (.pointer (some (ad.add (kk * 6)))) hS rfl (by kernel_rfl) (by kernel_rfl) (by kernel_rfl) (fun _ _ _ h => h) rfl (fun w' hw' => by (have hc0 := hltz; have hc1 := hk4; have hc2 := hk5; unfold execOp; simp [go_sem, Act.put, Act.eval, hc0, hc1, hc2])) ?_
            simp only [Act.put, List.setIfInBounds_toArray, List.set_cons_zero, List.set_cons_succ]
            refine s_take 9 (.pointer (some ⟨(ad.add (kk * 6)).block, (ad.add (kk * 6)).off + 4, none⟩)) hS rfl (by kernel_rfl) (by kernel_rfl) (by kernel_rfl) (fun _ _ _ h => h) rfl (fun w' hw' => by (unfold execOp; simp [go_sem, Act.put, Act.eval])) ?_
            simp only [Act.put, List.setIfInBounds_toArray, List.set_cons_zero, List.set_cons_succ]
            refine s_take 10 (.slice A n0 c0) hS rfl (by kernel_rfl) (by kernel_rfl) (by kernel_rfl) (fun _ _ _ h => h) rfl (fun w' hw' => by (have hc0 := (HDC.out w' hw').2.1; unfold execOp; simp [go_sem, Act.put, Act.eval, hc0])) ?_
            simp only [Act.put, List.setIfInBounds_toArray, List.set_cons_zero, List.set_cons_succ]
            refine s_call 11 rfl (by kernel_rfl) rfl 50 _ _ Try.func50 (by kernel_rfl) rfl _ _ #[.pointer (some ⟨g, 0, none⟩), .int .i64 I, .slice A n0 c0] rfl (by simp [Act.put, Act.eval]) (HWR.out _ HT1.out hS) ?_
            rintro e w3 ⟨rfl, hT3, hK3, hB3⟩
            have HT3 := Lib.hid hT3
            have HR3 := Lib.hid (RDsk.keepB HR1.out HT1.out hK3)
            have HL3 := Lib.hid (HL1.out.keepB hK3 (fun hh => hblr (List.mem_singleton.1 hh)))
            have HB3 := Lib.hid (hS.trans hB3)
            clear hT3 hK3 hB3 HT1 HR1 HL1
            have hS := HB3.out
            refine ⟨_, rfl, hS, ?_⟩
            simp only [Act.put, List.setIfInBounds_toArray, List.set_cons_zero, List.set_cons_succ]
            refine s_take 12 (.bool false) hS rfl (by kernel_rfl) (by kernel_rfl) (by kernel_rfl) (fun _ _ _ h => h) rfl (fun w' hw' => by (unfold execOp; simp [go_sem, Act.put, Act.eval])) ?_
            simp only [Act.put, List.setIfInBounds_toArray, List.set_cons_zero, List.set_cons_succ]
            refine s_done (by kernel_rfl) ?_
            clear hS
            go_wp2
            go_roundg (len2 - (kk + 1))
            case measure => omega
            case rel => exact ⟨kk + 1, _, _, by omega, by omega, by go_num, ⟨HREL.out⟩, ⟨HT3.out⟩, ⟨HR3.out⟩, ⟨HL3.out⟩, ⟨HB3.out⟩⟩
        · as_aux_lemma =>
          have hltz : ¬ (k2 : Int) < (len2 : Int) := by omega
          have hL2n : L2.length = n := by rw [HREL.out.len]; exact HLN.out
          have hm2 := hm L2 hL2n
          obtain ⟨ks, hks⟩ : ∃ ks : Nat → Bool, ks = fun j => decide (j < len3) && B3 j := ⟨_, rfl⟩
          have HKS := Lib.hid hks
          have hkr : KeepRow a3 len3 ks wr := fun j hj => by
            obtain ⟨b, o, ha, hc⟩ := HZ3.out.2 j hj
            refine ⟨b, o, ha, ?_⟩
            rw [show ks j = B3 j from by rw [hks]; simp [hj]]
            exact (HB.out.cell (p := ⟨b, o + j, none⟩) (World.block_lt_of_cell? _ _ hc)).trans hc
          have HCR := Lib.hid (show Calls Try.prog 53 #[.pointer (some ⟨g, 0, none⟩), .slice a3 len3 cap3] wr (SetOut w.heap.size g r (crashF ks 0 L2) wr) from by
            refine crash_any HT.out hm2 a3 len3 cap3 ks hkr (fun j hj => by rw [hks]; simp; omega) (by omega) ?_
            intro p hp h0 hpr
            obtain ⟨b, o, ha, hc⟩ := HZ3.out.2 0 h0
            rw [hp] at ha
            obtain rfl := Option.some.inj ha
            have h1 : b < w.heap.size := World.block_lt_of_cell? _ _ hc
            have h2 : b = r := hpr
            have := HT.out.hr
            omega)
          clear hkr hks hm2
          obtain ⟨wq, hwq⟩ : ∃ wq : World, wq = wr := ⟨_, rfl⟩
          subst hwq
          have HL2N := Lib.hid hL2n
          clear hL2n
          go_wp2_with (go_at_call 53; refine HCR.out.mono ?_; rintro e w6 ⟨rfl, hT6, hK6, hB6⟩; have HT6 := Lib.hid hT6; have HR6 := Lib.hid (RDsk.keepB HR.out HT.out hK6); have HL6 := Lib.hid (HL.out.keepB hK6 (fun hh => hblr (List.mem_singleton.1 hh))); have HB6 := Lib.hid (HB.out.trans hB6); clear hT6 hK6 hB6)
          clear HT HR HB HL HCR
          go_loopg [15, 16] n (fun gg s15 s16 wr => ∃ (i m : Nat), i ≤ n ∧ n - i ≤ gg ∧ s15 = .int .i64 m ∧ s16 = .int .i64 i ∧ m = cntQ (L2.take i) ∧ m ≤ i ∧ Aside0 (Below w6.heap.size w6 wr))
          case atStart => exact ⟨0, 0, Nat.zero_le _, by omega, rfl, rfl, rfl, Nat.le_refl _, ⟨Below.refl _ _⟩⟩
          case round =>
            obtain ⟨i, m, hin, hg3, rfl, rfl, hm, hmi, BW⟩ := hrel
            by_cases hlt3 : i < n
            · have hi1 : (i : Int) < (n : Int) := by omega
              have hi2 : ¬ (i : Int) < 0 := by omega
              have hi3 : i ≤ 9223372036854775807 := by omega
              have hm3 : m ≤ 9223372036854775807 := by omega
              have hm4 : ¬ (m : Int) < 0 := by omega
              obtain ⟨b, hb⟩ : ∃ b, L[i]? = some b := ⟨_, List.getElem?_eq_getElem (by rw [HLN.out]; exact hlt3)⟩
              obtain ⟨b2, hb2⟩ : ∃ b2, L2[i]? = some b2 := ⟨_, List.getElem?_eq_getElem (by rw [HL2N.out]; exact hlt3)⟩
              obtain ⟨s, hs⟩ : ∃ s, last[i]? = some s := ⟨_, List.getElem?_eq_getElem (by rw [HREL.out.len2, HLN.out]; exact hlt3)⟩
              obtain ⟨hd, hq⟩ := HREL.out.at_ i b b2 s hb hb2 hs
              have hfin := HFL.out i b hb
              have hmL : L.length ≤ 1000 := by rw [HLN.out]; omega
              have hcm : (crashF ks 0 L2).length ≤ 1000 := by rw [crashF_length, HL2N.out]; omega
              have hca := crash_at ks L2 0 i b2 hb2
              rw [Nat.zero_add, ← hm] at hca
              have hstep := cntQ_step hb2
              rw [← hm] at hstep
              have hprd : ∀ W, Below w6.heap.size w6 W → Calls Try.prog 54 #[.pointer (some ⟨g, 0, none⟩), .int .i64 i] W (ReadOut (crB b2 (ks m)).now W) := fun W hW => read_in (HT6.out.next hW) i _ hca hcm
              have hrrd : ∀ W, Below w6.heap.size w6 W → Calls Try.prog 55 #[.pointer (some ⟨g', 0, none⟩), .int .i64 i] W (TellsS b.now W) := fun W hW => rread_in (RDsk.next HR6.out hW) i b hb hfin hmL
              have hxl : (crB b2 (ks m)).now.length = 72 := (HT6.out.blk i _ hca).2.now_len
              rw [crB_now] at hprd hxl
              have hlc : ∀ W, Below w6.heap.size w6 W → W.cell? ⟨bl, i, none⟩ = some (.string (strOfNums s)) := fun W hW => (HL6.out.next hW).cell i s hs
              clear hca hcm hmL hfin hb hb2 hs
              rcases hq with ⟨hq1, hq2, hq3⟩ | ⟨hq1, hq2⟩
              · rw [hq1] at hprd hstep hxl
                simp only [if_true] at hprd hstep hxl
                have hse := str_some s 71 hq3
                by_cases hk : ks m = true
                · rw [hk] at hprd hxl
                  simp only [if_true] at hprd hxl
                  rw [hq2] at hprd hxl
                  have hml : m < len3 := by
                    have := HKS.out ▸ hk
                    simp at this
                    exact this.1
                  have hB : B3 m = true := by
                    have := HKS.out ▸ hk
                    simp at this
                    exact this.2
                  obtain ⟨bb, oo, rfl, hbc⟩ := HZ3.out.2 m hml
                  rw [hB] at hbc
                  have hmz : (m : Int) < (len3 : Int) := by omega
                  have HXL := Lib.hid hxl
                  have HST := Lib.hid hstep
                  have HMM := Lib.hid hm
                  have HBC := Lib.hid (show ∀ W, Below w6.heap.size w6 W → W.cell? ⟨bb, oo + m, none⟩ = some (.bool true) from fun W hW => ((below_next HB6.out hW).cell (p := ⟨bb, oo + m, none⟩) (World.block_lt_of_cell? _ _ hbc)).trans hbc)
                  have HLC := Lib.hid hlc
                  have HD := Lib.hid hd
                  have hq2' := Lib.hid hq2
                  clear hq1 hq2 hq3 hk hB hbc hxl hstep hm hlc hd
                  go_wp2_with (first
                    | (go_at_call 55; refine (hrrd _ H7.out).mono ?_; rintro e w9 ⟨rfl, hb⟩; have hA9 := HA8.out.next hb; have hcs := Kd.C_string (P := Try.prog) (dst := 9) (c := 72) Try.underlying29 Try.underlying5 Try.underlying9 (hA9.reads 72 HXL.out (by decide)); have hl9 := HLC.out w9 (below_next H7.out hb); have hb9 := HBC.out w9 (below_next H7.out hb); have H9 := Lib.hid (below_next H7.out hb); clear hb)
                    | (go_at_call 54; refine (hprd _ BW.out).mono ?_; rintro e w8 ⟨gx, rfl, hgx, hA, hb⟩; have HA8 := Lib.hid hA; have H7 := Lib.hid (below_next BW.out hb); clear hA hb hgx))
                  go_roundg (n - (i + 1))
                  case measure => omega
                  case rel => exact ⟨i + 1, m + 1, by omega, by omega, by go_num, by go_num, by rw [HST.out], by omega, ⟨H9.out⟩⟩
                · rw [Bool.not_eq_true] at hk
                  rw [hk] at hprd hxl
                  simp only [Bool.false_eq_true, if_false] at hprd hxl
                  rw [hd] at hprd hxl
                  have HXL := Lib.hid hxl
                  have HST := Lib.hid hstep
                  have HMM := Lib.hid hm
                  have HLC := Lib.hid hlc
                  have HD := Lib.hid hd
                  have hq2' := Lib.hid hq2
                  by_cases hml : m < len3
                  · have hB : B3 m = false := by
                      have := HKS.out ▸ hk
                      simpa [hml] using this
                    obtain ⟨bb, oo, rfl, hbc⟩ := HZ3.out.2 m hml
                    rw [hB] at hbc
                    have hmz : (m : Int) < (len3 : Int) := by omega
                    have HBC := Lib.hid (show ∀ W, Below w6.heap.size w6 W → W.cell? ⟨bb, oo + m, none⟩ = some (.bool false) from fun W hW => ((below_next HB6.out hW).cell (p := ⟨bb, oo + m, none⟩) (World.block_lt_of_cell? _ _ hbc)).trans hbc)
                    clear hq1 hq2 hq3 hk hB hbc hxl hstep hm hlc hd
                    go_wp2_with (first
                      | (go_at_call 55; refine (hrrd _ H7.out).mono ?_; rintro e w9 ⟨rfl, hb⟩; have hA9 := HA8.out.next hb; have hcs := Kd.C_string (P := Try.prog) (dst := 9) (c := 72) Try.underlying29 Try.underlying5 Try.underlying9 (hA9.reads 72 HXL.out (by decide)); have hl9 := HLC.out w9 (below_next H7.out hb); have hb9 := HBC.out w9 (below_next H7.out hb); have H9 := Lib.hid (below_next H7.out hb); clear hb)
                      | (go_at_call 54; refine (hprd _ BW.out).mono ?_; rintro e w8 ⟨gx, rfl, hgx, hA, hb⟩; have HA8 := Lib.hid hA; have H7 := Lib.hid (below_next BW.out hb); clear hA hb hgx))
                    go_roundg (n - (i + 1))
                    case measure => omega
                    case rel => exact ⟨i + 1, m + 1, by omega, by omega, by go_num, by go_num, by rw [HST.out], by omega, ⟨H9.out⟩⟩
                  · have hmz : ¬ (m : Int) < (len3 : Int) := by omega
                    clear hq1 hq2 hq3 hk hxl hstep hm hlc hd
                    go_wp2_with (first
                      | (go_at_call 55; refine (hrrd _ H7.out).mono ?_; rintro e w9 ⟨rfl, hb⟩; have hA9 := HA8.out.next hb; have hcs := Kd.C_string (P := Try.prog) (dst := 9) (c := 72) Try.underlying29 Try.underlying5 Try.underlying9 (hA9.reads 72 HXL.out (by decide)); have hl9 := HLC.out w9 (below_next H7.out hb); have H9 := Lib.hid (below_next H7.out hb); clear hb)
                      | (go_at_call 54; refine (hprd _ BW.out).mono ?_; rintro e w8 ⟨gx, rfl, hgx, hA, hb⟩; have HA8 := Lib.hid hA; have H7 := Lib.hid (below_next BW.out hb); clear hA hb hgx))
                    go_roundg (n - (i + 1))
                    case measure => omega
                    case rel => exact ⟨i + 1, m + 1, by omega, by omega, by go_num, by go_num, by rw [HST.out], by omega, ⟨H9.out⟩⟩
              · rw [hq1] at hprd hstep hxl
                simp only [Bool.false_eq_true, if_false, Nat.add_zero] at hprd hstep hxl
                rw [hd] at hprd hxl
                subst hq2
                rw [strOf_nil] at hlc
                have HXL := Lib.hid hxl
                have HST := Lib.hid hstep
                have HMM := Lib.hid hm
                have HLC := Lib.hid hlc
                have HD := Lib.hid hd
                clear hq1 hxl hstep hm hlc hd
                go_wp2_with (first
                  | (go_at_call 55; refine (hrrd _ H7.out).mono ?_; rintro e w9 ⟨rfl, hb⟩; have hA9 := HA8.out.next hb; have hcs := Kd.C_string (P := Try.prog) (dst := 9) (c := 72) Try.underlying29 Try.underlying5 Try.underlying9 (hA9.reads 72 HXL.out (by decide)); have hl9 := HLC.out w9 (below_next H7.out hb); have H9 := Lib.hid (below_next H7.out hb); clear hb)
                  | (go_at_call 54; refine (hprd _ BW.out).mono ?_; rintro e w8 ⟨gx, rfl, hgx, hA, hb⟩; have HA8 := Lib.hid hA; have H7 := Lib.hid (below_next BW.out hb); clear hA hb hgx))
                go_roundg (n - (i + 1))
                case measure => omega
                case rel => exact ⟨i + 1, m, by omega, by omega, by go_num, by go_num, by rw [HST.out], by omega, ⟨H9.out⟩⟩
            · have hi1 : ¬ (i : Int) < (n : Int) := by omega
              have hdi : Calls Try.prog 56 #[.pointer (some ⟨g, 0, none⟩)] wr (TellsI 0 wr) := by
                have h := dirty_any (HT6.out.next BW.out) (by rw [crashF_length, HL2N.out]; omega)
                rw [crash_clean] at h
                exact h
              have HMM := Lib.hid hm
              clear hm
              go_wp2_with (first
                | (go_at_call 56; refine hdi.mono ?_; rintro e w8 ⟨rfl, hb⟩; have H8 := Lib.hid (below_next BW.out hb); clear hb)
                | (go_at_call 47; refine (hkn _).mono ?_; rintro e w9 ⟨rfl, hb⟩; have H9 := Lib.hid (below_next H8.out hb); clear hb))
              go_ret
              exact ⟨rfl, below_next HB6.out H9.out⟩
end Go.Proofs.Ytoiiacbbfhlocaa.HDa
