/- Layer 6: knows. -/
import Derived.Test.YtoiiacbbfhlocaaHDh
set_option linter.unusedVariables false
set_option linter.unusedSimpArgs false
namespace Go.Proofs.Ytoiiacbbfhlocaa.HDa
open Go.RowKit Go.Proofs.YtoiiacbbfhlocaaW.PrintWords Go.Proofs.YtoiiacbbfhlocaaW.PrintLast Go.Proofs.YtoiiacbbfhlocaaW.PrintMore Go.Proofs.Ytoiiacbbfhlocaa.Kit
def O72 : List Int := List.replicate 72 1
theorem ones_any (w : World) : Calls Try.prog 101 #[] w (TellsS O72 w) := Go.Proofs.Ytoiiacbbfhlocaa.Dr.padlocklaw06_ones.calls 73 _ w (by unfold O72; kernel_rfl)
theorem ones_bytes : bytesOf (strOfNums O72) = O72 := by unfold O72; kernel_rfl
theorem ones_size : (strOfNums O72).size = 72 := by rw [strOfNums_size]; rfl
theorem ones_ok : Bytes O72 := fun x hx => by
  unfold O72 at hx
  obtain rfl := (List.mem_replicate.1 hx).2
  decide
theorem Z72_len : Z72.length = 72 := by unfold Z72; rw [List.length_replicate]
theorem Z72_blk : blk0.d = Z72 := by unfold Z72; rfl
attribute [local irreducible] O72 Z72
/-- what the rows of the examples come to -/
def LK : List Blk := [blk0, { blk0 with f := O72, p := blk0.now, q := true }]
theorem LK_set : (List.replicate 2 blk0).set 1 { blk0 with f := O72, p := blk0.now, q := true } = LK := rfl
theorem LK_dirty : cntQ LK = 1 := rfl
theorem LK_crash : crashF (fun _ => false) 0 LK = [blk0, { blk0 with f := O72, p := blk0.now, q := false }] := rfl
def TellsB (b : Bool) (w : World) (e : Ending) (w' : World) : Prop := e = .returned (.bool b) ∧ Below w.heap.size w w'
set_option maxRecDepth 100000 in
set_option maxHeartbeats 4000000 in
theorem knows6_any (w : World) : Calls Try.prog 47 #[] w (TellsB true w) := by
  have hnew : Calls Try.prog 48 #[.int .i64 2] w (NewOut 2 w) := new_any 2 w (by omega) (by omega)
  have hbad : ∀ W, Calls Try.prog 48 #[.int .i64 0] W fun e w' => e = .returned (.tuple #[.pointer none, .int .i64 1]) ∧ w' = W := fun W => new_bad 0 W (.inl (by omega))
  have kb := fun W => print_bytes (P := Try.prog) 9 29 5 Try.underlying9 Try.underlying29 Try.underlying5 (strOfNums O72) W
  rw [ones_size] at kb
  have HWR := Lib.hid (fun (W : World) (g r : Nat) (hT : DTab w.heap.size W g r (List.replicate 2 blk0)) => show Calls Try.prog 50 #[.pointer (some ⟨g, 0, none⟩), .int .i64 1, .slice (some ⟨W.heap.size, 0, none⟩) 72 (grownCap W 72 0 5)] (Lib.bytesWorld W 5 (strOfNums O72)) (WriteOut w.heap.size g r 0 LK (Lib.bytesWorld W 5 (strOfNums O72))) from by
    have hr := hT.rlt
    have hC : Kd.C (Kd.int .u8) (Lib.bytesWorld W 5 (strOfNums O72)) (some ⟨W.heap.size, 0, none⟩) 72 O72 := by
      have h := bytes_reads W 5 (strOfNums O72) (by rw [ones_size]; omega)
      rw [ones_bytes, ones_size] at h
      exact Kd.C_of_reads (d := (0 : Int)) (h1 := fun _ => rfl) h
    have h := write_in (hT.next (bytes_below (Below.refl W.heap.size W) (Nat.le_refl _) 5 (strOfNums O72))) 1 blk0 rfl (some ⟨W.heap.size, 0, none⟩) (grownCap W 72 0 5) O72 (by decide) hC (grownCap_ge _ _ _ _) ones_ok (fun p hp => by
      obtain rfl := Option.some.inj hp
      exact (fun e => by have : W.heap.size = r := e; omega))
    exact h)
  have HDI := Lib.hid (fun (W : World) (g r : Nat) (hT : DTab w.heap.size W g r LK) => show Calls Try.prog 56 #[.pointer (some ⟨g, 0, none⟩)] W (TellsI 1 W) from by
    have h := dirty_any hT (by decide)
    rw [LK_dirty] at h
    exact h)
  have HCR := Lib.hid (fun (W : World) (g r : Nat) (hT : DTab w.heap.size W g r LK) => show Calls Try.prog 53 #[.pointer (some ⟨g, 0, none⟩), .slice none 0 0] W (SetOut w.heap.size g r [blk0, { blk0 with f := O72, p := blk0.now, q := false }] W) from by
    have h := crash_any hT (by decide) none 0 0 (fun _ => false) (fun j hj => absurd hj (Nat.not_lt_zero _)) (fun _ _ => rfl) (by omega) (fun p hp => by cases hp)
    rw [LK_crash] at h
    exact h)
  have HRE := Lib.hid (fun (W : World) (g r : Nat) (hT : DTab w.heap.size W g r [blk0, { blk0 with f := O72, p := blk0.now, q := false }]) => show Calls Try.prog 54 #[.pointer (some ⟨g, 0, none⟩), .int .i64 1] W (ReadOut Z72 W) from by
    have h := read_in hT 1 { blk0 with f := O72, p := blk0.now, q := false } rfl (by decide)
    rw [show ({ blk0 with f := O72, p := blk0.now, q := false } : Blk).now = Z72 from Z72_blk] at h
    exact h)
  have HZL := Lib.hid Z72_len
  go_enter Try.func47, Try.ntmps47
  go_wp2_with (first
    | (go_at_call 48; refine (hbad w1).mono ?_; rintro e w2 ⟨rfl, he⟩; obtain rfl := he.symm)
    | (go_at_call 48; refine hnew.mono ?_; rintro e w1 ⟨g, r, rfl, hT, hb⟩; have HT1 := Lib.hid hT; have HB1 := Lib.hid hb; clear hT hb)
    | (go_at_call 101; refine (ones_any _).mono ?_; rintro e w3 ⟨rfl, hb⟩; have HT3 := Lib.hid (HT1.out.next hb); have HB3 := Lib.hid (below_next HB1.out hb); clear hb)
    | (go_at_call 50; refine (HWR.out w3 g r HT3.out).mono ?_; rintro e w4 ⟨rfl, hT, hK, hb⟩; have HT4 := Lib.hid hT; have HB4 := Lib.hid (HB3.out.trans ((bytes_below (Below.refl _ _) HB3.out.size _ _).trans hb)); clear hT hK hb)
    | (go_at_call 56; refine (HDI.out w4 g r HT4.out).mono ?_; rintro e w5 ⟨rfl, hb⟩; have HT5 := Lib.hid (HT4.out.next hb); have HB5 := Lib.hid (below_next HB4.out hb); clear hb)
    | (go_at_call 53; refine (HCR.out w5 g r HT5.out).mono ?_; rintro e w6 ⟨rfl, hT, hK, hb⟩; have HT6 := Lib.hid hT; have HB6 := Lib.hid (HB5.out.trans hb); clear hT hK hb)
    | (go_at_call 54; refine (HRE.out w6 g r HT6.out).mono ?_; rintro e w9 ⟨gx, rfl, hgx, hA, hb⟩; have HA9 := Lib.hid hA; have HB9 := Lib.hid (below_next HB6.out hb); clear hA hb hgx))
  refine s_region (fun u => Below w9.drew.heap.size w9.drew u) (by kernel_rfl) 21 (by kernel_rfl) (Below.refl _ _) (fun hS => ?_)
  have HAd := Lib.hid (HA9.out.next (below_drew (Below.refl w9.heap.size w9)))
  have HBd := Lib.hid (below_drew HB9.out)
  generalize hwd : w9.drew = wd at *
  clear hwd HA9 HB9
  refine s_take 0 (_) hS rfl (by kernel_rfl) (by kernel_rfl) (by kernel_rfl) (fun _ _ _ h => h) rfl (fun w' hw' => run_move_at _ rfl w') ?_
  simp only [Act.put, List.setIfInBounds_toArray, List.set_cons_zero, List.set_cons_succ]
  refine s_take 1 (.bool true) hS rfl (by kernel_rfl) (by kernel_rfl) (by kernel_rfl) (fun _ _ _ h => h) rfl (fun w' hw' => by (unfold execOp; simp [go_sem, Act.put, Act.eval])) ?_
  simp only [Act.put, List.setIfInBounds_toArray, List.set_cons_zero, List.set_cons_succ]
  refine s_take 2 (_) hS rfl (by kernel_rfl) (by kernel_rfl) (by kernel_rfl) (fun _ _ _ h => h) rfl (fun w' hw' => run_move_at _ rfl w') ?_
  simp only [Act.put, List.setIfInBounds_toArray, List.set_cons_zero, List.set_cons_succ]
  refine s_take 3 (_) hS rfl (by kernel_rfl) (by kernel_rfl) (by kernel_rfl) (fun _ _ _ h => h) rfl (fun w' hw' => run_move_at _ rfl w') ?_
  simp only [Act.put, List.setIfInBounds_toArray, List.set_cons_zero, List.set_cons_succ]
  refine s_take 4 (.bool true) hS rfl (by kernel_rfl) (by kernel_rfl) (by kernel_rfl) (fun _ _ _ h => h) rfl (fun w' hw' => by (unfold execOp; simp [go_sem, Act.put, Act.eval])) ?_
  simp only [Act.put, List.setIfInBounds_toArray, List.set_cons_zero, List.set_cons_succ]
  refine s_take 5 (.bool true) hS rfl (by kernel_rfl) (by kernel_rfl) (by kernel_rfl) (fun _ _ _ h => h) rfl (fun w' hw' => by (unfold execOp; simp [go_sem, Act.put, Act.eval])) ?_
  simp only [Act.put, List.setIfInBounds_toArray, List.set_cons_zero, List.set_cons_succ]
  refine s_take 6 (_) hS rfl (by kernel_rfl) (by kernel_rfl) (by kernel_rfl) (fun _ _ _ h => h) rfl (fun w' hw' => run_move_at _ rfl w') ?_
  simp only [Act.put, List.setIfInBounds_toArray, List.set_cons_zero, List.set_cons_succ]
  refine s_take 7 (_) hS rfl (by kernel_rfl) (by kernel_rfl) (by kernel_rfl) (fun _ _ _ h => h) rfl (fun w' hw' => run_move_at _ rfl w') ?_
  simp only [Act.put, List.setIfInBounds_toArray, List.set_cons_zero, List.set_cons_succ]
  refine s_take 8 (.bool true) hS rfl (by kernel_rfl) (by kernel_rfl) (by kernel_rfl) (fun _ _ _ h => h) rfl (fun w' hw' => by (unfold execOp; simp [go_sem, Act.put, Act.eval])) ?_
  simp only [Act.put, List.setIfInBounds_toArray, List.set_cons_zero, List.set_cons_succ]
  refine s_take 9 (.bool true) hS rfl (by kernel_rfl) (by kernel_rfl) (by kernel_rfl) (fun _ _ _ h => h) rfl (fun w' hw' => by (unfold execOp; simp [go_sem, Act.put, Act.eval])) ?_
  simp only [Act.put, List.setIfInBounds_toArray, List.set_cons_zero, List.set_cons_succ]
  refine s_take 10 (_) hS rfl (by kernel_rfl) (by kernel_rfl) (by kernel_rfl) (fun _ _ _ h => h) rfl (fun w' hw' => run_move_at _ rfl w') ?_
  simp only [Act.put, List.setIfInBounds_toArray, List.set_cons_zero, List.set_cons_succ]
  refine s_take 11 (_) hS rfl (by kernel_rfl) (by kernel_rfl) (by kernel_rfl) (fun _ _ _ h => h) rfl (fun w' hw' => run_move_at _ rfl w') ?_
  simp only [Act.put, List.setIfInBounds_toArray, List.set_cons_zero, List.set_cons_succ]
  refine s_take 12 (.string (strOfNums Z72)) hS rfl (by kernel_rfl) (by kernel_rfl) (by kernel_rfl) (fun _ _ _ h => h) rfl (fun w' hw' => by (have hc0 := Kd.C_string (P := Try.prog) (dst := 9) (c := 72) Try.underlying29 Try.underlying5 Try.underlying9 ((HAd.out.next hw').reads 72 HZL.out (by decide)); unfold execOp; simp [go_sem, Act.put, Act.eval, hc0])) ?_
  simp only [Act.put, List.setIfInBounds_toArray, List.set_cons_zero, List.set_cons_succ]
  refine s_call 13 rfl (by kernel_rfl) rfl 102 _ _ Try.func102 (by kernel_rfl) rfl _ _ #[] rfl (by simp [Act.put, Act.eval]) (zeros_any wd) ?_
  rintro e we ⟨rfl, hbe⟩
  have hS := hbe
  refine ⟨_, rfl, hS, ?_⟩
  simp only [Act.put, List.setIfInBounds_toArray, List.set_cons_zero, List.set_cons_succ]
  refine s_take 14 (.bool true) hS rfl (by kernel_rfl) (by kernel_rfl) (by kernel_rfl) (fun _ _ _ h => h) rfl (fun w' hw' => by (unfold execOp; simp [go_sem, Act.put, Act.eval])) ?_
  simp only [Act.put, List.setIfInBounds_toArray, List.set_cons_zero, List.set_cons_succ]
  refine s_take 15 (.bool true) hS rfl (by kernel_rfl) (by kernel_rfl) (by kernel_rfl) (fun _ _ _ h => h) rfl (fun w' hw' => by (unfold execOp; simp [go_sem, Act.put, Act.eval])) ?_
  simp only [Act.put, List.setIfInBounds_toArray, List.set_cons_zero, List.set_cons_succ]
  refine s_take 16 (_) hS rfl (by kernel_rfl) (by kernel_rfl) (by kernel_rfl) (fun _ _ _ h => h) rfl (fun w' hw' => run_move_at _ rfl w') ?_
  simp only [Act.put, List.setIfInBounds_toArray, List.set_cons_zero, List.set_cons_succ]
  refine s_take 17 (_) hS rfl (by kernel_rfl) (by kernel_rfl) (by kernel_rfl) (fun _ _ _ h => h) rfl (fun w' hw' => run_move_at _ rfl w') ?_
  simp only [Act.put, List.setIfInBounds_toArray, List.set_cons_zero, List.set_cons_succ]
  refine s_take 18 (.bool true) hS rfl (by kernel_rfl) (by kernel_rfl) (by kernel_rfl) (fun _ _ _ h => h) rfl (fun w' hw' => by (unfold execOp; simp [go_sem, Act.put, Act.eval])) ?_
  simp only [Act.put, List.setIfInBounds_toArray, List.set_cons_zero, List.set_cons_succ]
  refine s_take 19 (.bool true) hS rfl (by kernel_rfl) (by kernel_rfl) (by kernel_rfl) (fun _ _ _ h => h) rfl (fun w' hw' => by (unfold execOp; simp [go_sem, Act.put, Act.eval])) ?_
  simp only [Act.put, List.setIfInBounds_toArray, List.set_cons_zero, List.set_cons_succ]
  refine s_take 20 (_) hS rfl (by kernel_rfl) (by kernel_rfl) (by kernel_rfl) (fun _ _ _ h => h) rfl (fun w' hw' => BigFrame.run_assign _ rfl w') ?_
  simp only [Act.put, List.setIfInBounds_toArray, List.set_cons_zero, List.set_cons_succ]
  refine s_done (by kernel_rfl) ?_
  go_wp2
  go_ret
  exact ⟨rfl, HBd.out.trans (hbe.mono HBd.out.size)⟩
end Go.Proofs.Ytoiiacbbfhlocaa.HDa
