/- Layer 19: the document's Ask and Drop. -/
import Derived.Test.YtoiiacbbfhlocaaHLj
import Derived.Test.YtoiiacbbfhlocaaHLf
set_option linter.unusedVariables false
set_option linter.unusedSimpArgs false
namespace Go.Proofs.Ytoiiacbbfhlocaa.HLa
open Go.RowKit Go.Proofs.YtoiiacbbfhlocaaW.PrintWords Go.Proofs.YtoiiacbbfhlocaaW.PrintLast Go.Proofs.YtoiiacbbfhlocaaW.PrintMore Go.Proofs.Ytoiiacbbfhlocaa.Kit
theorem infoR : (Try.prog.info? 146).map (fun i => (i.zero, i.size, i.bytes)) = some (some (.agg #[.int .i64 0, .int .i64 0, .bool false]), 3, 24) := by kernel_rfl
theorem kR_K_M {w w' : World} {base : Nat} {ok : Nat → Prop} {x : RA} {cs : List Value} (h : kR.K w x cs) : kR.M w' base ok x cs := by
  rw [kR_open h]
  exact kR_mkM _ _ _ x
theorem lit_noneR (W : World) : Kd.R kR 146 (W.alloc (.cells #[] 146)) W.heap.size (fun _ => True) (.slice (some ⟨W.heap.size, 0, none⟩) 0 0) [] :=
  ⟨fun _ _ => trivial, [], ⟨rfl, .inr ⟨W.heap.size, 0, #[], rfl, Nat.le_refl _, heap_alloc_new W _, Nat.le_refl _, Nat.zero_le _, rfl, rfl⟩⟩, Reps.none _ _⟩
theorem RTab.put {base : Nat} {W W1 : World} {g : Nat} {v v1 : Value} {N : Int} {l l1 : List RA} (h : RTab base W g v N l) (hb : Below W.heap.size W W1) (ho : RRow W.heap.size W1 v1 l1) :
    RTab base (W1.setCell ⟨g, 1, none⟩ v1) g v1 N l1 ∧ KeepT [71] W (W1.setCell ⟨g, 1, none⟩ v1) ∧ Below base W (W1.setCell ⟨g, 1, none⟩ v1) := by
  have hn := (h.next hb).tab
  have hs := KeepT.setCell hn 1 v1
  refine ⟨⟨?_, h.hg, hs.own (own_le ho h.le) (by decide)⟩, (KeepT.of_below hb).trans hs, (hb.mono h.le).setCell (p := ⟨g, 1, none⟩) h.hg v1⟩
  have := blk_set hn 1 v1
  simpa using this
/-- what is told, and the document's table then -/
def RSetOut (base g : Nat) (N : Int) (l : List RA) (code : Int) (w : World) (e : Ending) (w' : World) : Prop := e = .returned (.int .i64 code) ∧ (∃ v, RTab base w' g v N l) ∧ KeepT [71] w w' ∧ Below base w w'
theorem RSetOut.same {base g : Nat} {v : Value} {N : Int} {l : List RA} {code : Int} {w w' : World} (h : RTab base w g v N l) (hb : Below w.heap.size w w') : RSetOut base g N l code w (.returned (.int .i64 code)) w' := ⟨rfl, ⟨_, h.next hb⟩, .of_below hb, hb.mono h.le⟩
set_option maxRecDepth 100000 in
theorem rask_bad (base g : Nat) (v : Value) (N : Int) (l : List RA) (lock client : Int) (write : Bool) (w : World) (h : RTab base w g v N l) (hf : fitsF N lock client = false) : Calls Try.prog 40 #[.pointer (some ⟨g, 0, none⟩), .int .i64 lock, .int .i64 client, .bool write] w (RSetOut base g N l 1 w) := by
  have hfit := fits_any base g v N l lock client w h
  rw [hf] at hfit
  have HT := Lib.hid h
  clear h hf
  go_enter Try.func40, Try.ntmps40
  go_wp2_with (go_at_call 95; refine hfit.mono ?_; rintro e w1 ⟨rfl, hb1⟩)
  go_ret
  exact .same HT.out hb1
set_option maxRecDepth 100000 in
theorem rask_old (base g : Nat) (v : Value) (N : Int) (l : List RA) (lock client : Int) (write : Bool) (w : World) (h : RTab base w g v N l) (hm : l.length ≤ 1000000) (hf : fitsF N lock client = true) (ha : 0 ≤ rAt l lock client) : Calls Try.prog 40 #[.pointer (some ⟨g, 0, none⟩), .int .i64 lock, .int .i64 client, .bool write] w (RSetOut base g N l 3 w) := by
  have hfit := fits_any base g v N l lock client w h
  rw [hf] at hfit
  have hat : ∀ W, Below w.heap.size w W → Calls Try.prog 96 #[.pointer (some ⟨g, 0, none⟩), .int .i64 lock, .int .i64 client] W (TellsI (rAt l lock client) W) := fun W hW => at_any base g v N l lock client W (h.next hW) hm
  have HT := Lib.hid h
  clear h hf
  generalize rAt l lock client = z at ha hat
  go_enter Try.func40, Try.ntmps40
  go_wp2_with (first
    | (go_at_call 95; refine hfit.mono ?_; rintro e w1 ⟨rfl, hb1⟩)
    | (go_at_call 96; refine (hat _ hb1).mono ?_; rintro e w2 ⟨rfl, hb2⟩))
  go_ret
  exact .same HT.out (below_next hb1 hb2)
set_option maxRecDepth 100000 in
set_option maxHeartbeats 4000000 in
theorem rask_new (base g : Nat) (v : Value) (N : Int) (l : List RA) (lock client : Int) (write : Bool) (w : World) (h : RTab base w g v N l) (hm : l.length ≤ 1000000) (hf : fitsF N lock client = true) (ha : rAt l lock client < 0) : Calls Try.prog 40 #[.pointer (some ⟨g, 0, none⟩), .int .i64 lock, .int .i64 client, .bool write] w (RSetOut base g N (l ++ [(lock, client, write)]) 0 w) := by
  have hfit := fits_any base g v N l lock client w h
  rw [hf] at hfit
  have hat : ∀ W, Below w.heap.size w W → Calls Try.prog 96 #[.pointer (some ⟨g, 0, none⟩), .int .i64 lock, .int .i64 client] W (TellsI (rAt l lock client) W) := fun W hW => at_any base g v N l lock client W (h.next hW) hm
  obtain ⟨A, c, rfl, hc, -⟩ := h.reads
  have HTA := Lib.hid (fun W (hW : Below w.heap.size w W) => h.next hW)
  have hle := Lib.hid h.le
  clear h hf
  have ha' : ¬ rAt l lock client ≥ 0 := by omega
  clear ha
  generalize rAt l lock client = z at ha' hat
  go_enter Try.func40, Try.ntmps40
  go_wp2_with (first
    | (go_at_call 95; refine hfit.mono ?_; rintro e w1 ⟨rfl, hb1⟩)
    | (go_at_call 96; refine (hat _ hb1).mono ?_; rintro e w2 ⟨rfl, hb2⟩; have hT := HTA.out _ (below_next hb1 hb2); have q1 := hT.c1; have hgl : g < w2.heap.size := World.block_lt_of_cell? _ _ q1; have hgn : g ≠ w2.heap.size := Nat.ne_of_lt hgl; have HT := Lib.hid hT; clear hT; have HB2 := Lib.hid (below_next hb1 hb2); clear hb1 hb2 HTA)
    | ((with_reducible refine gate_builtin (b := .append) (xs := #[.tmp 20, .tmp 24]) rfl ?_); at_builtin; refine blk ?_))
  refine ⟨?_⟩
  have hB1 := below_alloc (Below.refl w2.heap.size w2) (.cells #[] 146)
  have hO1 := lit_noneR w2
  refine Kd.R_append_rows kR (w0 := w2) w2.heap.size rfl (.tmp 20) (.tmp 24) 69 146 (.agg #[.int .i64 0, .int .i64 0, .bool false]) 24 rfl Try.underlying69 infoR rfl (by decide) (by decide) (.slice (some ⟨w2.heap.size, 0, none⟩) 0 0) [] l A l.length c (fun _ => True) (fun _ => False) rfl rfl hO1 (Kd.C_below ((Kd.R_reads' HT.out.row.toR).2.2) hB1) (fun x cs h => kR_K_M h) (fun _ h => h.elim) (fun _ _ => trivial) hB1 hB1.size (by simp; omega) ?_
  intro v3 w3 hO3 hB3 hg3 hat3
  rw [List.nil_append] at hO3
  have HO3 := Lib.hid hO3
  have HB3 := Lib.hid hB3
  obtain ⟨A3, c3, e3⟩ := Kd.R_slice hO3
  subst e3
  clear hO1 hB1 hO3 hB3 hg3 hat3
  go_wp2_with (((with_reducible refine gate_builtin (b := .append) (xs := #[.tmp 25, .tmp 30]) rfl ?_); at_builtin; refine blk ?_))
  refine ⟨?_⟩
  refine Kd.R_append kR (w0 := w2) w2.heap.size rfl (.tmp 25) (.tmp 30) 69 146 (.agg #[.int .i64 0, .int .i64 0, .bool false]) 24 rfl Try.underlying69 infoR rfl (by decide) (by decide) (.slice A3 l.length c3) l (lock, client, write) [.int .i64 lock, .int .i64 client, .bool write] (fun _ => True) (fun _ => False) rfl rfl (kR_mkM _ _ _ _) (fun _ h => h.elim) (fun _ _ => trivial) HO3.out HB3.out HB3.out.size (by omega) ?_
  intro v4 w4 hO4 hB4 hg4 hat4
  have P := HT.out.put hB4 (RRow.ofR hO4)
  have hf4 := blk_frozen (HT.out.next hB4).tab 1
  have hS4 := (HT.out.next hB4).c1
  obtain ⟨A4, c4, e4⟩ := Kd.R_slice hO4
  rw [show (l ++ [(lock, client, write)]).length = l.length + 1 from by simp] at e4
  subst e4
  have FIN := Lib.hid P
  clear P hO4 hB4 hg4 hat4 HO3 HB3
  go_wp2
  go_ret
  exact ⟨rfl, ⟨_, FIN.out.1⟩, (KeepT.of_below HB2.out).trans FIN.out.2.1, (HB2.out.mono hle.out).trans FIN.out.2.2⟩
set_option maxRecDepth 100000 in
theorem rdrop_bad (base g : Nat) (v : Value) (N : Int) (l : List RA) (lock client : Int) (w : World) (h : RTab base w g v N l) (hf : fitsF N lock client = false) : Calls Try.prog 38 #[.pointer (some ⟨g, 0, none⟩), .int .i64 lock, .int .i64 client] w (RSetOut base g N l 1 w) := by
  have hfit := fits_any base g v N l lock client w h
  rw [hf] at hfit
  have HT := Lib.hid h
  clear h hf
  go_enter Try.func38, Try.ntmps38
  go_wp2_with (go_at_call 95; refine hfit.mono ?_; rintro e w1 ⟨rfl, hb1⟩)
  go_ret
  exact .same HT.out hb1
set_option maxRecDepth 100000 in
theorem rdrop_none (base g : Nat) (v : Value) (N : Int) (l : List RA) (lock client : Int) (w : World) (h : RTab base w g v N l) (hm : l.length ≤ 1000000) (hf : fitsF N lock client = true) (ha : rAt l lock client < 0) : Calls Try.prog 38 #[.pointer (some ⟨g, 0, none⟩), .int .i64 lock, .int .i64 client] w (RSetOut base g N l 2 w) := by
  have hfit := fits_any base g v N l lock client w h
  rw [hf] at hfit
  have hat : ∀ W, Below w.heap.size w W → Calls Try.prog 96 #[.pointer (some ⟨g, 0, none⟩), .int .i64 lock, .int .i64 client] W (TellsI (rAt l lock client) W) := fun W hW => at_any base g v N l lock client W (h.next hW) hm
  have HT := Lib.hid h
  clear h hf
  generalize rAt l lock client = z at ha hat
  go_enter Try.func38, Try.ntmps38
  go_wp2_with (first
    | (go_at_call 95; refine hfit.mono ?_; rintro e w1 ⟨rfl, hb1⟩)
    | (go_at_call 96; refine (hat _ hb1).mono ?_; rintro e w2 ⟨rfl, hb2⟩))
  go_ret
  exact .same HT.out (below_next hb1 hb2)
set_option maxRecDepth 100000 in
set_option maxHeartbeats 4000000 in
theorem rdrop_at (base g : Nat) (v : Value) (N : Int) (l : List RA) (lock client : Int) (w : World) (h : RTab base w g v N l) (hm : l.length ≤ 1000000) (hf : fitsF N lock client = true) (j : Nat) (ha : rAt l lock client = (j : Int)) (hj : j < l.length) : Calls Try.prog 38 #[.pointer (some ⟨g, 0, none⟩), .int .i64 lock, .int .i64 client] w (RSetOut base g N (l.eraseIdx j) 0 w) := by
  have hfit := fits_any base g v N l lock client w h
  rw [hf] at hfit
  have hat : ∀ W, Below w.heap.size w W → Calls Try.prog 96 #[.pointer (some ⟨g, 0, none⟩), .int .i64 lock, .int .i64 client] W (TellsI (rAt l lock client) W) := fun W hW => at_any base g v N l lock client W (h.next hW) hm
  rw [ha] at hat
  have HTA := Lib.hid (fun W (hW : Below w.heap.size w W) => h.next hW)
  have hle := Lib.hid h.le
  clear h hf ha
  have ha' : ¬ (j : Int) < 0 := by omega
  go_enter Try.func38, Try.ntmps38
  go_wp2_with (first
    | (go_at_call 95; refine hfit.mono ?_; rintro e w1 ⟨rfl, hb1⟩)
    | (go_at_call 96; refine (hat _ hb1).mono ?_; rintro e w2 ⟨rfl, hb2⟩))
  have hbb := below_next hb1 hb2
  have hT := (HTA.out _ hbb).next (Below.drew (Below.refl _ _))
  have HK := Lib.hid (KeepT.of_below (ts := [71]) (below_drew hbb))
  have HBB := Lib.hid ((below_drew hbb).mono hle.out)
  clear hb1 hb2 hbb HTA hle
  obtain ⟨A, c, rfl, hc, -⟩ := hT.reads
  have q1 := hT.c1
  have HT := Lib.hid hT
  have HC := Lib.hid (Kd.R_reads' hT.row.toR).2.2
  clear hT
  have hw1 : IntKind.i64.wrap ((j : Int) + 1) = (j : Int) + 1 := IntWalk.i64_in _ (by omega)
  have hjc : j ≤ c := by omega
  have hjc' : ¬ c < j := by omega
  have hj1 : j + 1 ≤ l.length := by omega
  have hjc1 : j + 1 ≤ c := by omega
  have hj2 : ¬ (l.length : Int) < (j : Int) + 1 := by omega
  have hj3 : ¬ (j : Int) + 1 < 0 := by omega
  obtain ⟨AA, hAA⟩ : ∃ AA, (if c = j + 1 then A else A.map (·.add ((j + 1) * 3))) = AA := ⟨_, rfl⟩
  have HD := Lib.hid (fun W (hW : Below w2.drew.heap.size w2.drew W) => show Kd.C kR W AA (l.length - (j + 1)) (l.drop (j + 1)) from by
    have h := Kd.C_below (Kd.C_drop (m := j + 1) HC.out (by omega) hc) hW
    rw [List.length_drop] at h
    rw [← hAA]
    exact h)
  -- region
  refine l_region [17] (fun u => u.cell? ⟨g, 1, none⟩ = some (.slice A l.length c)) (by kernel_rfl) 20 (by kernel_rfl) (by exact q1) (fun hS => ?_)
  generalize hwd : w2.drew = wd at *
  clear hwd
  refine l_take 0 (_) hS rfl rfl (by kernel_rfl) (by kernel_rfl) (by kernel_rfl) (fun _ _ _ h => h) rfl (fun w' hw' => run_move_at _ rfl w') ?_
  simp only [Act.put, List.setIfInBounds_toArray, List.set_cons_zero, List.set_cons_succ]
  refine l_take 2 (_) hS rfl rfl (by kernel_rfl) (by kernel_rfl) (by kernel_rfl) (fun _ _ _ h => h) rfl (fun w' hw' => run_move_at _ rfl w') ?_
  simp only [Act.put, List.setIfInBounds_toArray, List.set_cons_zero, List.set_cons_succ]
  refine l_take 3 (.pointer (some ⟨g, 0, none⟩)) hS rfl rfl (by kernel_rfl) (by kernel_rfl) (by kernel_rfl) (fun _ _ _ h => h) rfl (fun w' hw' => by (unfold execOp; simp [go_sem, Act.put, Act.eval])) ?_
  simp only [Act.put, List.setIfInBounds_toArray, List.set_cons_zero, List.set_cons_succ]
  refine l_take 4 (.pointer (some ⟨g, 1, none⟩)) hS rfl rfl (by kernel_rfl) (by kernel_rfl) (by kernel_rfl) (fun _ _ _ h => h) rfl (fun w' hw' => by (unfold execOp; simp [go_sem, Act.put, Act.eval])) ?_
  simp only [Act.put, List.setIfInBounds_toArray, List.set_cons_zero, List.set_cons_succ]
  refine l_take 5 (.slice A l.length c) hS rfl rfl (by kernel_rfl) (by kernel_rfl) (by kernel_rfl) (fun _ _ _ h => h) rfl (fun w' hw' => by (have hc0 := hw'; unfold execOp; simp [go_sem, Act.put, Act.eval, hc0])) ?_
  simp only [Act.put, List.setIfInBounds_toArray, List.set_cons_zero, List.set_cons_succ]
  refine l_take 6 (_) hS rfl rfl (by kernel_rfl) (by kernel_rfl) (by kernel_rfl) (fun _ _ _ h => h) rfl (fun w' hw' => run_move_at _ rfl w') ?_
  simp only [Act.put, List.setIfInBounds_toArray, List.set_cons_zero, List.set_cons_succ]
  refine l_take 7 (.slice A j c) hS rfl rfl (by kernel_rfl) (by kernel_rfl) (by kernel_rfl) (fun _ _ _ h => h) rfl (fun w' hw' => by (have hc0 := hj; have hc1 := hc; have hc2 := hjc; have hc3 := hjc'; unfold execOp; simp [go_sem, Act.put, Act.eval, hc0, hc1, hc2, hc3])) ?_
  simp only [Act.put, List.setIfInBounds_toArray, List.set_cons_zero, List.set_cons_succ]
  refine l_take 9 (_) hS rfl rfl (by kernel_rfl) (by kernel_rfl) (by kernel_rfl) (fun _ _ _ h => h) rfl (fun w' hw' => run_move_at _ rfl w') ?_
  simp only [Act.put, List.setIfInBounds_toArray, List.set_cons_zero, List.set_cons_succ]
  refine l_take 10 (.pointer (some ⟨g, 0, none⟩)) hS rfl rfl (by kernel_rfl) (by kernel_rfl) (by kernel_rfl) (fun _ _ _ h => h) rfl (fun w' hw' => by (unfold execOp; simp [go_sem, Act.put, Act.eval])) ?_
  simp only [Act.put, List.setIfInBounds_toArray, List.set_cons_zero, List.set_cons_succ]
  refine l_take 11 (.pointer (some ⟨g, 1, none⟩)) hS rfl rfl (by kernel_rfl) (by kernel_rfl) (by kernel_rfl) (fun _ _ _ h => h) rfl (fun w' hw' => by (unfold execOp; simp [go_sem, Act.put, Act.eval])) ?_
  simp only [Act.put, List.setIfInBounds_toArray, List.set_cons_zero, List.set_cons_succ]
  refine l_take 12 (.slice A l.length c) hS rfl rfl (by kernel_rfl) (by kernel_rfl) (by kernel_rfl) (fun _ _ _ h => h) rfl (fun w' hw' => by (have hc0 := hw'; unfold execOp; simp [go_sem, Act.put, Act.eval, hc0])) ?_
  simp only [Act.put, List.setIfInBounds_toArray, List.set_cons_zero, List.set_cons_succ]
  refine l_take 13 (_) hS rfl rfl (by kernel_rfl) (by kernel_rfl) (by kernel_rfl) (fun _ _ _ h => h) rfl (fun w' hw' => run_move_at _ rfl w') ?_
  simp only [Act.put, List.setIfInBounds_toArray, List.set_cons_zero, List.set_cons_succ]
  refine l_take 14 (.int .i64 ((j : Int) + 1)) hS rfl rfl (by kernel_rfl) (by kernel_rfl) (by kernel_rfl) (fun _ _ _ h => h) rfl (fun w' hw' => by (have hc0 := hw1; unfold execOp; simp [go_sem, Act.put, Act.eval, hc0])) ?_
  simp only [Act.put, List.setIfInBounds_toArray, List.set_cons_zero, List.set_cons_succ]
  refine l_take 15 (.slice AA (l.length - (j + 1)) (c - (j + 1))) hS rfl rfl (by kernel_rfl) (by kernel_rfl) (by kernel_rfl) (fun _ _ _ h => h) rfl (fun w' hw' => by (have hc0 := hj; have hc1 := hc; have hc2 := hAA; have hc3 := hj1; have hc4 := hjc1; have hc5 := hj2; have hc6 := hj3; unfold execOp; simp [go_sem, Act.put, Act.eval, hc0, hc1, hc2, hc3, hc4, hc5, hc6])) ?_
  simp only [Act.put, List.setIfInBounds_toArray, List.set_cons_zero, List.set_cons_succ]
  refine l_one 1 rfl (by kernel_rfl) ?_
  have hB1 := below_alloc (Below.refl wd.heap.size wd) (.cells #[] 146)
  refine gl_event (.slice (some ⟨wd.heap.size, 0, none⟩) 0 0) (wd.alloc (.cells #[] 146)) rfl (by (unfold execOp; simp [go_sem, Act.put, Act.eval])) ((HT.out.next hB1).c1) (fun hS => ?_)
  simp only [Act.put, List.setIfInBounds_toArray, List.set_cons_zero, List.set_cons_succ]
  have hO1 := lit_noneR wd
  generalize hw1e : wd.alloc (.cells #[] 146) = wa at *
  clear hw1e
  refine l_one 8 rfl (by kernel_rfl) ?_
  intro K' hK'
  refine Kd.R_append_rows_step kR (w0 := wd) wd.heap.size rfl (.tmp 20) (.tmp 26) 69 146 (.agg #[.int .i64 0, .int .i64 0, .bool false]) 24 rfl Try.underlying69 infoR rfl (by decide) (by decide) (.slice (some ⟨wd.heap.size, 0, none⟩) 0 0) [] (l.take j) A j c (fun _ => True) (fun _ => False) rfl rfl hO1 (by have h := Kd.C_below (Kd.C_take HC.out (Nat.le_of_lt hj)) hB1; rw [List.length_take, Nat.min_eq_left (Nat.le_of_lt hj)] at h; exact h) (fun x cs h => kR_K_M h) (fun _ h => h.elim) (fun _ _ => trivial) hB1 hB1.size (by simp; omega) ?_
  intro v2 wb hO2 hB2 hg2 hat2
  rw [List.nil_append] at hO2
  have hS2 := (HT.out.next hB2).c1
  refine hK'.out _ _ (.inr hS2) ?_
  clear hK' K'
  simp only [Act.put, List.setIfInBounds_toArray, List.set_cons_zero, List.set_cons_succ]
  obtain ⟨A2, c2, e2⟩ := Kd.R_slice hO2
  subst e2
  refine l_one 16 rfl (by kernel_rfl) ?_
  intro K' hK'
  refine Kd.R_append_rows_step kR (w0 := wd) wd.heap.size rfl (.tmp 27) (.tmp 34) 69 146 (.agg #[.int .i64 0, .int .i64 0, .bool false]) 24 rfl Try.underlying69 infoR rfl (by decide) (by decide) (.slice A2 (l.take j).length c2) (l.take j) (l.drop (j + 1)) AA (l.length - (j + 1)) (c - (j + 1)) (fun _ => True) (fun _ => False) rfl rfl hO2 (HD.out _ hB2) (fun x cs h => kR_K_M h) (fun _ h => h.elim) (fun _ _ => trivial) hB2 hB2.size (by rw [List.length_take]; omega) ?_
  intro v3 wc hO3 hB3 hg3 hat3
  have hS3 := (HT.out.next hB3).c1
  refine hK'.out _ _ (.inr hS3) ?_
  clear hK' K'
  simp only [Act.put, List.setIfInBounds_toArray, List.set_cons_zero, List.set_cons_succ]
  obtain ⟨A3, c3, e3⟩ := Kd.R_slice hO3
  subst e3
  refine l_one 17 rfl (by kernel_rfl) ?_
  refine gl_event (.pointer (some ⟨g, 0, none⟩)) wc rfl (by (unfold execOp; simp [go_sem, Act.put, Act.eval])) hS3 (fun hS => ?_)
  simp only [Act.put, List.setIfInBounds_toArray, List.set_cons_zero, List.set_cons_succ]
  refine l_take 18 (.pointer (some ⟨g, 1, none⟩)) hS3 rfl rfl (by kernel_rfl) (by kernel_rfl) (by kernel_rfl) (fun _ _ _ h => h) rfl (fun w' hw' => by (unfold execOp; simp [go_sem, Act.put, Act.eval])) ?_
  simp only [Act.put, List.setIfInBounds_toArray, List.set_cons_zero, List.set_cons_succ]
  have P := HT.out.put hB3 (RRow.ofR hO3)
  have hf3 := blk_frozen (HT.out.next hB3).tab 1
  refine l_one 19 rfl (by kernel_rfl) ?_
  refine gl_last (wc.setCell ⟨g, 1, none⟩ (.slice A3 (l.take j ++ l.drop (j + 1)).length c3)) (by kernel_rfl) rfl (by (have hc0 := hS3; have hc1 := hf3; unfold execOp; simp [go_sem, Act.put, Act.eval, hc0, hc1])) ?_
  simp only [Act.put, List.setIfInBounds_toArray, List.set_cons_zero, List.set_cons_succ]
  refine l_done (by kernel_rfl) ?_
  have FIN := Lib.hid (show ∃ w7 v7, w7 = wc.setCell ⟨g, 1, none⟩ (.slice A3 (l.take j ++ l.drop (j + 1)).length c3) ∧ RTab base w7 g v7 N (l.eraseIdx j) ∧ KeepT [71] wd w7 ∧ Below base wd w7 from ⟨_, _, rfl, by rw [List.eraseIdx_eq_take_drop_succ]; exact P.1, P.2.1, P.2.2⟩)
  clear P hf3 hS3 hS2 hS hO3 hO2 hO1 hB3 hB2 hB1 hg2 hg3 hat2 hat3
  obtain ⟨w7, v7, e7, k1, k2, k3⟩ := FIN.out
  rw [← e7]
  clear e7 FIN
  have K1 := Lib.hid k1
  have K2 := Lib.hid k2
  have K3 := Lib.hid k3
  clear k1 k2 k3
  go_wp2
  go_ret
  exact ⟨rfl, ⟨_, K1.out⟩, HK.out.trans K2.out, HBB.out.trans K3.out⟩
end Go.Proofs.Ytoiiacbbfhlocaa.HLa
