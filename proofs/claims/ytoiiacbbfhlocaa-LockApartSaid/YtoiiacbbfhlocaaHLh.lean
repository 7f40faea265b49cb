/- Layer 19: Drop. -/
import Derived.Test.YtoiiacbbfhlocaaHLg
set_option linter.unusedVariables false
set_option linter.unusedSimpArgs false
namespace Go.Proofs.Ytoiiacbbfhlocaa.HLa
open Go.RowKit Go.Proofs.YtoiiacbbfhlocaaW.PrintWords Go.Proofs.YtoiiacbbfhlocaaW.PrintLast Go.Proofs.YtoiiacbbfhlocaaW.PrintMore Go.Proofs.Ytoiiacbbfhlocaa.Kit
set_option maxRecDepth 100000 in
theorem drop_bad (base g r : Nat) (vs : List Value) (T : List (List (Int × Bool))) (i client : Int) (w : World) (h : LTab base w g r vs T) (ho : inT T i = false ∨ okC client = false) : Calls Try.prog 37 #[.pointer (some ⟨g, 0, none⟩), .int .i64 i, .int .i64 client] w (SetOut base g r T 1 w) := by
  have hh := has_any base g r vs T i w h
  have HT := Lib.hid (show ∀ W, Below w.heap.size w W → (∃ vs, LTab base W g r vs T) ∧ KeepT [141, 144] w W ∧ Below base w W from fun W hW => ⟨⟨_, h.next hW⟩, .of_below hW, hW.mono h.le⟩)
  clear h
  cases hx : inT T i with
  | false =>
    rw [hx] at hh
    clear hx ho
    go_enter Try.func37, Try.ntmps37
    go_wp2_with (go_at_call 92; refine hh.mono ?_; rintro e w1 ⟨rfl, hb1⟩)
    go_ret
    exact ⟨rfl, HT.out _ hb1⟩
  | true =>
    rw [hx] at hh
    have hc : okC client = false := by rcases ho with ho | ho; · rw [hx] at ho; cases ho
                                       · exact ho
    clear hx ho
    have hc' := of_decide_eq_false hc
    clear hc
    by_cases h0 : client < 0
    · clear hc'
      go_enter Try.func37, Try.ntmps37
      go_wp2_with (go_at_call 92; refine hh.mono ?_; rintro e w1 ⟨rfl, hb1⟩)
      go_ret
      exact ⟨rfl, HT.out _ hb1⟩
    · have h1 : client ≥ 64 := by omega
      clear hc'
      go_enter Try.func37, Try.ntmps37
      go_wp2_with (go_at_call 92; refine hh.mono ?_; rintro e w1 ⟨rfl, hb1⟩)
      go_ret
      exact ⟨rfl, HT.out _ hb1⟩
set_option maxRecDepth 100000 in
theorem drop_old (base g r : Nat) (vs : List Value) (T : List (List (Int × Bool))) (i : Nat) (l : List (Int × Bool)) (client : Int) (w : World) (h : LTab base w g r vs T) (hl : T[i]? = some l) (hm : l.length ≤ 1000000) (hi : i ≤ 9223372036854775807) (hc : okC client = true) (ha : atF l client < 0) : Calls Try.prog 37 #[.pointer (some ⟨g, 0, none⟩), .int .i64 i, .int .i64 client] w (SetOut base g r T 2 w) := by
  have hi' : i < T.length := (List.getElem?_eq_some_iff.1 hl).1
  have hh := has_any base g r vs T i w h
  rw [show inT T i = true from decide_eq_true ⟨by omega, by omega⟩] at hh
  have HT := Lib.hid (show ∀ W, Below w.heap.size w W → (∃ vs, LTab base W g r vs T) ∧ KeepT [141, 144] w W ∧ Below base w W from fun W hW => ⟨⟨_, h.next hW⟩, .of_below hW, hW.mono h.le⟩)
  have hfind : ∀ W, Below w.heap.size w W → Calls Try.prog 93 #[.pointer (some ⟨g, 0, none⟩), .int .i64 i, .int .i64 client] W (TellsI (atF l client) W) := fun W hW => find_any base g r vs T i l client W (h.next hW) hl (by omega) hi
  clear h hl
  obtain ⟨h0, h1⟩ := of_decide_eq_true hc
  have h1' : ¬ client ≥ 64 := by omega
  have h0' : ¬ client < 0 := by omega
  clear h0 h1 hc
  generalize atF l client = z at ha hfind
  go_enter Try.func37, Try.ntmps37
  go_wp2_with (first
    | (go_at_call 92; refine hh.mono ?_; rintro e w1 ⟨rfl, hb1⟩)
    | (go_at_call 93; refine (hfind _ hb1).mono ?_; rintro e w2 ⟨rfl, hb2⟩))
  go_ret
  exact ⟨rfl, HT.out _ (below_next hb1 hb2)⟩
set_option maxRecDepth 100000 in
set_option maxHeartbeats 4000000 in
theorem drop_new (base g r : Nat) (vs : List Value) (T : List (List (Int × Bool))) (i : Nat) (l : List (Int × Bool)) (client : Int) (w : World) (h : LTab base w g r vs T) (hl : T[i]? = some l) (hm : l.length ≤ 1000000) (hi : i ≤ 9223372036854775807) (hc : okC client = true) (j : Nat) (ha : atF l client = (j : Int)) (hj : j < l.length) : Calls Try.prog 37 #[.pointer (some ⟨g, 0, none⟩), .int .i64 i, .int .i64 client] w (SetOut base g r (T.set i (l.eraseIdx j)) 0 w) := by
  have hi' : i < T.length := (List.getElem?_eq_some_iff.1 hl).1
  have hh := has_any base g r vs T i w h
  rw [show inT T i = true from decide_eq_true ⟨by omega, by omega⟩] at hh
  have hfind : ∀ W, Below w.heap.size w W → Calls Try.prog 93 #[.pointer (some ⟨g, 0, none⟩), .int .i64 i, .int .i64 client] W (TellsI (atF l client) W) := fun W hW => find_any base g r vs T i l client W (h.next hW) hl (by omega) hi
  have HTA := Lib.hid (fun W (hW : Below w.heap.size w W) => h.next hW)
  have hle := Lib.hid h.le
  clear h
  obtain ⟨h0, h1⟩ := of_decide_eq_true hc
  have h1' : ¬ client ≥ 64 := by omega
  have h0' : ¬ client < 0 := by omega
  clear h0 h1 hc
  have HL := Lib.hid hl
  clear hl
  rw [ha] at hfind
  clear ha
  have hw1 : IntKind.i64.wrap ((j : Int) + 1) = (j : Int) + 1 := IntWalk.i64_in _ (by omega)
  go_enter Try.func37, Try.ntmps37
  go_wp2_with (first
    | (go_at_call 92; refine hh.mono ?_; rintro e w1 ⟨rfl, hb1⟩)
    | (go_at_call 93; refine (hfind _ hb1).mono ?_; rintro e w2 ⟨rfl, hb2⟩))
  have hbb := below_next hb1 hb2
  have HT := Lib.hid (HTA.out _ hbb).drew
  have HK := Lib.hid (KeepT.of_below (ts := [141, 144]) (below_drew hbb))
  have HBB := Lib.hid ((below_drew hbb).mono hle.out)
  have hbs := HT.out.le
  clear hb1 hb2 hbb HTA hle
  have q1 := HT.out.cell
  obtain ⟨v, hv, hcv, hrow⟩ := HT.out.at_ i l HL.out
  have hl := HL.out
  have hr0 := hrow
  obtain ⟨b, c, cur, rfl, hbb, hh, hlc, hmx, hsz, htk⟩ : ∃ b c cur, v = .slice (some ⟨b, 0, none⟩) l.length c ∧ base ≤ b ∧ w2.drew.heap[b]? = some (.cells cur 144 (0, 0)) ∧ l.length ≤ c ∧ c ≤ maxLen ∧ cur.size = c * 2 ∧ cur.toList.take (l.length * 2) = askC l := by
    rcases hrow.2 with ⟨-, h0⟩ | h
    · omega
    · exact h
  have HD := Lib.hid (delete_any b c cur l j (j + 1) w2.drew rfl hj hlc hmx hh hsz htk)
  clear hr0 hrow hh hmx hsz htk
  have hiI : (i : Int) < (T.length : Int) := by omega
  refine s_region (fun u => u.cell? ⟨g, 0, none⟩ = some (.slice (some ⟨r, 0, none⟩) T.length T.length)) (by kernel_rfl) 18 (by kernel_rfl) (by exact q1) (fun hS => ?_)
  generalize hwd : w2.drew = wd at *
  clear hwd
  refine s_take 0 (_) hS rfl (by kernel_rfl) (by kernel_rfl) (by kernel_rfl) (fun _ _ _ h => h) rfl (fun w' hw' => run_move_at _ rfl w') ?_
  simp only [Act.put, List.setIfInBounds_toArray, List.set_cons_zero, List.set_cons_succ]
  refine s_take 1 (.pointer (some ⟨g, 0, none⟩)) hS rfl (by kernel_rfl) (by kernel_rfl) (by kernel_rfl) (fun _ _ _ h => h) rfl (fun w' hw' => by (unfold execOp; simp [go_sem, Act.put, Act.eval])) ?_
  simp only [Act.put, List.setIfInBounds_toArray, List.set_cons_zero, List.set_cons_succ]
  refine s_take 2 (.pointer (some ⟨g, 0, none⟩)) hS rfl (by kernel_rfl) (by kernel_rfl) (by kernel_rfl) (fun _ _ _ h => h) rfl (fun w' hw' => by (unfold execOp; simp [go_sem, Act.put, Act.eval])) ?_
  simp only [Act.put, List.setIfInBounds_toArray, List.set_cons_zero, List.set_cons_succ]
  refine s_take 3 (.slice (some ⟨r, 0, none⟩) T.length T.length) hS rfl (by kernel_rfl) (by kernel_rfl) (by kernel_rfl) (fun _ _ _ h => h) rfl (fun w' hw' => by (have hc0 := hw'; unfold execOp; simp [go_sem, Act.put, Act.eval, hc0])) ?_
  simp only [Act.put, List.setIfInBounds_toArray, List.set_cons_zero, List.set_cons_succ]
  refine s_take 4 (_) hS rfl (by kernel_rfl) (by kernel_rfl) (by kernel_rfl) (fun _ _ _ h => h) rfl (fun w' hw' => run_move_at _ rfl w') ?_
  simp only [Act.put, List.setIfInBounds_toArray, List.set_cons_zero, List.set_cons_succ]
  refine s_take 5 (_) hS rfl (by kernel_rfl) (by kernel_rfl) (by kernel_rfl) (fun _ _ _ h => h) rfl (fun w' hw' => run_move_at _ rfl w') ?_
  simp only [Act.put, List.setIfInBounds_toArray, List.set_cons_zero, List.set_cons_succ]
  refine s_take 6 (.pointer (some ⟨g, 0, none⟩)) hS rfl (by kernel_rfl) (by kernel_rfl) (by kernel_rfl) (fun _ _ _ h => h) rfl (fun w' hw' => by (unfold execOp; simp [go_sem, Act.put, Act.eval])) ?_
  simp only [Act.put, List.setIfInBounds_toArray, List.set_cons_zero, List.set_cons_succ]
  refine s_take 7 (.pointer (some ⟨g, 0, none⟩)) hS rfl (by kernel_rfl) (by kernel_rfl) (by kernel_rfl) (fun _ _ _ h => h) rfl (fun w' hw' => by (unfold execOp; simp [go_sem, Act.put, Act.eval])) ?_
  simp only [Act.put, List.setIfInBounds_toArray, List.set_cons_zero, List.set_cons_succ]
  refine s_take 8 (.slice (some ⟨r, 0, none⟩) T.length T.length) hS rfl (by kernel_rfl) (by kernel_rfl) (by kernel_rfl) (fun _ _ _ h => h) rfl (fun w' hw' => by (have hc0 := hw'; unfold execOp; simp [go_sem, Act.put, Act.eval, hc0])) ?_
  simp only [Act.put, List.setIfInBounds_toArray, List.set_cons_zero, List.set_cons_succ]
  refine s_take 9 (_) hS rfl (by kernel_rfl) (by kernel_rfl) (by kernel_rfl) (fun _ _ _ h => h) rfl (fun w' hw' => run_move_at _ rfl w') ?_
  simp only [Act.put, List.setIfInBounds_toArray, List.set_cons_zero, List.set_cons_succ]
  refine s_take 10 (.pointer (some ⟨r, i, none⟩)) hS rfl (by kernel_rfl) (by kernel_rfl) (by kernel_rfl) (fun _ _ _ h => h) rfl (fun w' hw' => by (have hc0 := hi'; have hc1 := hi; have hc2 := hiI; unfold execOp; simp [go_sem, Act.put, Act.eval, hc0, hc1, hc2])) ?_
  simp only [Act.put, List.setIfInBounds_toArray, List.set_cons_zero, List.set_cons_succ]
  refine s_take 12 (_) hS rfl (by kernel_rfl) (by kernel_rfl) (by kernel_rfl) (fun _ _ _ h => h) rfl (fun w' hw' => run_move_at _ rfl w') ?_
  simp only [Act.put, List.setIfInBounds_toArray, List.set_cons_zero, List.set_cons_succ]
  refine s_take 13 (_) hS rfl (by kernel_rfl) (by kernel_rfl) (by kernel_rfl) (fun _ _ _ h => h) rfl (fun w' hw' => run_move_at _ rfl w') ?_
  simp only [Act.put, List.setIfInBounds_toArray, List.set_cons_zero, List.set_cons_succ]
  refine s_take 14 (.int .i64 ((j : Int) + 1)) hS rfl (by kernel_rfl) (by kernel_rfl) (by kernel_rfl) (fun _ _ _ h => h) rfl (fun w' hw' => by (have hc0 := hw1; unfold execOp; simp [go_sem, Act.put, Act.eval, hc0])) ?_
  simp only [Act.put, List.setIfInBounds_toArray, List.set_cons_zero, List.set_cons_succ]
  refine s_event 11 (.slice (some ⟨b, 0, none⟩) l.length c) wd rfl (by kernel_rfl) rfl (by (have hc0 := hcv; unfold execOp; simp [go_sem, Act.put, Act.eval, hc0])) hS (fun hS => ?_)
  simp only [Act.put, List.setIfInBounds_toArray, List.set_cons_zero, List.set_cons_succ]
  refine s_call 15 rfl (by kernel_rfl) rfl 94 _ _ Try.func94 (by kernel_rfl) rfl _ _ #[.slice (some ⟨b, 0, none⟩) l.length c, .int .i64 j, .int .i64 ((j + 1 : Nat) : Int)] rfl (by simp [Act.put, Act.eval]) (HD.out) ?_
  rintro e w5 ⟨rfl, hk5, ho5, hb5⟩
  have hM5 := HT.out.mid hv hl hk5
  have hS5 := (blk_cell hM5.1 0).trans (show _ = some (Value.slice (some ⟨r, 0, none⟩) T.length T.length) from rfl)
  refine ⟨_, rfl, hS5, ?_⟩
  simp only [Act.put, List.setIfInBounds_toArray, List.set_cons_zero, List.set_cons_succ]
  refine s_take 16 (.pointer (some ⟨r, i, none⟩)) hS5 rfl (by kernel_rfl) (by kernel_rfl) (by kernel_rfl) (fun _ _ _ h => h) rfl (fun w' hw' => by (have hc0 := hi'; have hc1 := hi; have hc2 := hiI; unfold execOp; simp [go_sem, Act.put, Act.eval, hc0, hc1, hc2])) ?_
  simp only [Act.put, List.setIfInBounds_toArray, List.set_cons_zero, List.set_cons_succ]
  have P := HT.out.put hv hl hk5 (own_le ho5 hbb) (.inl rfl)
  refine s_one 17 rfl (by kernel_rfl) ?_
  have hm1 : w5.cell? ⟨r, i, none⟩ = some (.slice (some ⟨b, 0, none⟩) l.length c) := (blk_cell hM5.2 i).trans (by simpa using hv)
  have hm2 := blk_frozen hM5.2 i
  refine g_skip (w5.setCell ⟨r, i, none⟩ (.slice (some ⟨b, 0, none⟩) (l.eraseIdx j).length c)) rfl (by (have hc0 := hm1; have hc1 := hm2; unfold execOp; simp [go_sem, Act.put, Act.eval, hc0, hc1])) (by have h := P.1.cell; rw [List.length_set] at h; exact h) (fun hS => ?_)
  simp only [Act.put, List.setIfInBounds_toArray, List.set_cons_zero, List.set_cons_succ]
  refine s_done (by kernel_rfl) ?_
  have hbf := (hb5.mono hbb).setCell (p := ⟨r, i, none⟩) HT.out.hr (.slice (some ⟨b, 0, none⟩) (l.eraseIdx j).length c)
  have FIN := Lib.hid (show ∃ w7 v7, w7 = w5.setCell ⟨r, i, none⟩ (.slice (some ⟨b, 0, none⟩) (l.eraseIdx j).length c) ∧ LTab base w7 g r (vs.set i v7) (T.set i (l.eraseIdx j)) ∧ KeepT [141, 144] wd w7 ∧ Below base wd w7 from ⟨_, (.slice (some ⟨b, 0, none⟩) (l.eraseIdx j).length c), rfl, P.1, P.2, hbf⟩)
  clear P hbf hm1 hm2 hM5 hS hS5 ho5 hk5 hb5
  obtain ⟨w7, v7, e7, k1, k2, k3⟩ := FIN.out
  rw [← e7]
  clear e7 FIN
  have K1 := Lib.hid k1
  have K2 := Lib.hid k2
  have K3 := Lib.hid k3
  clear k1 k2 k3
  go_wp2
  go_ret
  exact ⟨rfl, ⟨_, K1.out⟩, HK.out.trans K2.out, HBB.out.trans K3.out⟩
end Go.Proofs.Ytoiiacbbfhlocaa.HLa
