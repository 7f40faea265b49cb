/- Layer 19: Ask. -/
import Derived.Test.YtoiiacbbfhlocaaHLe
import Derived.Test.YtoiiacbbfhlocaaRngIn
set_option linter.unusedVariables false
set_option linter.unusedSimpArgs false
namespace Go.Proofs.Ytoiiacbbfhlocaa.HLa
open Go.RowKit Go.Proofs.YtoiiacbbfhlocaaW.PrintWords Go.Proofs.YtoiiacbbfhlocaaW.PrintLast Go.Proofs.YtoiiacbbfhlocaaW.PrintMore Go.Proofs.Ytoiiacbbfhlocaa.Kit
theorem infoA : (Try.prog.info? 144).map (fun i => (i.zero, i.size, i.bytes)) = some (some (.agg #[.int .i64 0, .bool false]), 2, 16) := by kernel_rfl
theorem askC_snoc (l : List (Int × Bool)) (a : Int) (b : Bool) : askC (l ++ [(a, b)]) = askC l ++ [.int .i64 a, .bool b] := by simp [askC, List.flatMap_append]
/-- all blocks but one are as they were -/
structure KeepOne (w w' : World) (row : Option Nat) : Prop where
  size : w.heap.size ≤ w'.heap.size
  block : ∀ k, k < w.heap.size → some k ≠ row → w'.heap[k]? = w.heap[k]?
theorem KeepOne.of_grown {w w' : World} {row : Option Nat} (h : w.grownBy w' row) : KeepOne w w' row := ⟨h.size, h.block⟩
theorem KeepOne.typed {w w' : World} {base e size n : Nat} {v : Value} {xs : List Value} (hr : w.ownsRow base e size v n xs) (h : KeepOne w w' v.ownBlock) : KeepT [e] w w' := by
  refine ⟨h.size, fun k o ho ht => (h.block k (Array.getElem?_eq_some_iff.1 ho).1 ?_).trans ho⟩
  intro hk
  obtain ⟨cells, hc⟩ := own_typed hr k hk.symm
  rw [hc] at ho
  cases ho
  exact ht _ _ _ rfl (List.mem_singleton.2 rfl)
theorem KeepOne.own {w w' : World} {row : Option Nat} {base e size n : Nat} {v : Value} {xs : List Value} (hg : KeepOne w w' row) (h : w.ownsRow base e size v n xs) (hne : v.ownBlock = none ∨ v.ownBlock ≠ row) : w'.ownsRow base e size v n xs := by
  refine ⟨h.1, ?_⟩
  rcases h.2 with hn | ⟨g, cap, cur, rfl, hb, hgg, rest⟩
  · exact .inl hn
  · refine .inr ⟨g, cap, cur, rfl, hb, ?_, rest⟩
    rw [hg.block g (Array.getElem?_eq_some_iff.1 hgg).1 (by simpa [Value.ownBlock] using hne)]
    exact hgg
theorem KeepT.setCell {w : World} {g : Nat} {cs : Array Value} {t : TypeId} {fr : Nat × Nat} (h : w.heap[g]? = some (.cells cs t fr)) (i : Nat) (u : Value) : KeepT [t] w (w.setCell ⟨g, i, none⟩ u) := by
  refine ⟨(grownBy_setCell' w g u).size |> fun _ => ?_, fun k o ho ht => ?_⟩
  · exact ((Below.refl 0 w).setCell (p := ⟨g, i, none⟩) (Nat.zero_le _) u).size
  · rw [Below.heap_setCell w ⟨g, i, none⟩ u k (fun e => by
      subst e
      rw [h] at ho
      cases ho
      exact ht _ _ _ rfl (List.mem_singleton.2 rfl))]
    exact ho
theorem LTab.mid {base : Nat} {W W1 : World} {g r : Nat} {vs : List Value} {T : List (List (Int × Bool))} {i : Nat} {v : Value} {l : List (Int × Bool)} (h : LTab base W g r vs T) (hv : vs[i]? = some v) (hl : T[i]? = some l) (hg : KeepOne W W1 v.ownBlock) :
    W1.heap[g]? = some (.cells #[.slice (some ⟨r, 0, none⟩) T.length T.length] 140 (0, 0)) ∧ W1.heap[r]? = some (.cells vs.toArray 141 (0, 0)) := by
  have hk := hg.typed (h.rows.row i v l hv hl)
  exact ⟨hk.cells h.tab (by decide), hk.cells h.rws (by decide)⟩
/-- a row is another one -/
theorem LTab.put {base : Nat} {W W1 : World} {g r : Nat} {vs : List Value} {T : List (List (Int × Bool))} {i : Nat} {v v1 : Value} {l l1 : List (Int × Bool)} (h : LTab base W g r vs T) (hv : vs[i]? = some v) (hl : T[i]? = some l) (hg : KeepOne W W1 v.ownBlock) (ho : AskRow base W1 v1 l1) (hat : v1.ownBlock = v.ownBlock ∨ ∃ b, v1.ownBlock = some b ∧ W.heap.size ≤ b) :
    LTab base (W1.setCell ⟨r, i, none⟩ v1) g r (vs.set i v1) (T.set i l1) ∧ KeepT [141, 144] W (W1.setCell ⟨r, i, none⟩ v1) := by
  have hk := hg.typed (h.rows.row i v l hv hl)
  have c1 := hk.cells h.tab (by decide)
  have c2 := hk.cells h.rws (by decide)
  have hs := KeepT.setCell c2 i v1
  have hne : g ≠ r := by
    intro e
    have := h.tab
    rw [e, h.rws] at this
    exact absurd (Option.some.inj this) (by simp)
  refine ⟨⟨?_, ?_, h.hg, h.hr, by rw [List.length_set]; exact h.pos, ⟨by rw [List.length_set, List.length_set]; exact h.rows.len, ?_, ?_⟩⟩, (hk.mono (by simp)).trans (hs.mono (by simp))⟩
  · rw [List.length_set]
    exact hs.cells c1 (by decide)
  · have := blk_set c2 i v1
    simpa using this
  · intro j u m hu hm
    by_cases e : j = i
    · subst e
      rw [List.getElem?_set_self (List.getElem?_eq_some_iff.1 hv).1] at hu
      rw [List.getElem?_set_self (List.getElem?_eq_some_iff.1 hl).1] at hm
      obtain rfl := Option.some.inj hu
      obtain rfl := Option.some.inj hm
      exact hs.own ho (by decide)
    · rw [List.getElem?_set_ne (fun h => e h.symm)] at hu hm
      exact hs.own (hg.own (h.rows.row j u m hu hm) (h.rows.apart j i u v e hu hv)) (by decide)
  · have key : ∀ (j : Nat) (u : Value), j ≠ i → vs[j]? = some u → (u.ownBlock = none ∨ u.ownBlock ≠ v1.ownBlock) := by
      intro j u e hu
      rcases hat with hat | ⟨b, hb, hle⟩
      · rw [hat]; exact h.rows.apart j i u v e hu hv
      · cases hub : u.ownBlock with
        | none => exact .inl rfl
        | some k =>
          right
          rw [hb]
          intro e2
          have hjT : j < T.length := by rw [← h.rows.len]; exact (List.getElem?_eq_some_iff.1 hu).1
          have := ((h.rows.row j u _ hu (List.getElem?_eq_getElem hjT)).lt k hub).2
          have := Option.some.inj e2
          omega
    intro j k u u' hjk hu hu'
    by_cases ej : j = i
    · subst ej
      rw [List.getElem?_set_self (List.getElem?_eq_some_iff.1 hv).1] at hu
      obtain rfl := Option.some.inj hu
      rw [List.getElem?_set_ne hjk] at hu'
      rcases key k u' (fun e => hjk e.symm) hu' with h0 | h1
      · cases hv1 : v1.ownBlock with
        | none => exact .inl rfl
        | some b => right; rw [h0]; simp
      · exact .inr (fun e => h1 e.symm)
    · rw [List.getElem?_set_ne (fun h => ej h.symm)] at hu
      by_cases ek : k = i
      · subst ek
        rw [List.getElem?_set_self (List.getElem?_eq_some_iff.1 hv).1] at hu'
        obtain rfl := Option.some.inj hu'
        exact key j u ej hu
      · rw [List.getElem?_set_ne (fun h => ek h.symm)] at hu'
        exact h.rows.apart j k u u' hjk hu hu'
/-- what is told, and the table then -/
def SetOut (base g r : Nat) (T : List (List (Int × Bool))) (code : Int) (w : World) (e : Ending) (w' : World) : Prop := e = .returned (.int .i64 code) ∧ (∃ vs, LTab base w' g r vs T) ∧ KeepT [141, 144] w w' ∧ Below base w w'
theorem LTab.le {base : Nat} {W : World} {g r : Nat} {vs : List Value} {T : List (List (Int × Bool))} (h : LTab base W g r vs T) : base ≤ W.heap.size := by
  have := (Array.getElem?_eq_some_iff.1 h.tab).1
  have := h.hg
  omega
theorem ask_none (i client : Int) (write : Bool) (w : World) : Calls Try.prog 39 #[.pointer none, .int .i64 i, .int .i64 client, .bool write] w fun e w' => e = .returned (.int .i64 1) ∧ Below w.heap.size w w' := by
  have hh := has_none i w
  go_enter Try.func39, Try.ntmps39
  go_wp2_with (go_at_call 92; refine hh.mono ?_; rintro e w1 ⟨rfl, hb1⟩)
  go_ret
  exact ⟨rfl, hb1⟩
def okC (c : Int) : Bool := decide (0 ≤ c ∧ c < 64)
set_option maxRecDepth 100000 in
theorem ask_bad (base g r : Nat) (vs : List Value) (T : List (List (Int × Bool))) (i client : Int) (write : Bool) (w : World) (h : LTab base w g r vs T) (ho : inT T i = false ∨ okC client = false) : Calls Try.prog 39 #[.pointer (some ⟨g, 0, none⟩), .int .i64 i, .int .i64 client, .bool write] w (SetOut base g r T 1 w) := by
  have hh := has_any base g r vs T i w h
  have HT := Lib.hid (show ∀ W, Below w.heap.size w W → (∃ vs, LTab base W g r vs T) ∧ KeepT [141, 144] w W ∧ Below base w W from fun W hW => ⟨⟨_, h.next hW⟩, .of_below hW, hW.mono h.le⟩)
  clear h
  cases hx : inT T i with
  | false =>
    rw [hx] at hh
    clear hx ho
    go_enter Try.func39, Try.ntmps39
    go_wp2_with (go_at_call 92; refine hh.mono ?_; rintro e w1 ⟨rfl, hb1⟩)
    go_ret
    exact ⟨rfl, HT.out _ hb1⟩
  | true =>
    rw [hx] at hh
    have hc : okC client = false := by rcases ho with ho | ho; · rw [hx] at ho; cases ho
                                       · exact ho
    clear hx ho
    have hc' := of_decide_eq_false hc
    clear hc
    by_cases h0 : client < 0
    · clear hc'
      go_enter Try.func39, Try.ntmps39
      go_wp2_with (go_at_call 92; refine hh.mono ?_; rintro e w1 ⟨rfl, hb1⟩)
      go_ret
      exact ⟨rfl, HT.out _ hb1⟩
    · have h1 : client ≥ 64 := by omega
      clear hc'
      go_enter Try.func39, Try.ntmps39
      go_wp2_with (go_at_call 92; refine hh.mono ?_; rintro e w1 ⟨rfl, hb1⟩)
      go_ret
      exact ⟨rfl, HT.out _ hb1⟩
set_option maxRecDepth 100000 in
theorem ask_old (base g r : Nat) (vs : List Value) (T : List (List (Int × Bool))) (i : Nat) (l : List (Int × Bool)) (client : Int) (write : Bool) (w : World) (h : LTab base w g r vs T) (hl : T[i]? = some l) (hm : l.length ≤ 1000000) (hi : i ≤ 9223372036854775807) (hc : okC client = true) (ha : 0 ≤ atF l client) : Calls Try.prog 39 #[.pointer (some ⟨g, 0, none⟩), .int .i64 i, .int .i64 client, .bool write] w (SetOut base g r T 3 w) := by
  have hi' : i < T.length := (List.getElem?_eq_some_iff.1 hl).1
  have hh := has_any base g r vs T i w h
  rw [show inT T i = true from decide_eq_true ⟨by omega, by omega⟩] at hh
  have HT := Lib.hid (show ∀ W, Below w.heap.size w W → (∃ vs, LTab base W g r vs T) ∧ KeepT [141, 144] w W ∧ Below base w W from fun W hW => ⟨⟨_, h.next hW⟩, .of_below hW, hW.mono h.le⟩)
  have hfind : ∀ W, Below w.heap.size w W → Calls Try.prog 93 #[.pointer (some ⟨g, 0, none⟩), .int .i64 i, .int .i64 client] W (TellsI (atF l client) W) := fun W hW => find_any base g r vs T i l client W (h.next hW) hl (by omega) hi
  clear h hl
  obtain ⟨h0, h1⟩ := of_decide_eq_true hc
  have h1' : ¬ client ≥ 64 := by omega
  have h0' : ¬ client < 0 := by omega
  clear h0 h1 hc
  generalize atF l client = z at ha hfind
  go_enter Try.func39, Try.ntmps39
  go_wp2_with (first
    | (go_at_call 92; refine hh.mono ?_; rintro e w1 ⟨rfl, hb1⟩)
    | (go_at_call 93; refine (hfind _ hb1).mono ?_; rintro e w2 ⟨rfl, hb2⟩))
  go_ret
  exact ⟨rfl, HT.out _ (below_next hb1 hb2)⟩
set_option maxRecDepth 100000 in
set_option maxHeartbeats 4000000 in
theorem ask_new (base g r : Nat) (vs : List Value) (T : List (List (Int × Bool))) (i : Nat) (l : List (Int × Bool)) (client : Int) (write : Bool) (w : World) (h : LTab base w g r vs T) (hl : T[i]? = some l) (hm : l.length ≤ 1000000) (hi : i ≤ 9223372036854775807) (hc : okC client = true) (ha : atF l client < 0) : Calls Try.prog 39 #[.pointer (some ⟨g, 0, none⟩), .int .i64 i, .int .i64 client, .bool write] w (SetOut base g r (T.set i (l ++ [(client, write)])) 0 w) := by
  have hi' : i < T.length := (List.getElem?_eq_some_iff.1 hl).1
  have hh := has_any base g r vs T i w h
  rw [show inT T i = true from decide_eq_true ⟨by omega, by omega⟩] at hh
  have hfind : ∀ W, Below w.heap.size w W → Calls Try.prog 93 #[.pointer (some ⟨g, 0, none⟩), .int .i64 i, .int .i64 client] W (TellsI (atF l client) W) := fun W hW => find_any base g r vs T i l client W (h.next hW) hl (by omega) hi
  have HTA := Lib.hid (fun W (hW : Below w.heap.size w W) => h.next hW)
  have hle := Lib.hid h.le
  clear h
  obtain ⟨h0, h1⟩ := of_decide_eq_true hc
  have h1' : ¬ client ≥ 64 := by omega
  have h0' : ¬ client < 0 := by omega
  clear h0 h1 hc
  have HL := Lib.hid hl
  clear hl
  have ha' : ¬ atF l client ≥ 0 := by omega
  clear ha
  generalize atF l client = z at ha' hfind
  go_enter Try.func39, Try.ntmps39
  go_wp2_with (first
    | (go_at_call 92; refine hh.mono ?_; rintro e w1 ⟨rfl, hb1⟩)
    | (go_at_call 93; refine (hfind _ hb1).mono ?_; rintro e w2 ⟨rfl, hb2⟩))
  have hbb := below_next hb1 hb2
  have HT := Lib.hid (HTA.out _ hbb).drew
  have HK := Lib.hid (KeepT.of_below (ts := [141, 144]) (below_drew hbb))
  have HBB := Lib.hid ((below_drew hbb).mono hle.out)
  have hbs := HT.out.le
  clear hb1 hb2 hbb HTA hle
  have q1 := HT.out.cell
  obtain ⟨v, hv, hcv, hrow⟩ := HT.out.at_ i l HL.out
  have hl := HL.out
  have HR := Lib.hid hrow
  clear hrow
  have hcvA : (w2.drew.alloc (.cells #[.int .i64 client, .bool write] 144)).cell? ⟨r, i, none⟩ = some v := ((below_alloc (Below.refl _ _) _).cell (World.block_lt_of_cell? _ _ hcv)).trans hcv
  have hSA : (w2.drew.alloc (.cells #[.int .i64 client, .bool write] 144)).cell? ⟨g, 0, none⟩ = some (.slice (some ⟨r, 0, none⟩) T.length T.length) := ((below_alloc (Below.refl _ _) _).cell (World.block_lt_of_cell? _ _ q1)).trans q1
  have hiI : (i : Int) < (T.length : Int) := by omega
  refine s_region (fun u => u.cell? ⟨g, 0, none⟩ = some (.slice (some ⟨r, 0, none⟩) T.length T.length)) (by kernel_rfl) 19 (by kernel_rfl) (by exact q1) (fun hS => ?_)
  generalize hwd : w2.drew = wd at *
  clear hwd
  refine s_take 0 (_) hS rfl (by kernel_rfl) (by kernel_rfl) (by kernel_rfl) (fun _ _ _ h => h) rfl (fun w' hw' => run_move_at _ rfl w') ?_
  simp only [Act.put, List.setIfInBounds_toArray, List.set_cons_zero, List.set_cons_succ]
  refine s_take 1 (.pointer (some ⟨g, 0, none⟩)) hS rfl (by kernel_rfl) (by kernel_rfl) (by kernel_rfl) (fun _ _ _ h => h) rfl (fun w' hw' => by (unfold execOp; simp [go_sem, Act.put, Act.eval])) ?_
  simp only [Act.put, List.setIfInBounds_toArray, List.set_cons_zero, List.set_cons_succ]
  refine s_take 2 (.pointer (some ⟨g, 0, none⟩)) hS rfl (by kernel_rfl) (by kernel_rfl) (by kernel_rfl) (fun _ _ _ h => h) rfl (fun w' hw' => by (unfold execOp; simp [go_sem, Act.put, Act.eval])) ?_
  simp only [Act.put, List.setIfInBounds_toArray, List.set_cons_zero, List.set_cons_succ]
  refine s_take 3 (.slice (some ⟨r, 0, none⟩) T.length T.length) hS rfl (by kernel_rfl) (by kernel_rfl) (by kernel_rfl) (fun _ _ _ h => h) rfl (fun w' hw' => by (have hc0 := hw'; unfold execOp; simp [go_sem, Act.put, Act.eval, hc0])) ?_
  simp only [Act.put, List.setIfInBounds_toArray, List.set_cons_zero, List.set_cons_succ]
  refine s_take 4 (_) hS rfl (by kernel_rfl) (by kernel_rfl) (by kernel_rfl) (fun _ _ _ h => h) rfl (fun w' hw' => run_move_at _ rfl w') ?_
  simp only [Act.put, List.setIfInBounds_toArray, List.set_cons_zero, List.set_cons_succ]
  refine s_take 5 (_) hS rfl (by kernel_rfl) (by kernel_rfl) (by kernel_rfl) (fun _ _ _ h => h) rfl (fun w' hw' => run_move_at _ rfl w') ?_
  simp only [Act.put, List.setIfInBounds_toArray, List.set_cons_zero, List.set_cons_succ]
  refine s_take 6 (.pointer (some ⟨g, 0, none⟩)) hS rfl (by kernel_rfl) (by kernel_rfl) (by kernel_rfl) (fun _ _ _ h => h) rfl (fun w' hw' => by (unfold execOp; simp [go_sem, Act.put, Act.eval])) ?_
  simp only [Act.put, List.setIfInBounds_toArray, List.set_cons_zero, List.set_cons_succ]
  refine s_take 7 (.pointer (some ⟨g, 0, none⟩)) hS rfl (by kernel_rfl) (by kernel_rfl) (by kernel_rfl) (fun _ _ _ h => h) rfl (fun w' hw' => by (unfold execOp; simp [go_sem, Act.put, Act.eval])) ?_
  simp only [Act.put, List.setIfInBounds_toArray, List.set_cons_zero, List.set_cons_succ]
  refine s_take 8 (.slice (some ⟨r, 0, none⟩) T.length T.length) hS rfl (by kernel_rfl) (by kernel_rfl) (by kernel_rfl) (fun _ _ _ h => h) rfl (fun w' hw' => by (have hc0 := hw'; unfold execOp; simp [go_sem, Act.put, Act.eval, hc0])) ?_
  simp only [Act.put, List.setIfInBounds_toArray, List.set_cons_zero, List.set_cons_succ]
  refine s_take 9 (_) hS rfl (by kernel_rfl) (by kernel_rfl) (by kernel_rfl) (fun _ _ _ h => h) rfl (fun w' hw' => run_move_at _ rfl w') ?_
  simp only [Act.put, List.setIfInBounds_toArray, List.set_cons_zero, List.set_cons_succ]
  refine s_take 10 (.pointer (some ⟨r, i, none⟩)) hS rfl (by kernel_rfl) (by kernel_rfl) (by kernel_rfl) (fun _ _ _ h => h) rfl (fun w' hw' => by (have hc0 := hi'; have hc1 := hi; have hc2 := hiI; unfold execOp; simp [go_sem, Act.put, Act.eval, hc0, hc1, hc2])) ?_
  simp only [Act.put, List.setIfInBounds_toArray, List.set_cons_zero, List.set_cons_succ]
  refine s_take 12 (_) hS rfl (by kernel_rfl) (by kernel_rfl) (by kernel_rfl) (fun _ _ _ h => h) rfl (fun w' hw' => run_move_at _ rfl w') ?_
  simp only [Act.put, List.setIfInBounds_toArray, List.set_cons_zero, List.set_cons_succ]
  refine s_take 13 (_) hS rfl (by kernel_rfl) (by kernel_rfl) (by kernel_rfl) (fun _ _ _ h => h) rfl (fun w' hw' => run_move_at _ rfl w') ?_
  simp only [Act.put, List.setIfInBounds_toArray, List.set_cons_zero, List.set_cons_succ]
  refine s_take 14 (.agg #[.int .i64 client, .bool write]) hS rfl (by kernel_rfl) (by kernel_rfl) (by kernel_rfl) (fun _ _ _ h => h) rfl (fun w' hw' => run_build_at _ _ rfl #[(0, .int .i64 client), (1, .bool write)] (by simp [Act.eval]) _ (by kernel_rfl)) ?_
  simp only [Act.put, List.setIfInBounds_toArray, List.set_cons_zero, List.set_cons_succ]
  refine s_two 11 15 rfl rfl (by kernel_rfl) ?_ ?_
  · refine g_event v wd rfl (by (have hc0 := hcv; unfold execOp; simp [go_sem, Act.put, Act.eval, hc0])) hS (fun hS => ?_)
    simp only [Act.put, List.setIfInBounds_toArray, List.set_cons_zero, List.set_cons_succ]
    refine s_event 15 (.slice (some ⟨wd.heap.size, 0, none⟩) 1 1) (wd.alloc (.cells #[.int .i64 client, .bool write] 144)) rfl (by kernel_rfl) rfl (by (unfold execOp; simp [go_sem, Act.put, Act.eval])) hSA (fun hS => ?_)
    simp only [Act.put, List.setIfInBounds_toArray, List.set_cons_zero, List.set_cons_succ]
    refine s_one 16 rfl (by kernel_rfl) ?_
    intro K' hK'
    refine step_append_cells (w0 := wd) base (by rfl) (.tmp 39) (.tmp 43) 141 144 (.agg #[.int .i64 0, .bool false]) 2 16 rfl Try.underlying141 infoA rfl (by decide) (by decide) v l.length (askC l) [.int .i64 client, .bool write] rfl rfl rfl (by simp [Value.oneCell']) HR.out (Below.refl _ _) hbs (by omega) ?_
    intro v1 w5 ho5 hb5 hg5 hat5
    obtain ⟨g1, c1, rfl⟩ := ownsRow_succ ho5
    have ho5' : AskRow base w5 (.slice (some ⟨g1, 0, none⟩) (l.length + 1) c1) (l ++ [(client, write)]) := by rw [AskRow, askC_snoc, List.length_append]; exact ho5
    have hM5 := HT.out.mid hv hl (.of_grown hg5)
    have hS5 := (blk_cell hM5.1 0).trans (show _ = some (Value.slice (some ⟨r, 0, none⟩) T.length T.length) from rfl)
    refine hK'.out _ _ hS5 ?_
    simp only [Act.put, List.setIfInBounds_toArray, List.set_cons_zero, List.set_cons_succ]
    refine s_take 17 (.pointer (some ⟨r, i, none⟩)) hS5 rfl (by kernel_rfl) (by kernel_rfl) (by kernel_rfl) (fun _ _ _ h => h) rfl (fun w' hw' => by (have hc0 := hi'; have hc1 := hi; have hc2 := hiI; unfold execOp; simp [go_sem, Act.put, Act.eval, hc0, hc1, hc2])) ?_
    simp only [Act.put, List.setIfInBounds_toArray, List.set_cons_zero, List.set_cons_succ]
    have P := HT.out.put hv hl (.of_grown hg5) ho5' hat5
    refine s_one 18 rfl (by kernel_rfl) ?_
    have hm1 : w5.cell? ⟨r, i, none⟩ = some v := (blk_cell hM5.2 i).trans (by simpa using hv)
    have hm2 := blk_frozen hM5.2 i
    refine g_skip (w5.setCell ⟨r, i, none⟩ (.slice (some ⟨g1, 0, none⟩) (l.length + 1) c1)) rfl (by (have hc0 := hm1; have hc1 := hm2; unfold execOp; simp [go_sem, Act.put, Act.eval, hc0, hc1])) (by have h := P.1.cell; rw [List.length_set] at h; exact h) (fun hS => ?_)
    simp only [Act.put, List.setIfInBounds_toArray, List.set_cons_zero, List.set_cons_succ]
    refine s_done (by kernel_rfl) ?_
    have hbf := hb5.setCell (p := ⟨r, i, none⟩) HT.out.hr (.slice (some ⟨g1, 0, none⟩) (l.length + 1) c1)
    have FIN := Lib.hid (show ∃ w7 v7, w7 = w5.setCell ⟨r, i, none⟩ (.slice (some ⟨g1, 0, none⟩) (l.length + 1) c1) ∧ LTab base w7 g r (vs.set i v7) (T.set i (l ++ [(client, write)])) ∧ KeepT [141, 144] wd w7 ∧ Below base wd w7 from ⟨_, (.slice (some ⟨g1, 0, none⟩) (l.length + 1) c1), rfl, P.1, P.2, hbf⟩)
    clear P hbf hm1 hm2 hM5 hS hS5 ho5 ho5' hb5 hg5 hat5 hK'
    obtain ⟨w7, v7, e7, k1, k2, k3⟩ := FIN.out
    rw [← e7]
    clear e7 FIN
    have K1 := Lib.hid k1
    have K2 := Lib.hid k2
    have K3 := Lib.hid k3
    clear k1 k2 k3
    go_wp2
    go_ret
    exact ⟨rfl, ⟨_, K1.out⟩, HK.out.trans K2.out, HBB.out.trans K3.out⟩
  · refine g_event (.slice (some ⟨wd.heap.size, 0, none⟩) 1 1) (wd.alloc (.cells #[.int .i64 client, .bool write] 144)) rfl (by (unfold execOp; simp [go_sem, Act.put, Act.eval])) hSA (fun hS => ?_)
    simp only [Act.put, List.setIfInBounds_toArray, List.set_cons_zero, List.set_cons_succ]
    refine s_event 11 v (wd.alloc (.cells #[.int .i64 client, .bool write] 144)) rfl (by kernel_rfl) rfl (by (have hc0 := hcvA; unfold execOp; simp [go_sem, Act.put, Act.eval, hc0])) hSA (fun hS => ?_)
    simp only [Act.put, List.setIfInBounds_toArray, List.set_cons_zero, List.set_cons_succ]
    refine s_one 16 rfl (by kernel_rfl) ?_
    intro K' hK'
    refine step_append_cells (w0 := wd) base (by rfl) (.tmp 39) (.tmp 43) 141 144 (.agg #[.int .i64 0, .bool false]) 2 16 rfl Try.underlying141 infoA rfl (by decide) (by decide) v l.length (askC l) [.int .i64 client, .bool write] rfl rfl rfl (by simp [Value.oneCell']) HR.out (Below.refl _ _) hbs (by omega) ?_
    intro v1 w5 ho5 hb5 hg5 hat5
    obtain ⟨g1, c1, rfl⟩ := ownsRow_succ ho5
    have ho5' : AskRow base w5 (.slice (some ⟨g1, 0, none⟩) (l.length + 1) c1) (l ++ [(client, write)]) := by rw [AskRow, askC_snoc, List.length_append]; exact ho5
    have hM5 := HT.out.mid hv hl (.of_grown hg5)
    have hS5 := (blk_cell hM5.1 0).trans (show _ = some (Value.slice (some ⟨r, 0, none⟩) T.length T.length) from rfl)
    refine hK'.out _ _ hS5 ?_
    simp only [Act.put, List.setIfInBounds_toArray, List.set_cons_zero, List.set_cons_succ]
    refine s_take 17 (.pointer (some ⟨r, i, none⟩)) hS5 rfl (by kernel_rfl) (by kernel_rfl) (by kernel_rfl) (fun _ _ _ h => h) rfl (fun w' hw' => by (have hc0 := hi'; have hc1 := hi; have hc2 := hiI; unfold execOp; simp [go_sem, Act.put, Act.eval, hc0, hc1, hc2])) ?_
    simp only [Act.put, List.setIfInBounds_toArray, List.set_cons_zero, List.set_cons_succ]
    have P := HT.out.put hv hl (.of_grown hg5) ho5' hat5
    refine s_one 18 rfl (by kernel_rfl) ?_
    have hm1 : w5.cell? ⟨r, i, none⟩ = some v := (blk_cell hM5.2 i).trans (by simpa using hv)
    have hm2 := blk_frozen hM5.2 i
    refine g_skip (w5.setCell ⟨r, i, none⟩ (.slice (some ⟨g1, 0, none⟩) (l.length + 1) c1)) rfl (by (have hc0 := hm1; have hc1 := hm2; unfold execOp; simp [go_sem, Act.put, Act.eval, hc0, hc1])) (by have h := P.1.cell; rw [List.length_set] at h; exact h) (fun hS => ?_)
    simp only [Act.put, List.setIfInBounds_toArray, List.set_cons_zero, List.set_cons_succ]
    refine s_done (by kernel_rfl) ?_
    have hbf := hb5.setCell (p := ⟨r, i, none⟩) HT.out.hr (.slice (some ⟨g1, 0, none⟩) (l.length + 1) c1)
    have FIN := Lib.hid (show ∃ w7 v7, w7 = w5.setCell ⟨r, i, none⟩ (.slice (some ⟨g1, 0, none⟩) (l.length + 1) c1) ∧ LTab base w7 g r (vs.set i v7) (T.set i (l ++ [(client, write)])) ∧ KeepT [141, 144] wd w7 ∧ Below base wd w7 from ⟨_, (.slice (some ⟨g1, 0, none⟩) (l.length + 1) c1), rfl, P.1, P.2, hbf⟩)
    clear P hbf hm1 hm2 hM5 hS hS5 ho5 ho5' hb5 hg5 hat5 hK'
    obtain ⟨w7, v7, e7, k1, k2, k3⟩ := FIN.out
    rw [← e7]
    clear e7 FIN
    have K1 := Lib.hid k1
    have K2 := Lib.hid k2
    have K3 := Lib.hid k3
    clear k1 k2 k3
    go_wp2
    go_ret
    exact ⟨rfl, ⟨_, K1.out⟩, HK.out.trans K2.out, HBB.out.trans K3.out⟩
end Go.Proofs.Ytoiiacbbfhlocaa.HLa
