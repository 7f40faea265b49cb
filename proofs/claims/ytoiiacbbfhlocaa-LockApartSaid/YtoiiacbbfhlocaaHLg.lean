/- Layer 19: slices.Delete over asks, Drop. -/
import Derived.Test.YtoiiacbbfhlocaaHLf
import Derived.Deep.RegionLaw
set_option linter.unusedVariables false
set_option linter.unusedSimpArgs false
namespace Go.Proofs.Ytoiiacbbfhlocaa.HLa
open Go.RowKit Go.Proofs.YtoiiacbbfhlocaaW.PrintWords Go.Proofs.YtoiiacbbfhlocaaW.PrintLast Go.Proofs.YtoiiacbbfhlocaaW.PrintMore Go.Proofs.Ytoiiacbbfhlocaa.Kit
theorem askC_take : ∀ (l : List (Int × Bool)) (k : Nat), (askC l).take (k * 2) = askC (l.take k)
  | [], k => by simp [askC]
  | a :: l, 0 => by simp [askC]
  | a :: l, k + 1 => by
    have e : askC (a :: l) = .int .i64 a.1 :: .bool a.2 :: askC l := rfl
    have e2 : askC (a :: l.take k) = .int .i64 a.1 :: .bool a.2 :: askC (l.take k) := rfl
    rw [List.take_succ_cons, e, e2, show (k + 1) * 2 = k * 2 + 1 + 1 from by omega, List.take_succ_cons, List.take_succ_cons, askC_take l k]
theorem askC_drop : ∀ (l : List (Int × Bool)) (k : Nat), (askC l).drop (k * 2) = askC (l.drop k)
  | [], k => by simp [askC]
  | a :: l, 0 => by simp
  | a :: l, k + 1 => by
    have e : askC (a :: l) = .int .i64 a.1 :: .bool a.2 :: askC l := rfl
    rw [List.drop_succ_cons, e, show (k + 1) * 2 = k * 2 + 1 + 1 from by omega, List.drop_succ_cons, List.drop_succ_cons, askC_drop l k]
theorem askC_append (l m : List (Int × Bool)) : askC (l ++ m) = askC l ++ askC m := by simp [askC, List.flatMap_append]
theorem askC_one (l : List (Int × Bool)) : ∀ u ∈ askC l, u.oneCell' = true := by
  intro u hu
  obtain ⟨a, -, ha⟩ := List.mem_flatMap.1 hu
  simp only [List.mem_cons, List.not_mem_nil, or_false] at ha
  rcases ha with rfl | rfl <;> rfl
theorem heap_setCells (b : Nat) : ∀ (vs : List Value) (o : Nat) (w : World) (cs : Array Value) (t : TypeId), w.heap[b]? = some (.cells cs t (0, 0)) → o + vs.length ≤ cs.size →
    (w.setCells b o vs).heap[b]? = some (.cells (cs.toList.take o ++ vs ++ cs.toList.drop (o + vs.length)).toArray t (0, 0))
  | [], o, w, cs, t, h, hs => by
    rw [World.setCells, h]
    simp
  | v :: r, o, w, cs, t, h, hs => by
    rw [List.length_cons] at hs
    rw [World.setCells, heap_setCells b r (o + 1) _ _ t (blk_set h o v) (by simp; omega)]
    have ho : o < cs.toList.length := by simp; omega
    have e1 : (cs.setIfInBounds o v).toList.take (o + 1) = cs.toList.take o ++ [v] := by
      rw [Array.toList_setIfInBounds, List.take_add_one, List.take_set_of_le (Nat.le_refl _), List.getElem?_set_self ho]; rfl
    have e2 : (cs.setIfInBounds o v).toList.drop (o + 1 + r.length) = cs.toList.drop (o + (v :: r).length) := by
      rw [Array.toList_setIfInBounds, List.drop_set_of_lt (by omega), List.length_cons, show o + 1 + r.length = o + (r.length + 1) from by omega]
    rw [e1, e2]
    simp
theorem heap_setCells_ne (b k : Nat) (hk : k ≠ b) : ∀ (vs : List Value) (o : Nat) (w : World), (w.setCells b o vs).heap[k]? = w.heap[k]?
  | [], o, w => rfl
  | v :: r, o, w => by rw [World.setCells, heap_setCells_ne b k hk r, Below.heap_setCell w ⟨b, o, none⟩ v k hk]
theorem size_setCells (b : Nat) : ∀ (vs : List Value) (o : Nat) (w : World), (w.setCells b o vs).heap.size = w.heap.size
  | [], o, w => rfl
  | v :: r, o, w => by
    rw [World.setCells, size_setCells b r]
    exact World.size_setCell _ _ _
theorem below_cells {B b : Nat} (hb : B ≤ b) : ∀ (vs : List Value) (o : Nat) (a w : World), Below B a w → Below B a (w.setCells b o vs)
  | [], o, a, w, h => h
  | v :: r, o, a, w, h => by
    rw [World.setCells]
    exact below_cells hb r (o + 1) a _ (h.setCell (p := ⟨b, o, none⟩) hb v)
theorem run_clear_ask (W : World) (ty : TypeId) (b o c : Nat) (cs : Array Value) (h : W.heap[b]? = some (.cells cs 144 (0, 0))) (hs : o + 2 ≤ cs.size) :
    (Builtin.clear_ #[141] ty #[.slice (some ⟨b, o, none⟩) 1 c]).run Try.prog W = .ok (.tuple #[]) (W.setCells b o [.int .i64 0, .bool false]) := by
  have hst := run_storeCells_cells (P := Try.prog) b o [.int .i64 0, .bool false] 0 W (fun j hj => by
    rw [blk_cell h, Array.getElem?_eq_getElem (by simp at hj; omega)]; rfl) (fun j hj => blk_frozen h _) (by simp [Value.oneCell'])
  simp only [Nat.add_zero] at hst
  have hz : (Builtin.zeroCells #[Value.int .i64 0, .bool false] 1).toList = [Value.int .i64 0, .bool false] := by kernel_rfl
  have hv : ∀ w, (zeroValue 144).run Try.prog w = .ok (.agg #[.int .i64 0, .bool false]) w := fun w => by simp [go_sem]
  simp [Builtin.clear_, run_underlying Try.underlying141, hv, hz, hst, Value.cells]
/-- what Delete leaves -/
def DelOut (b cap : Nat) (l : List (Int × Bool)) (w : World) (e : Ending) (w' : World) : Prop := e = .returned (.slice (some ⟨b, 0, none⟩) l.length cap) ∧ KeepOne w w' (some b) ∧ AskRow b w' (.slice (some ⟨b, 0, none⟩) l.length cap) l ∧ Below b w w'
set_option maxRecDepth 100000 in
set_option maxHeartbeats 4000000 in
theorem delete_any (b cap : Nat) (cur : Array Value) (l : List (Int × Bool)) (i J : Nat) (w : World) (hJ : J = i + 1) (hi : i < l.length) (hcap : l.length ≤ cap) (hmax : cap ≤ maxLen) (hh : w.heap[b]? = some (.cells cur 144 (0, 0))) (hs : cur.size = cap * 2) (hl : cur.toList.take (l.length * 2) = askC l) :
    Calls Try.prog 94 #[.slice (some ⟨b, 0, none⟩) l.length cap, .int .i64 i, .int .i64 J] w (DelOut b cap (l.eraseIdx i) w) := by
  obtain ⟨n, hn⟩ : ∃ n, n = l.length := ⟨_, rfl⟩
  have hm : cap ≤ 9223372036854775807 := Nat.le_trans hmax (by decide)
  have h1 : J ≤ n := by omega
  have h2 : i ≤ J := by omega
  have h3 : n ≤ cap := by omega
  have h4 : J ≤ cap := by omega
  have h5 : i ≠ J := by omega
  rw [← hn]
  have HN := Lib.hid hn
  have HJ := Lib.hid hJ
  have hic : i ≤ cap := by omega
  have hii : ¬ cap < i := by omega
  obtain ⟨news, hnews⟩ : ∃ news, news = (askC l).drop (J * 2) := ⟨_, rfl⟩
  have hnl : news.length = (n - J) * 2 := by rw [hnews, List.length_drop, askC_length, hn]; omega
  have s1 := Lib.hid hnl
  obtain ⟨A, hA, hsrc⟩ : ∃ A : Addr, (if cap = J then (some ⟨b, 0, none⟩ : Option Addr) else some ⟨b, J * 2, none⟩) = some A ∧ ∀ t u, news[t]? = some u → w.drew.cell? (A.add t) = some u := by
    by_cases h : cap = J
    · refine ⟨⟨b, 0, none⟩, by simp [h], fun t u hu => ?_⟩
      have : news.length = 0 := by rw [hnl]; omega
      rw [List.length_eq_zero_iff.1 this] at hu
      simp at hu
    · refine ⟨⟨b, J * 2, none⟩, by simp [h], fun t u hu => ?_⟩
      rw [show (⟨b, J * 2, none⟩ : Addr).add t = ⟨b, J * 2 + t, none⟩ from by unfold Addr.add; split <;> simp_all]
      have ht : t < news.length := (List.getElem?_eq_some_iff.1 hu).1
      rw [hnews, List.getElem?_drop, ← hl, List.getElem?_take, if_pos (by rw [← hn]; omega)] at hu
      have hb : w.drew.heap[b]? = some (.cells cur 144 (0, 0)) := hh
      rw [blk_cell hb]
      simpa using hu
  have s2 := Lib.hid hsrc
  have s3 := Lib.hid (show ∀ u ∈ news, u.oneCell' = true from fun u hu => askC_one l u (List.mem_of_mem_drop (hnews ▸ hu)))
  have s4 := Lib.hid (show ∀ j, j < news.length → (w.drew.cell? ⟨b, 0 + i * 2 + j, none⟩).isSome = true ∧ w.drew.frozen? ⟨b, 0 + i * 2 + j, none⟩ = false from fun j hj => by
    have hb : w.drew.heap[b]? = some (.cells cur 144 (0, 0)) := hh
    exact ⟨by rw [blk_cell hb, Array.getElem?_eq_getElem (by omega)]; rfl, blk_frozen hb _⟩)
  obtain ⟨i0, hi0⟩ : ∃ i0, Try.prog.info? 144 = some i0 ∧ i0.size = 2 := by
    obtain ⟨i, h1, h2⟩ := Option.map_eq_some_iff.1 infoA
    simp only [Prod.mk.injEq] at h2
    exact ⟨i, h1, h2.2.1⟩
  have hi0 := Lib.hid hi0
  obtain ⟨W1, hW1⟩ : ∃ W1, W1 = w.drew.setCells b (0 + i * 2) news := ⟨_, rfl⟩
  have HW1 := Lib.hid hW1
  have c1 : W1.heap[b]? = some (.cells (cur.toList.take (i * 2) ++ news ++ cur.toList.drop (i * 2 + news.length)).toArray 144 (0, 0)) := by
    have hb : w.drew.heap[b]? = some (.cells cur 144 (0, 0)) := hh
    rw [hW1, Nat.zero_add]
    exact heap_setCells b news (i * 2) _ cur _ hb (by omega)
  obtain ⟨L1, hL1⟩ : ∃ L1, L1 = cur.toList.take (i * 2) ++ news ++ cur.toList.drop (i * 2 + news.length) := ⟨_, rfl⟩
  rw [← hL1] at c1
  have hL1n : L1.length = cap * 2 := by rw [hL1]; simp; omega
  have hcl : ∀ ty, (Builtin.clear_ #[141] ty #[.slice (some ⟨b, (i + (n - J)) * 2, none⟩) (n - (i + (n - J))) (cap - (i + (n - J)))]).run Try.prog W1 = .ok (.tuple #[]) (W1.setCells b ((i + (n - J)) * 2) [.int .i64 0, .bool false]) := fun ty => by
    rw [show n - (i + (n - J)) = 1 from by omega]
    exact run_clear_ask W1 ty b _ _ _ c1 (by simp [hL1n]; omega)
  have FIN : DelOut b cap (l.eraseIdx i) w (.returned (.slice (some ⟨b, 0, none⟩) (i + (n - J)) cap)) (W1.setCells b ((i + (n - J)) * 2) [.int .i64 0, .bool false]) := by
    have hel : (l.eraseIdx i).length = n - 1 := by rw [List.length_eraseIdx, if_pos hi, hn]
    have hnj : i + (n - J) = n - 1 := by omega
    have c2 := heap_setCells b [.int .i64 0, .bool false] ((n - 1) * 2) _ _ _ c1 (by simp [hL1n]; omega)
    have hk : KeepOne w (W1.setCells b ((n - 1) * 2) [.int .i64 0, .bool false]) (some b) := by
      refine ⟨by rw [size_setCells, hW1, size_setCells]; exact Nat.le_refl _, fun k hk hne => ?_⟩
      have hne' : k ≠ b := fun e => hne (by rw [e])
      rw [heap_setCells_ne b k hne', hW1, heap_setCells_ne b k hne']
      rfl
    have hb : Below b w (W1.setCells b ((n - 1) * 2) [.int .i64 0, .bool false]) := by
      refine below_cells (Nat.le_refl _) _ _ _ _ ?_
      rw [hW1]
      exact below_cells (Nat.le_refl _) _ _ _ _ (below_drew (Below.refl _ _))
    rw [hnj]
    refine ⟨by rw [hel], hk, ⟨by rw [askC_length], .inr ⟨b, cap, _, rfl, Nat.le_refl _, c2, by omega, hmax, by simp [hL1n]; omega, ?_⟩⟩, hb⟩
    rw [hel, List.toList_toArray, List.append_assoc, List.take_append_of_le_length (by simp [hL1n]; omega)]
    simp only [List.toList_toArray, List.take_take, Nat.min_self]
    rw [hL1, List.take_append_of_le_length (by simp [hnl]; omega), List.take_of_length_le (by simp [hnl]; omega), hnews]
    have e1 : cur.toList.take (i * 2) = askC (l.take i) := by
      rw [← askC_take, ← hl, List.take_take, Nat.min_eq_left (by omega)]
    rw [e1, askC_drop, ← askC_append, List.eraseIdx_eq_take_drop_succ, hJ]
  have FIN' := Lib.hid FIN
  clear FIN hn hJ hi hcap hmax hs hl hh hnews hsrc hW1 c1 hL1 hL1n hnl
  have hA' := hA
  go_enter Try.func94, Try.ntmps94
  go_wp2_with fail
  -- region
  refine s_region (fun _ => True) (by kernel_rfl) 8 (by kernel_rfl) trivial (fun hS => ?_)
  generalize hwd : w.drew = wd at *
  clear hwd
  refine s_take 0 (_) hS rfl (by kernel_rfl) (by kernel_rfl) (by kernel_rfl) (fun _ _ _ h => h) rfl (fun w' hw' => run_move_at _ rfl w') ?_
  simp only [Act.put, List.setIfInBounds_toArray, List.set_cons_zero, List.set_cons_succ]
  refine s_take 1 (_) hS rfl (by kernel_rfl) (by kernel_rfl) (by kernel_rfl) (fun _ _ _ h => h) rfl (fun w' hw' => run_move_at _ rfl w') ?_
  simp only [Act.put, List.setIfInBounds_toArray, List.set_cons_zero, List.set_cons_succ]
  refine s_take 2 (.slice (some ⟨b, 0, none⟩) i cap) hS rfl (by kernel_rfl) (by kernel_rfl) (by kernel_rfl) (fun _ _ _ h => h) rfl (fun w' hw' => by (have hc0 := hic; have hc1 := hii; unfold execOp; simp [go_sem, Act.put, Act.eval, hc0, hc1])) ?_
  simp only [Act.put, List.setIfInBounds_toArray, List.set_cons_zero, List.set_cons_succ]
  refine s_take 3 (_) hS rfl (by kernel_rfl) (by kernel_rfl) (by kernel_rfl) (fun _ _ _ h => h) rfl (fun w' hw' => run_move_at _ rfl w') ?_
  simp only [Act.put, List.setIfInBounds_toArray, List.set_cons_zero, List.set_cons_succ]
  refine s_take 4 (_) hS rfl (by kernel_rfl) (by kernel_rfl) (by kernel_rfl) (fun _ _ _ h => h) rfl (fun w' hw' => run_move_at _ rfl w') ?_
  simp only [Act.put, List.setIfInBounds_toArray, List.set_cons_zero, List.set_cons_succ]
  refine s_take 5 (.slice (some A) (n - J) (cap - J)) hS rfl (by kernel_rfl) (by kernel_rfl) (by kernel_rfl) (fun _ _ _ h => h) rfl (fun w' hw' => by (have hc0 := h1; have hc1 := h3; have hc2 := h4; have hc3 := hA; unfold execOp; simp [go_sem, Act.put, Act.eval, hc0, hc1, hc2, hc3])) ?_
  simp only [Act.put, List.setIfInBounds_toArray, List.set_cons_zero, List.set_cons_succ]
  refine s_one 6 rfl (by kernel_rfl) ?_
  intro K' hK'
  refine step_append_room rfl (.tmp 22) (.tmp 25) 141 rfl 144 i0 2 Try.underlying141 hi0.out.1 hi0.out.2 b 0 i cap rfl A (n - J) (cap - J) news rfl s1.out s2.out s3.out (by omega) s4.out ?_
  rw [← HW1.out]
  refine hK'.out _ _ trivial ?_
  simp only [Act.put, List.setIfInBounds_toArray, List.set_cons_zero, List.set_cons_succ]
  refine s_take 7 (_) hS rfl (by kernel_rfl) (by kernel_rfl) (by kernel_rfl) (fun _ _ _ h => h) rfl (fun w' hw' => BigFrame.run_assign _ rfl w') ?_
  simp only [Act.put, List.setIfInBounds_toArray, List.set_cons_zero, List.set_cons_succ]
  refine s_done (by kernel_rfl) ?_
  -- behind
  go_wp2
  go_ret
  exact FIN'.out
end Go.Proofs.Ytoiiacbbfhlocaa.HLa
