/- Layer 6: the document's Write. -/
import Derived.Test.YtoiiacbbfhlocaaHDg
set_option linter.unusedVariables false
set_option linter.unusedSimpArgs false
namespace Go.Proofs.Ytoiiacbbfhlocaa.HDa
open Go.RowKit Go.Proofs.YtoiiacbbfhlocaaW.PrintWords Go.Proofs.YtoiiacbbfhlocaaW.PrintLast Go.Proofs.YtoiiacbbfhlocaaW.PrintMore Go.Proofs.Ytoiiacbbfhlocaa.Kit
theorem set_same {α : Type} {l : List α} {i : Nat} {x : α} (h : l[i]? = some x) : l.set i x = l := List.ext_getElem? fun j => by
  by_cases e : i = j
  · subst e; rw [List.getElem?_set_self (List.getElem?_eq_some_iff.1 h).1]; exact h.symm
  · rw [List.getElem?_set_ne e]
section
variable {base : Nat} {W : World} {g : Nat} {vs : List Value} {T : List (List (List Int))}
theorem RDsk.cellAt (h : RDsk base W g vs T) {j b n c : Nat} {l : List (List Int)} (hv : vs[j]? = some (.slice (some ⟨b, 0, none⟩) n c)) (hl : T[j]? = some l) (i : Nat) (hi : i < l.length) : (∃ u, W.cell? ⟨b, i, none⟩ = some u) ∧ W.frozen? ⟨b, i, none⟩ = false := by
  have hr := h.row j _ l hv hl
  obtain ⟨A, c', e, -, hc⟩ := hr.cells
  obtain ⟨k, rfl, -, hk⟩ := hc i _ (List.getElem?_eq_getElem hi)
  obtain ⟨cs, hcs⟩ := own_type hr b rfl
  have e1 : b = k := by
    have := Value.slice.inj e
    have := Option.some.inj this.1
    exact (Addr.mk.inj this).1
  subst e1
  exact ⟨⟨_, hk⟩, frozen_of_row W b i _ _ hcs⟩
/-- a text is another one -/
theorem RDsk.store (h : RDsk base W g vs T) {j b n c : Nat} {l : List (List Int)} (hv : vs[j]? = some (.slice (some ⟨b, 0, none⟩) n c)) (hl : T[j]? = some l) (i : Nat) (hi : i < l.length) (s : List Int) :
    RDsk base (W.setCell ⟨b, i, none⟩ (.string (strOfNums s))) g vs (T.set j (l.set i s)) ∧ KeepT [9] W (W.setCell ⟨b, i, none⟩ (.string (strOfNums s))) ∧ Below base W (W.setCell ⟨b, i, none⟩ (.string (strOfNums s))) := by
  have hr := h.row j _ l hv hl
  obtain ⟨cs, hcs⟩ := own_type hr b rfl
  have hK := KeepT.setCell hcs i (.string (strOfNums s))
  have hne : ∀ k, k ≠ b → (W.setCell ⟨b, i, none⟩ (.string (strOfNums s))).heap[k]? = W.heap[k]? := fun k hk => Below.heap_setCell W ⟨b, i, none⟩ _ k hk
  have hgb : g ≠ b := by
    intro e
    have := h.tab
    rw [e, hcs] at this
    exact absurd (Obj.cells.inj (Option.some.inj this)).2.1 (by decide)
  have hrb : base ≤ b := by
    rcases hr.2 with ⟨e, -⟩ | ⟨g', cap, cur, e, hg', -⟩
    · cases e
    · obtain ⟨e1, -, -⟩ := Value.slice.inj e
      have := (Addr.mk.inj (Option.some.inj e1)).1
      omega
  refine ⟨⟨(hne g hgb).trans h.tab, h.hg, by rw [List.length_set]; exact h.len, ?_, h.apart⟩, hK, (Below.refl base W).setCell (p := ⟨b, i, none⟩) hrb _⟩
  intro k v m hv' hm
  by_cases e : k = j
  · subst e
    rw [hv] at hv'
    obtain rfl := Option.some.inj hv'
    rw [List.getElem?_set_self (List.getElem?_eq_some_iff.1 hl).1] at hm
    obtain rfl := Option.some.inj hm
    unfold StrR
    rw [List.length_set]
    refine ⟨by rw [strC_length, List.length_set, Nat.mul_one], ?_⟩
    rcases hr.2 with ⟨e, -⟩ | ⟨g', cap, cur, e, hg', hh, hn, hmx, hs, ht⟩
    · cases e
    · obtain ⟨e1, e2, e3⟩ := Value.slice.inj e
      have e4 : b = g' := (Addr.mk.inj (Option.some.inj e1)).1
      subst e4
      refine .inr ⟨b, cap, cur.setIfInBounds i (.string (strOfNums s)), e, hg', ?_, hn, hmx, by rw [Array.size_setIfInBounds]; exact hs, ?_⟩
      · rw [setCell_eq_setRow W b i _ _ _ _ hh, setRow_heap W b _ _ _ _ hh]
      · rw [Array.toList_setIfInBounds, List.take_set, ht]
        unfold strC
        rw [List.map_set]
  · rw [List.getElem?_set_ne (fun h => e h.symm)] at hm
    refine own_heap (h.row k v m hv' hm) (fun k' hk' => hne k' (fun e' => ?_))
    rcases h.apart k j v _ e hv' hv with h0 | h0
    · rw [h0] at hk'; cases hk'
    · exact h0 (hk'.trans (by rw [e']; rfl))
end
def RSetOut (base g : Nat) (vs : List Value) (ok : Bool) (L : List Blk) (w : World) (e : Ending) (w' : World) : Prop := e = .returned (.bool ok) ∧ RD base w' g vs L ∧ KeepT [9] w w' ∧ Below base w w'
section
variable {base : Nat} {w : World} {g : Nat} {vs : List Value} {L : List Blk}
theorem rwrite_bad (h : RD base w g vs L) (i : Int) (xs : List Int) (hi : ¬ ((0 ≤ i ∧ i < L.length) ∧ xs.length = 72)) : Calls Try.prog 51 #[.pointer (some ⟨g, 0, none⟩), .int .i64 i, .string (strOfNums xs)] w (RSetOut base g vs false L w) := by
  have hh := rhas_any h i
  have HT := Lib.hid h
  have hsz : (strOfNums xs).size = xs.length := strOfNums_size xs
  by_cases h1 : 0 ≤ i ∧ i < L.length
  · rw [decide_eq_true h1] at hh
    have h2 : ¬ (xs.length : Int) = 72 := by omega
    clear h hi h1
    go_enter Try.func51, Try.ntmps51
    go_wp2_with (go_at_call 65; refine hh.mono ?_; rintro e w1 ⟨rfl, hb1⟩)
    go_ret
    exact ⟨rfl, RDsk.next HT.out hb1, .of_below _ hb1, hb1.mono (RDsk.le HT.out)⟩
  · rw [decide_eq_false h1] at hh
    clear h hi h1
    go_enter Try.func51, Try.ntmps51
    go_wp2_with (go_at_call 65; refine hh.mono ?_; rintro e w1 ⟨rfl, hb1⟩)
    go_ret
    exact ⟨rfl, RDsk.next HT.out hb1, .of_below _ hb1, hb1.mono (RDsk.le HT.out)⟩
set_option maxRecDepth 100000 in
set_option maxHeartbeats 4000000 in
theorem rwrite_in (h : RD base w g vs L) (i : Nat) (b : Blk) (hbi : L[i]? = some b) (hf : b.Fine) (hm : L.length ≤ 1000) (xs : List Int) (hxl : xs.length = 72) : Calls Try.prog 51 #[.pointer (some ⟨g, 0, none⟩), .int .i64 i, .string (strOfNums xs)] w (RSetOut base g vs true (L.set i { b with f := xs, p := b.now, q := true }) w) := by
  have hh := rhas_any h i
  have hi := (List.getElem?_eq_some_iff.1 hbi).1
  rw [decide_eq_true ⟨by omega, by omega⟩] at hh
  have hsz : (strOfNums xs).size = 72 := (strOfNums_size xs).trans hxl
  have hi1 : (i : Int) < (L.length : Int) := by omega
  have hi2 : ¬ (i : Int) < 0 := by omega
  have hi3 : i ≤ 9223372036854775807 := by omega
  obtain ⟨A1, c1, -, hv1, -, q1⟩ := RD.row h 1 (by omega) frF rfl
  obtain ⟨b1, rfl, -, -⟩ := q1 i b hbi
  obtain ⟨A2, c2, hk2, hv2, -, q2⟩ := RD.row h 2 (by omega) Blk.p rfl
  obtain ⟨b2, rfl, -, -⟩ := q2 i b hbi
  have HT := Lib.hid h
  clear h q1 q2
  go_enter Try.func51, Try.ntmps51
  go_wp2_with (go_at_call 65; refine hh.mono ?_; rintro e w1 ⟨rfl, hb1⟩; have HR1 := Lib.hid (RDsk.next HT.out hb1); have HB1 := Lib.hid (hb1.mono (RDsk.le HT.out)); have k2 := (hb1.cell (p := ⟨g, 2, none⟩) (World.block_lt_of_cell? _ _ hk2)).trans hk2; have HK1 := Lib.hid (KeepT.of_below [9] hb1); clear hb1)
  clear hk2 hh
  refine l_region [] (fun u => u.cell? ⟨g, 2, none⟩ = some (.slice (some ⟨b2, 0, none⟩) L.length c2)) (by kernel_rfl) 10 (by kernel_rfl) (by exact k2) (fun hS => ?_)
  have HRd := Lib.hid (RDsk.next HR1.out (below_drew (Below.refl w1.heap.size w1)))
  have HBd := Lib.hid (below_drew HB1.out)
  have HKd := Lib.hid (HK1.out.next (below_drew (Below.refl w1.heap.size w1)))
  generalize hwd : w1.drew = wd at *
  clear hwd HR1 HB1 k2 HK1
  refine l_take 0 (_) hS rfl rfl (by kernel_rfl) (by kernel_rfl) (by kernel_rfl) (fun _ _ _ h => h) rfl (fun w' hw' => run_move_at _ rfl w') ?_
  simp only [Act.put, List.setIfInBounds_toArray, List.set_cons_zero, List.set_cons_succ]
  refine l_take 1 (.pointer (some ⟨g, 0, none⟩)) hS rfl rfl (by kernel_rfl) (by kernel_rfl) (by kernel_rfl) (fun _ _ _ h => h) rfl (fun w' hw' => by (unfold execOp; simp [go_sem, Act.put, Act.eval])) ?_
  simp only [Act.put, List.setIfInBounds_toArray, List.set_cons_zero, List.set_cons_succ]
  refine l_take 2 (.pointer (some ⟨g, 2, none⟩)) hS rfl rfl (by kernel_rfl) (by kernel_rfl) (by kernel_rfl) (fun _ _ _ h => h) rfl (fun w' hw' => by (unfold execOp; simp [go_sem, Act.put, Act.eval])) ?_
  simp only [Act.put, List.setIfInBounds_toArray, List.set_cons_zero, List.set_cons_succ]
  refine l_take 3 (.slice (some ⟨b2, 0, none⟩) L.length c2) hS rfl rfl (by kernel_rfl) (by kernel_rfl) (by kernel_rfl) (fun _ _ _ h => h) rfl (fun w' hw' => by (have hc0 := hw'; unfold execOp; simp [go_sem, Act.put, Act.eval, hc0])) ?_
  simp only [Act.put, List.setIfInBounds_toArray, List.set_cons_zero, List.set_cons_succ]
  refine l_take 4 (_) hS rfl rfl (by kernel_rfl) (by kernel_rfl) (by kernel_rfl) (fun _ _ _ h => h) rfl (fun w' hw' => run_move_at _ rfl w') ?_
  simp only [Act.put, List.setIfInBounds_toArray, List.set_cons_zero, List.set_cons_succ]
  refine l_take 5 (_) hS rfl rfl (by kernel_rfl) (by kernel_rfl) (by kernel_rfl) (fun _ _ _ h => h) rfl (fun w' hw' => run_move_at _ rfl w') ?_
  simp only [Act.put, List.setIfInBounds_toArray, List.set_cons_zero, List.set_cons_succ]
  refine l_take 6 (_) hS rfl rfl (by kernel_rfl) (by kernel_rfl) (by kernel_rfl) (fun _ _ _ h => h) rfl (fun w' hw' => run_move_at _ rfl w') ?_
  simp only [Act.put, List.setIfInBounds_toArray, List.set_cons_zero, List.set_cons_succ]
  refine l_one 7 rfl (by kernel_rfl) ?_
  refine gl_call rfl 55 _ _ Try.func55 (by kernel_rfl) rfl _ _ #[.pointer (some ⟨g, 0, none⟩), .int .i64 i] rfl (by simp [Act.put, Act.eval]) (rread_in HRd.out i b hbi hf hm) ?_
  rintro e w2 ⟨rfl, hb2⟩
  have HR2 := Lib.hid (RDsk.next HRd.out hb2)
  have HB2 := Lib.hid (HBd.out.trans (hb2.mono (RDsk.le HRd.out)))
  have hS2 := (hb2.cell (p := ⟨g, 2, none⟩) (World.block_lt_of_cell? _ _ hS)).trans hS
  have HK0 := Lib.hid (HKd.out.next hb2)
  refine ⟨_, rfl, hS2, ?_⟩
  simp only [Act.put, List.setIfInBounds_toArray, List.set_cons_zero, List.set_cons_succ]
  clear HRd HBd hb2 HKd
  refine l_take 8 (.pointer (some ⟨b2, i, none⟩)) hS2 rfl rfl (by kernel_rfl) (by kernel_rfl) (by kernel_rfl) (fun _ _ _ h => h) rfl (fun w' hw' => by (have hc0 := hi1; have hc1 := hi2; have hc2 := hi3; unfold execOp; simp [go_sem, Act.put, Act.eval, hc0, hc1, hc2])) ?_
  simp only [Act.put, List.setIfInBounds_toArray, List.set_cons_zero, List.set_cons_succ]
  obtain ⟨m1, m2⟩ := RDsk.cellAt HR2.out hv2 rfl i (by rw [List.length_map]; exact hi)
  obtain ⟨T3, K3, B3⟩ := RDsk.store HR2.out hv2 rfl i (by rw [List.length_map]; exact hi) b.now
  refine l_one 9 rfl (by kernel_rfl) ?_
  refine gl_last (w2.setCell ⟨b2, i, none⟩ (.string (strOfNums b.now))) (by kernel_rfl) rfl (by (obtain ⟨u, hu⟩ := m1; have hc0 := hu; have hc1 := m2; unfold execOp; simp [go_sem, Act.put, Act.eval, hc0, hc1])) ?_
  simp only [Act.put, List.setIfInBounds_toArray, List.set_cons_zero, List.set_cons_succ]
  refine l_done (by kernel_rfl) ?_
  have F3 := Lib.hid (And.intro T3 (And.intro K3 (HB2.out.trans B3)))
  clear T3 K3 B3 m1 m2 hS hS2
  have HK2 := Lib.hid (show KeepT [9] w2 (w2.setCell ⟨b2, i, none⟩ (.string (strOfNums b.now))) from F3.out.2.1)
  generalize hw3 : w2.setCell ⟨b2, i, none⟩ (.string (strOfNums b.now)) = w3 at *
  clear hw3
  simp only [List.set_cons_zero, List.set_cons_succ] at F3
  obtain ⟨n1, n2⟩ := RDsk.cellAt F3.out.1 hv1 rfl i (by rw [List.length_map]; exact hi)
  obtain ⟨u1, n1⟩ := n1
  obtain ⟨T4, K4, B4⟩ := RDsk.store F3.out.1 hv1 rfl i (by rw [List.length_map]; exact hi) xs
  have h1 : w3.cell? ⟨g, 1, none⟩ = some (.slice (some ⟨b1, 0, none⟩) L.length c1) := (cell_of_row w3 g 1 _ _ _ F3.out.1.tab).trans (by simpa using hv1)
  have F4 := Lib.hid (And.intro T4 (And.intro K4 (F3.out.2.2.trans B4)))
  clear T4 K4 B4 HR2 HB2
  go_wp2
  go_ret
  generalize hw4 : w3.setCell ⟨b1, i, none⟩ (.string (strOfNums xs)) = w4 at *
  simp only [List.set_cons_zero, List.set_cons_succ] at F4
  refine ⟨rfl, ?_, (HK0.out.trans HK2.out).trans F4.out.2.1, F4.out.2.2⟩
  have h := F4.out.1
  unfold RD
  rw [List.map_set, List.map_set, List.map_set]
  rw [set_same (show (L.map Blk.d)[i]? = some b.d from by rw [List.getElem?_map, hbi]; rfl)]
  exact h
end
end Go.Proofs.Ytoiiacbbfhlocaa.HDa
