/- Layer 19: a table of one lock. -/
import Derived.Test.YtoiiacbbfhlocaaPLb
import Derived.Test.YtoiiacbbfhlocaaHLl
set_option linter.unusedVariables false
set_option linter.unusedSimpArgs false
namespace Go.Proofs.Ytoiiacbbfhlocaa.HLa
open Go.RowKit Go.Proofs.YtoiiacbbfhlocaaW.PrintWords Go.Proofs.YtoiiacbbfhlocaaW.PrintLast Go.Proofs.YtoiiacbbfhlocaaW.PrintMore Go.Proofs.Ytoiiacbbfhlocaa.Kit
structure One (base : Nat) (W : World) (g r : Nat) (l : List (Int × Bool)) : Prop where
  tab : ∃ vs, LTab base W g r vs [l]
  le : base ≤ W.heap.size
theorem One.next {base : Nat} {W W' : World} {g r : Nat} {l : List (Int × Bool)} (h : One base W g r l) (hb : Below W.heap.size W W') : One base W' g r l := by
  obtain ⟨vs, h1⟩ := h.tab
  exact ⟨⟨vs, h1.next hb⟩, Nat.le_trans h.le hb.size⟩
theorem One.keepT {ts : List Nat} {base : Nat} {W W' : World} {g r : Nat} {l : List (Int × Bool)} (h : One base W g r l) (hk : KeepT ts W W') (h1 : 140 ∉ ts) (h2 : 141 ∉ ts) (h3 : 144 ∉ ts) : One base W' g r l := by
  obtain ⟨vs, ht⟩ := h.tab
  exact ⟨⟨vs, ht.keepT hk h1 h2 h3⟩, Nat.le_trans h.le hk.size⟩
/-- what is told, the asks then, and what else is as it was -/
def OneOut (base g r : Nat) (code : Int) (l : List (Int × Bool)) (w : World) (e : Ending) (w' : World) : Prop := e = .returned (.int .i64 code) ∧ One base w' g r l ∧ KeepT [141, 144] w w' ∧ Below base w w'
theorem oneOf {base g r : Nat} {l0 l : List (Int × Bool)} {code : Int} {w : World} {e : Ending} {w' : World} (h : One base w g r l0) (ho : SetOut base g r [l] code w e w') : OneOut base g r code l w e w' :=
  ⟨ho.1, ⟨ho.2.1, Nat.le_trans h.le ho.2.2.1.size⟩, ho.2.2⟩
def dropC (l : List (Int × Bool)) (c : Int) : Int := if okC c = true then (if atF l c < 0 then 2 else 0) else 1
section
variable {base g r : Nat} {l : List (Int × Bool)} {c : Int} {b : Bool} {w : World}
theorem in_one (l : List (Int × Bool)) : ([l] : List (List (Int × Bool)))[0]? = some l := rfl
theorem o_ask (h : One base w g r l) (hm : l.length ≤ 100000) : Calls Try.prog 39 #[.pointer (some ⟨g, 0, none⟩), .int .i64 0, .int .i64 c, .bool b] w (OneOut base g r (askA l c b).1 (askA l c b).2 w) := by
  obtain ⟨vs, ht⟩ := h.tab
  unfold askA
  by_cases hc : okC c = true
  · rw [if_pos hc]
    by_cases ha : 0 ≤ atF l c
    · rw [if_pos ha]
      exact (ask_old base g r vs [l] 0 l c b w ht rfl (by omega) (by omega) hc ha).mono fun e w' ho => oneOf h ho
    · rw [if_neg ha]
      exact (ask_new base g r vs [l] 0 l c b w ht rfl (by omega) (by omega) hc (by omega)).mono fun e w' ho => oneOf h ho
  · rw [if_neg hc]
    exact (ask_bad base g r vs [l] 0 c b w ht (.inr (by simpa using hc))).mono fun e w' ho => oneOf h ho
theorem o_drop (h : One base w g r l) (hm : l.length ≤ 100000) : Calls Try.prog 37 #[.pointer (some ⟨g, 0, none⟩), .int .i64 0, .int .i64 c] w (OneOut base g r (dropC l c) (dropA l c) w) := by
  obtain ⟨vs, ht⟩ := h.tab
  unfold dropA dropC
  by_cases hc : okC c = true
  · rw [if_pos hc, if_pos hc]
    by_cases ha : atF l c < 0
    · rw [if_pos ha, if_pos ha]
      exact (drop_old base g r vs [l] 0 l c w ht rfl (by omega) (by omega) hc ha).mono fun e w' ho => oneOf h ho
    · rw [if_neg ha, if_neg ha]
      rcases atF_cases l c with h1 | ⟨j, h1, hj⟩
      · omega
      · rw [h1, Int.toNat_natCast]
        exact (drop_new base g r vs [l] 0 l c w ht rfl (by omega) (by omega) hc j h1 hj).mono fun e w' ho => oneOf h ho
  · rw [if_neg hc, if_neg hc]
    exact (drop_bad base g r vs [l] 0 c w ht (.inr (by simpa using hc))).mono fun e w' ho => oneOf h ho
theorem o_granted (h : One base w g r l) (hm : l.length ≤ 100000) : Calls Try.prog 42 #[.pointer (some ⟨g, 0, none⟩), .int .i64 0, .int .i64 c] w (TellsL (grF l c) w) := by
  obtain ⟨vs, ht⟩ := h.tab
  exact granted_in base g r vs [l] 0 l c w ht rfl (by omega) (by omega)
theorem o_row (h : One base w g r l) (hm : l.length ≤ 100000) : Calls Try.prog 44 #[.pointer (some ⟨g, 0, none⟩), .int .i64 0] w (GivesI (whoF l) w) := by
  obtain ⟨vs, ht⟩ := h.tab
  exact row_in base g r vs [l] 0 l w ht rfl (by omega) (by omega)
theorem o_free (h : One base w g r l) : Calls Try.prog 41 #[.pointer (some ⟨g, 0, none⟩)] w (TellsL l.isEmpty w) := by
  obtain ⟨vs, ht⟩ := h.tab
  have e : freeF [l] = l.isEmpty := by simp [freeF]
  rw [← e]
  exact free_any base g r vs [l] w ht (by show 1 ≤ _; omega)
end
/-- a row of numbers that is kept -/
theorem R_keepT {ts : List Nat} {w w' : World} {b : Nat} {v : Value} {xs : List Int} (h : Kd.R (Kd.int .i64) 3 w b (fun _ => True) v xs) (hk : KeepT ts w w') (ht : 3 ∉ ts) : Kd.R (Kd.int .i64) 3 w' b (fun _ => True) v xs :=
  Kd.R_of_own (hk.own (Kd.own_of_R h) ht) (fun _ _ => trivial)
/-- the bits of what is to write, in the heap -/
def WRow (W : World) (gw : Nat) (wr : List Bool) : Prop := W.heap[gw]? = some (.cells (wr.map Value.bool).toArray 4 (0, 0))
theorem WRow.next {W W' : World} {gw : Nat} {wr : List Bool} (h : WRow W gw wr) (hb : Below W.heap.size W W') : WRow W' gw wr := (hb.block gw (Array.getElem?_eq_some_iff.1 h).1).trans h
theorem WRow.keepT {ts : List Nat} {W W' : World} {gw : Nat} {wr : List Bool} (h : WRow W gw wr) (hk : KeepT ts W W') (ht : 4 ∉ ts) : WRow W' gw wr := hk.cells h ht
theorem WRow.cell {W : World} {gw : Nat} {wr : List Bool} (h : WRow W gw wr) (i : Nat) (b : Bool) (hb : wr[i]? = some b) : W.cell? ⟨gw, i, none⟩ = some (.bool b) := by
  rw [cell_of_row W gw i _ _ _ h]
  simp [hb]
theorem WRow.set {W : World} {gw : Nat} {wr : List Bool} (h : WRow W gw wr) (i : Nat) (b : Bool) : WRow (W.setCell ⟨gw, i, none⟩ (.bool b)) gw (wr.set i b) ∧ KeepT [4] W (W.setCell ⟨gw, i, none⟩ (.bool b)) := by
  refine ⟨?_, KeepT.setCell h i _⟩
  have := blk_set h i (.bool b)
  unfold WRow
  rw [this]
  simp [List.map_set]
end Go.Proofs.Ytoiiacbbfhlocaa.HLa
