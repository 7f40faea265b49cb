/- Layer 19: a table of locks in the heap; has, New, find. -/
import Derived.Test.YtoiiacbbfhlocaaCom
import Derived.Test.YtoiiacbbfhlocaaChs
import Derived.Test.YtoiiacbbfhlocaaRng
set_option linter.unusedVariables false
set_option linter.unusedSimpArgs false
namespace Go.Proofs.Ytoiiacbbfhlocaa.HLa
open Go.RowKit Go.Proofs.YtoiiacbbfhlocaaW.PrintWords Go.Proofs.YtoiiacbbfhlocaaW.PrintLast Go.Proofs.YtoiiacbbfhlocaaW.PrintMore Go.Proofs.Ytoiiacbbfhlocaa.Kit
def askC (l : List (Int × Bool)) : List Value := l.flatMap fun a => [.int .i64 a.1, .bool a.2]
theorem askC_length : ∀ l : List (Int × Bool), (askC l).length = l.length * 2
  | [] => rfl
  | a :: l => by
    have h := askC_length l
    simp only [askC, List.flatMap_cons, List.length_append, List.length_cons, List.length_nil] at h ⊢
    omega
theorem askC_at : ∀ (l : List (Int × Bool)) (j : Nat) (a : Int × Bool), l[j]? = some a → (askC l)[j * 2]? = some (.int .i64 a.1) ∧ (askC l)[j * 2 + 1]? = some (.bool a.2)
  | b :: l, 0, a, h => by
    simp only [List.getElem?_cons_zero, Option.some.injEq] at h
    subst h
    exact ⟨rfl, rfl⟩
  | b :: l, j + 1, a, h => by
    simp only [List.getElem?_cons_succ] at h
    have ih := askC_at l j a h
    have e : askC (b :: l) = .int .i64 b.1 :: .bool b.2 :: askC l := rfl
    rw [e, show (j + 1) * 2 = j * 2 + 1 + 1 from by omega]
    simpa using ih
  | [], j, a, h => by simp at h
/-- a row of asks that the table owns -/
def AskRow (base : Nat) (W : World) (v : Value) (l : List (Int × Bool)) : Prop := W.ownsRow base 144 2 v l.length (askC l)
theorem AskRow.next {base : Nat} {W W' : World} {v : Value} {l : List (Int × Bool)} (h : AskRow base W v l) (hb : Below W.heap.size W W') : AskRow base W' v l := pw_own_below h hb
/-- its cells -/
theorem AskRow.cells {base : Nat} {W : World} {v : Value} {l : List (Int × Bool)} (h : AskRow base W v l) : ∃ A c, v = .slice A l.length c ∧ l.length ≤ c ∧ (0 < l.length → ∃ b, A = some ⟨b, 0, none⟩ ∧ ∀ j a, l[j]? = some a → W.cell? ⟨b, j * 2, none⟩ = some (.int .i64 a.1) ∧ W.cell? ⟨b, j * 2 + 1, none⟩ = some (.bool a.2)) := by
  have h' := h
  rcases h.2 with ⟨rfl, h0⟩ | ⟨g, cap, cur, rfl, hg, hh, hn, hm, hs, ht⟩
  · exact ⟨none, 0, by rw [h0], by omega, fun hp => by omega⟩
  · refine ⟨_, cap, rfl, hn, fun _ => ⟨g, rfl, fun j a ha => ?_⟩⟩
    obtain ⟨h1, h2⟩ := askC_at l j a ha
    have c1 := World.ownsRow.cells h' (g := g) rfl (j * 2) _ h1
    have c2 := World.ownsRow.cells h' (g := g) rfl (j * 2 + 1) _ h2
    rw [add_plain] at c1 c2
    exact ⟨c1, c2⟩
structure LRows (base : Nat) (W : World) (vs : List Value) (T : List (List (Int × Bool))) : Prop where
  len : vs.length = T.length
  row : ∀ (i : Nat) (v : Value) (l : List (Int × Bool)), vs[i]? = some v → T[i]? = some l → AskRow base W v l
  apart : ∀ (i j : Nat) (v v' : Value), i ≠ j → vs[i]? = some v → vs[j]? = some v' → v.ownBlock = none ∨ v.ownBlock ≠ v'.ownBlock
theorem LRows.next {base : Nat} {W W' : World} {vs : List Value} {T : List (List (Int × Bool))} (h : LRows base W vs T) (hb : Below W.heap.size W W') : LRows base W' vs T := ⟨h.len, fun i v l hv hl => (h.row i v l hv hl).next hb, h.apart⟩
/-- the table at g: its row of rows lies at r -/
structure LTab (base : Nat) (W : World) (g r : Nat) (vs : List Value) (T : List (List (Int × Bool))) : Prop where
  tab : W.heap[g]? = some (.cells #[.slice (some ⟨r, 0, none⟩) T.length T.length] 140 (0, 0))
  rws : W.heap[r]? = some (.cells vs.toArray 141 (0, 0))
  hg : base ≤ g
  hr : base ≤ r
  pos : 0 < T.length
  rows : LRows base W vs T
theorem LTab.next {base : Nat} {W W' : World} {g r : Nat} {vs : List Value} {T : List (List (Int × Bool))} (h : LTab base W g r vs T) (hb : Below W.heap.size W W') : LTab base W' g r vs T :=
  ⟨(hb.block g (Array.getElem?_eq_some_iff.1 h.tab).1).trans h.tab, (hb.block r (Array.getElem?_eq_some_iff.1 h.rws).1).trans h.rws, h.hg, h.hr, h.pos, h.rows.next hb⟩
theorem LTab.drew {base : Nat} {W : World} {g r : Nat} {vs : List Value} {T : List (List (Int × Bool))} (h : LTab base W g r vs T) : LTab base W.drew g r vs T := h.next (Below.drew (Below.refl _ _))
theorem LTab.cell {base : Nat} {W : World} {g r : Nat} {vs : List Value} {T : List (List (Int × Bool))} (h : LTab base W g r vs T) : W.cell? ⟨g, 0, none⟩ = some (.slice (some ⟨r, 0, none⟩) T.length T.length) := by
  rw [cell_of_row W g 0 _ _ _ h.tab]; rfl
theorem LTab.at_ {base : Nat} {W : World} {g r : Nat} {vs : List Value} {T : List (List (Int × Bool))} (h : LTab base W g r vs T) (i : Nat) (l : List (Int × Bool)) (hl : T[i]? = some l) : ∃ v, vs[i]? = some v ∧ W.cell? ⟨r, i, none⟩ = some v ∧ AskRow base W v l := by
  obtain ⟨hi, -⟩ := List.getElem?_eq_some_iff.1 hl
  have hi' : i < vs.length := by rw [h.rows.len]; exact hi
  have hv : vs[i]? = some vs[i] := List.getElem?_eq_getElem hi'
  refine ⟨_, hv, ?_, h.rows.row i _ l hv hl⟩
  rw [cell_of_row W r i _ _ _ h.rws]
  simp
def TellsL (b : Bool) (w : World) (e : Ending) (w' : World) : Prop := e = .returned (.bool b) ∧ Below w.heap.size w w'
def TellsI (x : Int) (w : World) (e : Ending) (w' : World) : Prop := e = .returned (.int .i64 x) ∧ Below w.heap.size w w'
def inT (T : List (List (Int × Bool))) (i : Int) : Bool := decide (0 ≤ i ∧ i < T.length)
theorem has_none (i : Int) (w : World) : Calls Try.prog 92 #[.pointer none, .int .i64 i] w (TellsL false w) := by
  go_enter Try.func92, Try.ntmps92
  go_wp2_with fail
  go_ret
  exact ⟨rfl, Below.refl _ _⟩
set_option maxRecDepth 100000 in
theorem has_any (base g r : Nat) (vs : List Value) (T : List (List (Int × Bool))) (i : Int) (w : World) (h : LTab base w g r vs T) : Calls Try.prog 92 #[.pointer (some ⟨g, 0, none⟩), .int .i64 i] w (TellsL (inT T i) w) := by
  have hc := h.cell
  unfold inT
  by_cases h0 : 0 ≤ i
  · by_cases h1 : i < T.length
    · rw [decide_eq_true ⟨h0, h1⟩]
      go_enter Try.func92, Try.ntmps92
      go_wp2_with fail
      go_ret
      exact ⟨rfl, Below.refl _ _⟩
    · rw [decide_eq_false (fun h => h1 h.2)]
      have h1' : ¬ i < (T.length : Int) := h1
      go_enter Try.func92, Try.ntmps92
      go_wp2_with fail
      go_ret
      exact ⟨rfl, Below.refl _ _⟩
  · rw [decide_eq_false (fun h => h0 h.1)]
    go_enter Try.func92, Try.ntmps92
    go_wp2_with fail
    go_ret
    exact ⟨rfl, Below.refl _ _⟩
end Go.Proofs.Ytoiiacbbfhlocaa.HLa
