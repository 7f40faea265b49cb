/- Layer 6: the document's Has, Read. -/
import Derived.Test.YtoiiacbbfhlocaaHDf
set_option linter.unusedVariables false
set_option linter.unusedSimpArgs false
namespace Go.Proofs.Ytoiiacbbfhlocaa.HDa
open Go.RowKit Go.Proofs.YtoiiacbbfhlocaaW.PrintWords Go.Proofs.YtoiiacbbfhlocaaW.PrintLast Go.Proofs.YtoiiacbbfhlocaaW.PrintMore Go.Proofs.Ytoiiacbbfhlocaa.Kit
theorem StrR.cells {base : Nat} {W : World} {v : Value} {l : List (List Int)} (h : StrR base W v l) : ∃ A c, v = .slice A l.length c ∧ l.length ≤ c ∧ ∀ i s, l[i]? = some s → ∃ b, A = some ⟨b, 0, none⟩ ∧ base ≤ b ∧ W.cell? ⟨b, i, none⟩ = some (.string (strOfNums s)) := by
  have h' := h
  rcases h.2 with ⟨rfl, h0⟩ | ⟨g, cap, cur, rfl, hg, hh, hn, hm, hs, ht⟩
  · exact ⟨none, 0, by rw [h0], by omega, fun i s hi => by have := (List.getElem?_eq_some_iff.1 hi).1; omega⟩
  · refine ⟨_, cap, rfl, hn, fun i s hi => ⟨g, rfl, hg, ?_⟩⟩
    have c1 := World.ownsRow.cells h' (g := g) rfl i (.string (strOfNums s)) (by unfold strC; rw [List.getElem?_map, hi]; rfl)
    rw [add_plain] at c1
    exact c1
def frF (b : Blk) : List Int := if b.q then b.f else []
/-- the document's disk that says what these blocks say -/
def RD (base : Nat) (W : World) (g : Nat) (vs : List Value) (L : List Blk) : Prop := RDsk base W g vs [L.map Blk.d, L.map frF, L.map Blk.p]
theorem strOf_nil : strOfNums [] = ⟨#[]⟩ := rfl
theorem str_some (xs : List Int) (n : Nat) (h : xs.length = n + 1) : (strOfNums xs).toList.isEmpty = false := by
  rw [ByteArray.toList_eq, strOfNums_data]
  cases xs with
  | nil => cases h
  | cons a l => rfl
section
variable {base : Nat} {W : World} {g : Nat} {vs : List Value} {L : List Blk}
theorem RD.row (h : RD base W g vs L) (j : Nat) (hj : j < 3) (f : Blk → List Int) (hf : ([L.map Blk.d, L.map frF, L.map Blk.p] : List (List (List Int)))[j]? = some (L.map f)) : ∃ A c, W.cell? ⟨g, j, none⟩ = some (.slice A L.length c) ∧ vs[j]? = some (.slice A L.length c) ∧ L.length ≤ c ∧ ∀ i b, L[i]? = some b → ∃ k, A = some ⟨k, 0, none⟩ ∧ base ≤ k ∧ W.cell? ⟨k, i, none⟩ = some (.string (strOfNums (f b))) := by
  obtain ⟨v, hv, hc, hr⟩ := RDsk.at_ h j _ hf
  obtain ⟨A, c, rfl, h1, h2⟩ := hr.cells
  rw [List.length_map] at *
  exact ⟨A, c, hc, hv, h1, fun i b hb => h2 i (f b) (by rw [List.getElem?_map, hb]; rfl)⟩
theorem rhas_any (h : RD base W g vs L) (i : Int) : Calls Try.prog 65 #[.pointer (some ⟨g, 0, none⟩), .int .i64 i] W fun e w' => e = .returned (.bool (decide (0 ≤ i ∧ i < L.length))) ∧ Below W.heap.size W w' := by
  obtain ⟨A, c, h0, -, -, -⟩ := h.row 0 (by omega) Blk.d rfl
  clear h
  by_cases h1 : 0 ≤ i
  · by_cases h2 : i < (L.length : Int)
    · rw [decide_eq_true ⟨h1, h2⟩]
      go_enter Try.func65, Try.ntmps65
      go_wp2_with fail
      go_ret
      exact ⟨rfl, Below.refl _ _⟩
    · rw [decide_eq_false (fun h => h2 h.2)]
      go_enter Try.func65, Try.ntmps65
      go_wp2_with fail
      go_ret
      exact ⟨rfl, Below.refl _ _⟩
  · rw [decide_eq_false (fun h => h1 h.1)]
    go_enter Try.func65, Try.ntmps65
    go_wp2_with fail
    go_ret
    exact ⟨rfl, Below.refl _ _⟩
theorem rread_in (h : RD base W g vs L) (i : Nat) (b : Blk) (hb : L[i]? = some b) (hf : b.Fine) (hm : L.length ≤ 1000) : Calls Try.prog 55 #[.pointer (some ⟨g, 0, none⟩), .int .i64 i] W (TellsS b.now W) := by
  obtain ⟨A0, c0, h0, -, -, k0⟩ := h.row 0 (by omega) Blk.d rfl
  obtain ⟨A1, c1, h1, -, -, k1⟩ := h.row 1 (by omega) frF rfl
  obtain ⟨b0, rfl, -, q0⟩ := k0 i b hb
  obtain ⟨b1, rfl, -, q1⟩ := k1 i b hb
  have hi := (List.getElem?_eq_some_iff.1 hb).1
  have hi1 : (i : Int) < (L.length : Int) := by omega
  have hi2 : ¬ (i : Int) < 0 := by omega
  have hi3 : i ≤ 9223372036854775807 := by omega
  clear k0 k1 h hb
  unfold Blk.now
  unfold frF at q1
  cases hq : b.q with
  | true =>
    rw [hq] at q1
    simp only [if_true] at q1 ⊢
    have hl := str_some b.f 71 hf.lf
    clear hf hq
    go_enter Try.func55, Try.ntmps55
    go_wp2_with fail
    go_ret
    exact ⟨rfl, Below.refl _ _⟩
  | false =>
    rw [hq] at q1
    simp only [Bool.false_eq_true, if_false] at q1 ⊢
    rw [strOf_nil] at q1
    clear hf hq
    go_enter Try.func55, Try.ntmps55
    go_wp2_with fail
    go_ret
    exact ⟨rfl, Below.refl _ _⟩
end
end Go.Proofs.Ytoiiacbbfhlocaa.HDa
