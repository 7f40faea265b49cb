/- Layer 6: what a deed does with both disks. -/
import Derived.Test.YtoiiacbbfhlocaaHDn
import Derived.Test.YtoiiacbbfhlocaaHDi
import Derived.Test.YtoiiacbbfhlocaaRowE
set_option linter.unusedVariables false
set_option linter.unusedSimpArgs false
namespace Go.Proofs.Ytoiiacbbfhlocaa.HDa
open Go.RowKit Go.Proofs.YtoiiacbbfhlocaaW.PrintWords Go.Proofs.YtoiiacbbfhlocaaW.PrintLast Go.Proofs.YtoiiacbbfhlocaaW.PrintMore Go.Proofs.Ytoiiacbbfhlocaa.Kit
/-- both disks say the same -/
structure Both (base : Nat) (w W : World) (g r g' : Nat) (vs : List Value) (n : Nat) (L : List Blk) : Prop where
  t : DTab base W g r L
  d : RD base W g' vs L
  len : L.length = n
  below : Below base w W
/-- the program's disk is one deed ahead -/
structure Half (base : Nat) (w W : World) (g r g' : Nat) (vs : List Value) (n : Nat) (L L' : List Blk) : Prop where
  t : DTab base W g r L'
  d : RD base W g' vs L
  len : L'.length = n
  below : Below base w W
section
variable {base : Nat} {w W W' : World} {g r g' : Nat} {vs : List Value} {n : Nat} {L L' : List Blk}
theorem Both.next (h : Both base w W g r g' vs n L) (hb : Below W.heap.size W W') : Both base w W' g r g' vs n L := ⟨h.t.next hb, RDsk.next h.d hb, h.len, h.below.trans (hb.mono h.t.le)⟩
theorem Both.fine (h : Both base w W g r g' vs n L) (i : Nat) (b : Blk) (hb : L[i]? = some b) : b.Fine := (h.t.blk i b hb).2
theorem Half.next (h : Half base w W g r g' vs n L L') (hb : Below W.heap.size W W') : Half base w W' g r g' vs n L L' := ⟨h.t.next hb, RDsk.next h.d hb, h.len, h.below.trans (hb.mono h.t.le)⟩
theorem Both.half (h : Both base w W g r g' vs n L) (hl : L'.length = L.length) (hT : DTab base W' g r L') (hK : KeepB [r] W W') (hB : Below base W W') : Half base w W' g r g' vs n L L' := ⟨hT, RDsk.keepB h.d h.t hK, hl.trans h.len, h.below.trans hB⟩
theorem RDsk.keepT {ts : List Nat} {T : List (List (List Int))} (h : RDsk base W g' vs T) (hk : KeepT ts W W') (h1 : 156 ∉ ts) (h2 : 9 ∉ ts) : RDsk base W' g' vs T :=
  h.keep ((hk.cells h.tab h1).trans h.tab.symm) (fun k cs hc => (hk.cells hc h2).trans hc.symm)
theorem Half.both (h : Half base w W g r g' vs n L L') (hR : RD base W' g' vs L') (hK : KeepT [9] W W') (hB : Below base W W') : Both base w W' g r g' vs n L' := ⟨h.t.keepT hK (by decide) (by decide), hR, h.len, h.below.trans hB⟩
theorem Half.bump (h : Half base w W g r g' vs n L L') {b : Nat} {cs : Array Value} (hc : W.heap[b]? = some (.cells cs 5 (0, 0))) (hb : base ≤ b) (j : Nat) (v : Value) : Half base w (W.setCell ⟨b, j, none⟩ v) g r g' vs n L L' := by
  have hk := KeepT.setCell hc j v
  exact ⟨h.t.keepT hk (by decide) (by decide), RDsk.keepT h.d hk (by decide) (by decide), h.len, h.below.setCell (p := ⟨b, j, none⟩) hb v⟩
theorem Both.bump (h : Both base w W g r g' vs n L) {b : Nat} {cs : Array Value} {ty : TypeId} (hc : W.heap[b]? = some (.cells cs ty (0, 0))) (hb : base ≤ b) (h1 : 154 ∉ [ty]) (h2 : 164 ∉ [ty]) (h3 : 156 ∉ [ty]) (h4 : 9 ∉ [ty]) (j : Nat) (v : Value) : Both base w (W.setCell ⟨b, j, none⟩ v) g r g' vs n L := by
  have hk := KeepT.setCell hc j v
  exact ⟨h.t.keepT hk h1 h2, RDsk.keepT h.d hk h3 h4, h.len, h.below.setCell (p := ⟨b, j, none⟩) hb v⟩
end
def FineL (L : List Blk) : Prop := ∀ (i : Nat) (b : Blk), L[i]? = some b → b.Fine
theorem both_alter (L : List Blk) (hf : FineL L) (hm : L.length ≤ 1000) (I K x : Int) (hx : 0 ≤ x ∧ x ≤ 255) : ∃ (ok : Bool) (L' : List Blk), L'.length = L.length ∧
    (∀ (base g r : Nat) (W : World), DTab base W g r L → Calls Try.prog 59 #[.pointer (some ⟨g, 0, none⟩), .int .i64 I, .int .i64 K, .int .u8 x] W (ToldOut base g r ok L' W)) ∧
    (∀ (base g : Nat) (vs : List Value) (W : World), RD base W g vs L → Calls Try.prog 60 #[.pointer (some ⟨g, 0, none⟩), .int .i64 I, .int .i64 K, .int .u8 x] W (RSetOut base g vs ok L' W)) := by
  by_cases h : (0 ≤ I ∧ I < L.length) ∧ 0 ≤ K ∧ K < 72 ∧ x ≠ 0
  · obtain ⟨⟨h0, h1⟩, h2, h3, h4⟩ := h
    obtain ⟨i, rfl⟩ := Int.eq_ofNat_of_zero_le h0
    obtain ⟨k, rfl⟩ := Int.eq_ofNat_of_zero_le h2
    have hi : i < L.length := by omega
    have hb := List.getElem?_eq_getElem hi
    exact ⟨true, _, List.length_set .., fun base g r W hW => alter_in hW hm i _ hb k x (by omega) hx h4, fun base g vs W hW => ralter_in hW hm i _ hb (hf i _ hb) k x (by omega) hx h4⟩
  · exact ⟨false, L, rfl, fun base g r W hW => alter_bad hW hm I K x h, fun base g vs W hW => ralter_bad hW I K x h⟩
theorem both_swap (L : List Blk) (hf : FineL L) (hm : L.length ≤ 1000) (I K : Int) : ∃ (ok : Bool) (L' : List Blk), L'.length = L.length ∧
    (∀ (base g r : Nat) (W : World), DTab base W g r L → Calls Try.prog 61 #[.pointer (some ⟨g, 0, none⟩), .int .i64 I, .int .i64 K] W (ToldOut base g r ok L' W)) ∧
    (∀ (base g : Nat) (vs : List Value) (W : World), RD base W g vs L → Calls Try.prog 62 #[.pointer (some ⟨g, 0, none⟩), .int .i64 I, .int .i64 K] W (RSetOut base g vs ok L' W)) := by
  by_cases h : (0 ≤ I ∧ I < L.length) ∧ (0 ≤ K ∧ K < L.length) ∧ I ≠ K
  · obtain ⟨⟨h0, h1⟩, ⟨h2, h3⟩, h4⟩ := h
    obtain ⟨i, rfl⟩ := Int.eq_ofNat_of_zero_le h0
    obtain ⟨k, rfl⟩ := Int.eq_ofNat_of_zero_le h2
    have hi : i < L.length := by omega
    have hk : k < L.length := by omega
    have hb := List.getElem?_eq_getElem hi
    have hc := List.getElem?_eq_getElem hk
    have hne : i ≠ k := fun e => h4 (by rw [e])
    exact ⟨true, _, by rw [List.length_set, List.length_set], fun base g r W hW => swap_in hW hm i k _ _ hb hc hne, fun base g vs W hW => rswap_in hW hm i k _ _ hb hc (hf i _ hb) (hf k _ hc) hne⟩
  · exact ⟨false, L, rfl, fun base g r W hW => swap_bad hW hm I K h, fun base g vs W hW => rswap_bad hW I K h⟩
theorem both_back (L : List Blk) (hf : FineL L) (hm : L.length ≤ 1000) (I : Int) : ∃ (ok : Bool) (L' : List Blk), L'.length = L.length ∧
    (∀ (base g r : Nat) (W : World), DTab base W g r L → Calls Try.prog 63 #[.pointer (some ⟨g, 0, none⟩), .int .i64 I] W (ToldOut base g r ok L' W)) ∧
    (∀ (base g : Nat) (vs : List Value) (W : World), RD base W g vs L → Calls Try.prog 64 #[.pointer (some ⟨g, 0, none⟩), .int .i64 I] W (RSetOut base g vs ok L' W)) := by
  by_cases h : 0 ≤ I ∧ I < L.length
  · obtain ⟨h0, h1⟩ := h
    obtain ⟨i, rfl⟩ := Int.eq_ofNat_of_zero_le h0
    have hi : i < L.length := by omega
    have hb := List.getElem?_eq_getElem hi
    exact ⟨true, _, List.length_set .., fun base g r W hW => back_in hW hm i _ hb, fun base g vs W hW => rback_in hW hm i _ hb (hf i _ hb)⟩
  · exact ⟨false, L, rfl, fun base g r W hW => back_bad hW I h, fun base g vs W hW => rback_bad hW I h⟩
theorem pick_any (c : Int) (h : (Lit.int .i64 c).wf = true) : ∃ p : Nat, p < 7 ∧ ∀ w, Calls Try.prog 57 #[.int .i64 c, .int .i64 7] w (TellsI p w) := by
  obtain ⟨h0, h1⟩ := Go.Proofs.Ytoiiacbbfhlocaa.Com.range64 h
  by_cases hc : c < 0
  · have hw : IntKind.i64.wrap (c + 1) = c + 1 := IntWalk.i64_in _ ⟨by omega, by omega⟩
    have hw2 : IntKind.i64.wrap (-(c + 1)) = -(c + 1) := IntWalk.i64_in _ ⟨by omega, by omega⟩
    obtain ⟨m, hm⟩ := Int.eq_ofNat_of_zero_le (show 0 ≤ -(c + 1) by omega)
    refine ⟨m % 7, Nat.mod_lt _ (by omega), fun w => ?_⟩
    have hn : c = -(m : Int) - 1 := by omega
    go_enter Try.func57, Try.ntmps57
    go_wp2_with fail
    go_ret
    refine ⟨?_, Below.refl _ _⟩
    show Ending.returned (.int .i64 ((m : Int) % 7)) = .returned (.int .i64 ((m % 7 : Nat) : Int))
    rw [show ((m % 7 : Nat) : Int) = (m : Int) % 7 from by omega]
  · obtain ⟨m, rfl⟩ := Int.eq_ofNat_of_zero_le (show 0 ≤ c by omega)
    refine ⟨m % 7, Nat.mod_lt _ (by omega), fun w => ?_⟩
    go_enter Try.func57, Try.ntmps57
    go_wp2_with fail
    go_ret
    refine ⟨?_, Below.refl _ _⟩
    show Ending.returned (.int .i64 ((m : Int) % 7)) = .returned (.int .i64 ((m % 7 : Nat) : Int))
    rw [show ((m % 7 : Nat) : Int) = (m : Int) % 7 from by omega]
end Go.Proofs.Ytoiiacbbfhlocaa.HDa
