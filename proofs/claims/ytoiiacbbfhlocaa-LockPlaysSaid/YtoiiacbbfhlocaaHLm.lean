/- Layer 19: what a deed does, in the program and in the document. -/
import Derived.Test.YtoiiacbbfhlocaaPLa
import Derived.Test.YtoiiacbbfhlocaaHLl
set_option linter.unusedVariables false
set_option linter.unusedSimpArgs false
namespace Go.Proofs.Ytoiiacbbfhlocaa.HLa
open Go.RowKit Go.Proofs.YtoiiacbbfhlocaaW.PrintWords Go.Proofs.YtoiiacbbfhlocaaW.PrintLast Go.Proofs.YtoiiacbbfhlocaaW.PrintMore Go.Proofs.Ytoiiacbbfhlocaa.Kit
/-- both tables -/
structure Two (base : Nat) (W : World) (g r g' : Nat) (n : Nat) (T : List (List (Int × Bool))) (L : List RA) : Prop where
  tab : ∃ vs, LTab base W g r vs T
  ref : ∃ v, RTab base W g' v n L
  rel : Rel n T L
  le : base ≤ W.heap.size
theorem Two.next {base : Nat} {W W' : World} {g r g' n : Nat} {T : List (List (Int × Bool))} {L : List RA} (h : Two base W g r g' n T L) (hb : Below W.heap.size W W') : Two base W' g r g' n T L := by
  obtain ⟨vs, h1⟩ := h.tab
  obtain ⟨v, h2⟩ := h.ref
  exact ⟨⟨vs, h1.next hb⟩, ⟨v, h2.next hb⟩, h.rel, Nat.le_trans h.le hb.size⟩
/-- behind the program's deed: its table is the new one, the document's the old one -/
structure Half (base : Nat) (W : World) (g r g' : Nat) (n : Nat) (T' : List (List (Int × Bool))) (L L' : List RA) : Prop where
  tab : ∃ vs, LTab base W g r vs T'
  ref : ∃ v, RTab base W g' v n L
  rel : Rel n T' L'
  le : base ≤ W.heap.size
def HalfOut (base g r g' n : Nat) (L : List RA) (x : Int × List RA) (w : World) (e : Ending) (w' : World) : Prop := e = .returned (.int .i64 x.1) ∧ (∃ T', Half base w' g r g' n T' L x.2) ∧ KeepT [141, 144] w w' ∧ Below base w w'
def TwoOut (base g r g' n : Nat) (T' : List (List (Int × Bool))) (x : Int × List RA) (w : World) (e : Ending) (w' : World) : Prop := e = .returned (.int .i64 x.1) ∧ Two base w' g r g' n T' x.2 ∧ KeepT [71] w w' ∧ Below base w w'
theorem inT_iff (T : List (List (Int × Bool))) (i : Int) : inT T i = true ↔ (0 ≤ i ∧ i < T.length) := by simp [inT]
theorem okC_iff (c : Int) : okC c = true ↔ (0 ≤ c ∧ c < 64) := by simp [okC]
theorem halfOf {base g r g' n : Nat} {T T' : List (List (Int × Bool))} {L L' : List RA} {code : Int} {w : World} {e : Ending} {w' : World} (h : Two base w g r g' n T L) (hr : Rel n T' L') (ho : SetOut base g r T' code w e w') : HalfOut base g r g' n L (code, L') w e w' := by
  obtain ⟨he, ht, hk, hb⟩ := ho
  obtain ⟨v, h2⟩ := h.ref
  exact ⟨he, ⟨T', ht, ⟨v, h2.keepT hk (by decide) (by decide)⟩, hr, Nat.le_trans h.le hb.size⟩, hk, hb⟩
theorem twoOf {base g r g' n : Nat} {T' : List (List (Int × Bool))} {L L' : List RA} {code : Int} {w : World} {e : Ending} {w' : World} (h : Half base w g r g' n T' L L') (ho : RSetOut base g' n L' code w e w') : TwoOut base g r g' n T' (code, L') w e w' := by
  obtain ⟨he, ht, hk, hb⟩ := ho
  obtain ⟨vs, h1⟩ := h.tab
  exact ⟨he, ⟨⟨vs, h1.keepT hk (by decide) (by decide) (by decide)⟩, ht, h.rel, Nat.le_trans h.le hb.size⟩, hk, hb⟩
section
variable {base g r g' n : Nat} {T : List (List (Int × Bool))} {L : List RA} {i c : Int} {wr : Bool} {w : World}
theorem bad_of (hr : Rel n T L) (hf : fitsF n i c = false) : inT T i = false ∨ okC c = false := by
  cases h1 : inT T i with
  | false => exact .inl rfl
  | true =>
    cases h2 : okC c with
    | false => exact .inr rfl
    | true =>
      have h3 := (inT_iff T i).1 h1
      have h4 := (okC_iff c).1 h2
      rw [hr.len] at h3
      rw [(fits_iff n i c).2 ⟨h3, h4⟩] at hf
      cases hf
theorem at_neg (hr : rAt L i c = -1 ∧ atF (rowOf L i) c = -1 ∨ ∃ A x B, L = A ++ x :: B ∧ x.1 = i ∧ x.2.1 = c ∧ rAt L i c = (A.length : Int) ∧ atF (rowOf L i) c = ((rowOf A i).length : Int)) (h : rAt L i c < 0) : atF (rowOf L i) c < 0 := by
  rcases hr with ⟨h1, h2⟩ | ⟨A, x, B, -, -, -, h1, h2⟩
  · omega
  · omega
theorem p_ask (h : Two base w g r g' n T L) (hm : L.length ≤ 100000) (hn : n ≤ 1000) : Calls Try.prog 39 #[.pointer (some ⟨g, 0, none⟩), .int .i64 i, .int .i64 c, .bool wr] w (HalfOut base g r g' n L (deedF n L false i c wr) w) := by
  obtain ⟨vs, ht⟩ := h.tab
  unfold deedF
  by_cases hf : fitsF n i c = false
  · rw [if_pos hf]
    exact (ask_bad base g r vs T i c wr w ht (bad_of h.rel hf)).mono fun e w' ho => halfOf h h.rel ho
  · have hf' : fitsF n i c = true := by simpa using hf
    obtain ⟨⟨i0, i1⟩, c0, c1⟩ := (fits_iff n i c).1 hf'
    obtain ⟨k, rfl⟩ := Int.eq_ofNat_of_zero_le i0
    have hk : k < n := by omega
    have hrow := h.rel.row k hk
    have hle := rowOf_le L k
    rw [if_neg hf, if_neg (by decide)]
    have hs := at_split L k c
    by_cases h0 : 0 ≤ rAt L k c
    · rw [if_pos h0]
      have ha : 0 ≤ atF (rowOf L k) c := by
        rcases hs with ⟨h1, h2⟩ | ⟨A, x, B, -, -, -, h1, h2⟩
        · omega
        · omega
      exact (ask_old base g r vs T k _ c wr w ht hrow (by omega) (by omega) ((okC_iff c).2 ⟨c0, c1⟩) ha).mono fun e w' ho => halfOf h h.rel ho
    · rw [if_neg h0]
      exact (ask_new base g r vs T k _ c wr w ht hrow (by omega) (by omega) ((okC_iff c).2 ⟨c0, c1⟩) (at_neg hs (by omega))).mono fun e w' ho => halfOf h (h.rel.snoc k hk c wr c0 c1) ho
theorem p_drop (h : Two base w g r g' n T L) (hm : L.length ≤ 100000) (hn : n ≤ 1000) : Calls Try.prog 37 #[.pointer (some ⟨g, 0, none⟩), .int .i64 i, .int .i64 c] w (HalfOut base g r g' n L (deedF n L true i c wr) w) := by
  obtain ⟨vs, ht⟩ := h.tab
  unfold deedF
  by_cases hf : fitsF n i c = false
  · rw [if_pos hf]
    exact (drop_bad base g r vs T i c w ht (bad_of h.rel hf)).mono fun e w' ho => halfOf h h.rel ho
  · have hf' : fitsF n i c = true := by simpa using hf
    obtain ⟨⟨i0, i1⟩, c0, c1⟩ := (fits_iff n i c).1 hf'
    obtain ⟨k, rfl⟩ := Int.eq_ofNat_of_zero_le i0
    have hk : k < n := by omega
    have hrow := h.rel.row k hk
    have hle := rowOf_le L k
    rw [if_neg hf, if_pos rfl]
    have hs := at_split L k c
    by_cases h0 : rAt L k c < 0
    · rw [if_pos h0]
      exact (drop_old base g r vs T k _ c w ht hrow (by omega) (by omega) ((okC_iff c).2 ⟨c0, c1⟩) (at_neg hs h0)).mono fun e w' ho => halfOf h h.rel ho
    · rw [if_neg h0]
      rcases hs with ⟨h1, -⟩ | ⟨A, x, B, rfl, hx, -, h1, h2⟩
      · omega
      · rw [h1, Int.toNat_natCast]
        refine (drop_new base g r vs T k _ c w ht hrow (by omega) (by omega) ((okC_iff c).2 ⟨c0, c1⟩) _ h2 ?_).mono fun e w' ho => halfOf h (h.rel.erase k hk hx) ho
        rw [show A ++ x :: B = A ++ ([x] ++ B) from rfl, rowOf_append, rowOf_append, rowOf_one, if_pos hx]
        simp
theorem r_ask {T' : List (List (Int × Bool))} (h : Half base w g r g' n T' L (deedF n L false i c wr).2) (hm : L.length ≤ 100000) : Calls Try.prog 40 #[.pointer (some ⟨g', 0, none⟩), .int .i64 i, .int .i64 c, .bool wr] w (TwoOut base g r g' n T' (deedF n L false i c wr) w) := by
  obtain ⟨v, hr⟩ := h.ref
  unfold deedF at h ⊢
  by_cases hf : fitsF n i c = false
  · rw [if_pos hf] at h ⊢
    exact (rask_bad base g' v n L i c wr w hr hf).mono fun e w' ho => twoOf h ho
  · have hf' : fitsF n i c = true := by simpa using hf
    rw [if_neg hf, if_neg (by decide)] at h ⊢
    by_cases h0 : 0 ≤ rAt L i c
    · rw [if_pos h0] at h ⊢
      exact (rask_old base g' v n L i c wr w hr (by omega) hf' h0).mono fun e w' ho => twoOf h ho
    · rw [if_neg h0] at h ⊢
      exact (rask_new base g' v n L i c wr w hr (by omega) hf' (by omega)).mono fun e w' ho => twoOf h ho
theorem r_drop {T' : List (List (Int × Bool))} (h : Half base w g r g' n T' L (deedF n L true i c wr).2) (hm : L.length ≤ 100000) : Calls Try.prog 38 #[.pointer (some ⟨g', 0, none⟩), .int .i64 i, .int .i64 c] w (TwoOut base g r g' n T' (deedF n L true i c wr) w) := by
  obtain ⟨v, hr⟩ := h.ref
  unfold deedF at h ⊢
  by_cases hf : fitsF n i c = false
  · rw [if_pos hf] at h ⊢
    exact (rdrop_bad base g' v n L i c w hr hf).mono fun e w' ho => twoOf h ho
  · have hf' : fitsF n i c = true := by simpa using hf
    rw [if_neg hf, if_pos rfl] at h ⊢
    by_cases h0 : rAt L i c < 0
    · rw [if_pos h0] at h ⊢
      exact (rdrop_none base g' v n L i c w hr (by omega) hf' h0).mono fun e w' ho => twoOf h ho
    · rw [if_neg h0] at h ⊢
      rcases rAt_cases L i c with h1 | ⟨j, x, h1, hj⟩
      · omega
      · rw [h1, Int.toNat_natCast] at h ⊢
        exact (rdrop_at base g' v n L i c w hr (by omega) hf' j h1 (List.getElem?_eq_some_iff.1 hj).1).mono fun e w' ho => twoOf h ho
theorem p_free (h : Two base w g r g' n T L) (hn : n ≤ 1000) : Calls Try.prog 41 #[.pointer (some ⟨g, 0, none⟩)] w (TellsL ((L.length : Int) == 0) w) := by
  obtain ⟨vs, ht⟩ := h.tab
  have e : freeF T = ((L.length : Int) == 0) := by
    rw [h.rel.free]
    cases L with
    | nil => rfl
    | cons a L => simp; omega
  rw [← e]
  exact free_any base g r vs T w ht (by rw [h.rel.len]; omega)
theorem p_granted (h : Two base w g r g' n T L) (hm : L.length ≤ 100000) (hn : n ≤ 1000) : Calls Try.prog 42 #[.pointer (some ⟨g, 0, none⟩), .int .i64 i, .int .i64 c] w (TellsL (grR L i c) w) := by
  obtain ⟨vs, ht⟩ := h.tab
  by_cases hi : 0 ≤ i ∧ i < n
  · obtain ⟨k, rfl⟩ := Int.eq_ofNat_of_zero_le hi.1
    have hk : k < n := by omega
    have hrow := h.rel.row k hk
    have hle := rowOf_le L k
    rw [← gr_same]
    exact granted_in base g r vs T k _ c w ht hrow (by omega) (by omega)
  · have e : grR L i c = false := by
      unfold grR
      rw [(h.rel.out i c hi).1]
      rfl
    rw [e]
    refine granted_out base g r vs T i c w ht ?_
    cases h1 : inT T i with
    | false => rfl
    | true =>
      have h3 := (inT_iff T i).1 h1
      rw [h.rel.len] at h3
      exact absurd h3 hi
theorem p_row (h : Two base w g r g' n T L) (hm : L.length ≤ 100000) (hn : n ≤ 1000) : Calls Try.prog 44 #[.pointer (some ⟨g, 0, none⟩), .int .i64 i] w (GivesI (rowR L i) w) := by
  obtain ⟨vs, ht⟩ := h.tab
  by_cases hi : 0 ≤ i ∧ i < n
  · obtain ⟨k, rfl⟩ := Int.eq_ofNat_of_zero_le hi.1
    have hk : k < n := by omega
    have hrow := h.rel.row k hk
    have hle := rowOf_le L k
    rw [← whoF_rowOf]
    exact row_in base g r vs T k _ w ht hrow (by omega) (by omega)
  · rw [(h.rel.out i 0 hi).2]
    refine row_out base g r vs T i w ht ?_
    cases h1 : inT T i with
    | false => rfl
    | true =>
      have h3 := (inT_iff T i).1 h1
      rw [h.rel.len] at h3
      exact absurd h3 hi
theorem r_granted (h : Two base w g r g' n T L) (hm : L.length ≤ 100000) : Calls Try.prog 43 #[.pointer (some ⟨g', 0, none⟩), .int .i64 i, .int .i64 c] w (TellsL (grR L i c) w) := by
  obtain ⟨v, hr⟩ := h.ref
  exact rgranted_any base g' v n L i c w hr (by omega)
theorem r_row (h : Two base w g r g' n T L) (hm : L.length ≤ 100000) : Calls Try.prog 46 #[.pointer (some ⟨g', 0, none⟩), .int .i64 i] w (GivesI (rowR L i) w) := by
  obtain ⟨v, hr⟩ := h.ref
  exact rrow_any base g' v n L i w hr (by omega)
end
end Go.Proofs.Ytoiiacbbfhlocaa.HLa
