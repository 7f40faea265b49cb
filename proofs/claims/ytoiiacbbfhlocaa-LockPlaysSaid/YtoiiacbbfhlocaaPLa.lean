/- Layer 19: rows of asks and one flat row of them tell the same. -/
import Derived.Test.YtoiiacbbfhlocaaHLk
import Derived.Test.YtoiiacbbfhlocaaHLh
set_option linter.unusedVariables false
set_option linter.unusedSimpArgs false
namespace Go.Proofs.Ytoiiacbbfhlocaa.HLa
/-- a lock's asks -/
def rowOf (L : List RA) (i : Int) : List (Int × Bool) := (L.filter fun a => a.1 == i).map (·.2)
theorem rowOf_append (L M : List RA) (i : Int) : rowOf (L ++ M) i = rowOf L i ++ rowOf M i := by simp [rowOf]
theorem rowOf_one (x : RA) (i : Int) : rowOf [x] i = if x.1 = i then [x.2] else [] := by
  unfold rowOf
  by_cases h : x.1 = i
  · simp [h]
  · have : (x.1 == i) = false := beq_eq_false_iff_ne.2 h
    simp [h, this]
theorem whoF_rowOf (L : List RA) (i : Int) : whoF (rowOf L i) = rowR L i := by simp [whoF, rowOf, rowR, List.map_map]
theorem rowOf_le (L : List RA) (i : Int) : (rowOf L i).length ≤ L.length := by
  unfold rowOf
  rw [List.length_map]
  exact List.length_filter_le _ _
theorem mem_rowOf {L : List RA} {i : Int} {b : Int × Bool} (h : b ∈ rowOf L i) : ∃ a ∈ L, a.1 = i ∧ a.2 = b := by
  obtain ⟨a, ha, rfl⟩ := List.mem_map.1 h
  obtain ⟨h1, h2⟩ := List.mem_filter.1 ha
  exact ⟨a, h1, by simpa using h2, rfl⟩
/-- where a client's ask stands, in both -/
theorem at_split (L : List RA) (i c : Int) : (rAt L i c = -1 ∧ atF (rowOf L i) c = -1) ∨ ∃ A x B, L = A ++ x :: B ∧ x.1 = i ∧ x.2.1 = c ∧ rAt L i c = (A.length : Int) ∧ atF (rowOf L i) c = ((rowOf A i).length : Int) := by
  rcases fI_cases (fun a : RA => a.1 == i && a.2.1 == c) L with ⟨h, hn⟩ | ⟨j, x, hj, hp, h, hn⟩
  · refine .inl ⟨h, fI_miss _ _ _ (fun k b hb => ?_)⟩
    obtain ⟨a, ha, h1, rfl⟩ := mem_rowOf (List.mem_of_getElem? hb)
    have h2 := hn a ha
    simp only [h1, beq_self_eq_true, Bool.true_and] at h2
    exact h2
  · right
    have hjl := (List.getElem?_eq_some_iff.1 hj).1
    have hp' : x.1 = i ∧ x.2.1 = c := by simpa using hp
    have hL : L = L.take j ++ x :: L.drop (j + 1) := by
      have e : L.drop j = x :: L.drop (j + 1) := by
        rw [List.drop_eq_getElem_cons hjl, (List.getElem?_eq_some_iff.1 hj).2]
      rw [← e, List.take_append_drop]
    have htl : (L.take j).length = j := by rw [List.length_take]; omega
    refine ⟨L.take j, x, L.drop (j + 1), hL, hp'.1, hp'.2, by rw [htl]; exact h, ?_⟩
    have hr : rowOf L i = rowOf (L.take j) i ++ x.2 :: rowOf (L.drop (j + 1)) i := by
      conv => lhs; rw [hL]
      rw [show x :: L.drop (j + 1) = [x] ++ L.drop (j + 1) from rfl, rowOf_append, rowOf_append, rowOf_one, if_pos hp'.1]
      rfl
    unfold atF
    rw [fI_hit (fun a : Int × Bool => a.1 == c) (rowOf L i) 0 (rowOf (L.take j) i).length x.2 (by rw [hr]; simp) (by simp [hp'.2]) (fun k b hk hb => ?_)]
    · simp
    · rw [hr, List.getElem?_append_left hk] at hb
      obtain ⟨a, ha, h1, rfl⟩ := mem_rowOf (List.mem_of_getElem? hb)
      obtain ⟨m, hm⟩ := List.mem_iff_getElem?.1 ha
      rw [List.getElem?_take] at hm
      split at hm
      · have := hn m a ‹_› hm
        simp only [h1, beq_self_eq_true, Bool.true_and] at this
        exact this
      · cases hm
theorem any_or (R : List (Int × Bool)) (c : Bool) : (R.any fun b => b.2 || c) = ((R.any fun b => b.2) || (c && !R.isEmpty)) := by
  induction R with
  | nil => simp
  | cons a R ih =>
    simp only [List.any_cons, ih, List.isEmpty_cons, Bool.not_false, Bool.and_true]
    cases a.2 <;> cases c <;> simp
theorem any_bad (A : List RA) (i : Int) (x : RA) : A.any (badA i x) = (rowOf A i).any fun b => b.2 || x.2.2 := by
  induction A with
  | nil => rfl
  | cons a A ih =>
    rw [List.any_cons, ih, show a :: A = [a] ++ A from rfl, rowOf_append, List.any_append, rowOf_one]
    unfold badA
    by_cases h : a.1 = i
    · simp [h]
    · have : (a.1 == i) = false := beq_eq_false_iff_ne.2 h
      simp [h, this]
/-- granted: the same in both -/
theorem gr_same (L : List RA) (i c : Int) : grF (rowOf L i) c = grR L i c := by
  rcases at_split L i c with ⟨h1, h2⟩ | ⟨A, x, B, rfl, hx, hc, h1, h2⟩
  · unfold grF grR
    rw [h1, h2]
    rfl
  · have hrow : rowOf (A ++ x :: B) i = rowOf A i ++ x.2 :: rowOf B i := by
      rw [show A ++ x :: B = A ++ ([x] ++ B) from rfl, rowOf_append, rowOf_append, rowOf_one, if_pos hx]; rfl
    unfold grF grR
    rw [h1, h2, if_neg (show ¬ ((rowOf A i).length : Int) < 0 by omega), if_neg (show ¬ (A.length : Int) < 0 by omega), Int.toNat_natCast, Int.toNat_natCast]
    have e1 : (A ++ x :: B)[A.length]? = some x := by simp
    have e2 : (A ++ x :: B).take A.length = A := by simp
    rw [e1, e2]
    show (if ((rowOf A i).length : Int) = 0 then true else _) = !(A.any (badA i x))
    rw [any_bad, any_or]
    by_cases h0 : rowOf A i = []
    · rw [h0]; simp
    · have hp : 0 < (rowOf A i).length := List.length_pos_iff.2 h0
      rw [if_neg (by omega), hrow]
      have e3 : (rowOf A i ++ x.2 :: rowOf B i).take ((rowOf A i).length + 1) = rowOf A i ++ [x.2] := by
        rw [List.take_append, List.take_of_length_le (by omega), show (rowOf A i).length + 1 - (rowOf A i).length = 1 from by omega]; rfl
      rw [e3, List.any_append]
      have e4 : (rowOf A i).isEmpty = false := by simpa using h0
      rw [e4]
      simp
structure Rel (n : Nat) (T : List (List (Int × Bool))) (L : List RA) : Prop where
  len : T.length = n
  row : ∀ k : Nat, k < n → T[k]? = some (rowOf L k)
  rng : ∀ a ∈ L, 0 ≤ a.1 ∧ a.1 < n ∧ 0 ≤ a.2.1 ∧ a.2.1 < 64
theorem Rel.new (n : Nat) : Rel n (List.replicate n []) [] := ⟨by simp, fun k hk => by rw [List.getElem?_replicate, if_pos hk]; rfl, fun a ha => by cases ha⟩
theorem Rel.free {n : Nat} {T : List (List (Int × Bool))} {L : List RA} (h : Rel n T L) : freeF T = L.isEmpty := by
  unfold freeF
  rw [Bool.eq_iff_iff]
  simp only [List.all_eq_true]
  constructor
  · intro hh
    cases L with
    | nil => rfl
    | cons a L =>
      obtain ⟨h0, h1, -⟩ := h.rng a (List.mem_cons_self ..)
      obtain ⟨k, hk⟩ := Int.eq_ofNat_of_zero_le h0
      have hkn : k < n := by omega
      have hr := h.row k hkn
      have := hh _ (List.mem_of_getElem? hr)
      rw [show a :: L = [a] ++ L from rfl, rowOf_append, rowOf_one, if_pos hk] at this
      simp at this
  · intro he l hl
    have : L = [] := by simpa using he
    subst this
    obtain ⟨k, hk⟩ := List.mem_iff_getElem?.1 hl
    have hkn : k < n := by rw [← h.len]; exact (List.getElem?_eq_some_iff.1 hk).1
    rw [h.row k hkn] at hk
    obtain rfl := Option.some.inj hk
    rfl
/-- out of range no ask is found -/
theorem Rel.out {n : Nat} {T : List (List (Int × Bool))} {L : List RA} (h : Rel n T L) (i c : Int) (hi : ¬ (0 ≤ i ∧ i < n)) : rAt L i c = -1 ∧ rowR L i = [] := by
  refine ⟨fI_miss _ _ _ (fun k b hb => ?_), ?_⟩
  · obtain ⟨h0, h1, -⟩ := h.rng b (List.mem_of_getElem? hb)
    have : (b.1 == i) = false := beq_eq_false_iff_ne.2 (fun e => hi ⟨by omega, by omega⟩)
    simp [this]
  · unfold rowR
    rw [List.filter_eq_nil_iff.2 (fun a ha => ?_)]
    · rfl
    · obtain ⟨h0, h1, -⟩ := h.rng a ha
      have : (a.1 == i) = false := beq_eq_false_iff_ne.2 (fun e => hi ⟨by omega, by omega⟩)
      simp [this]
theorem Rel.snoc {n : Nat} {T : List (List (Int × Bool))} {L : List RA} (h : Rel n T L) (i : Nat) (hi : i < n) (c : Int) (wr : Bool) (h0 : 0 ≤ c) (h1 : c < 64) : Rel n (T.set i (rowOf L i ++ [(c, wr)])) (L ++ [((i : Int), c, wr)]) := by
  refine ⟨by rw [List.length_set]; exact h.len, fun k hk => ?_, fun a ha => ?_⟩
  · rw [rowOf_append, rowOf_one]
    by_cases e : k = i
    · subst e
      rw [List.getElem?_set_self (by rw [h.len]; exact hk), if_pos rfl]
    · rw [List.getElem?_set_ne (fun h => e h.symm), h.row k hk, if_neg (by simp; omega), List.append_nil]
  · rcases List.mem_append.1 ha with ha | ha
    · exact h.rng a ha
    · obtain rfl := List.mem_singleton.1 ha
      exact ⟨by simp, by simpa using hi, h0, h1⟩
theorem Rel.erase {n : Nat} {T : List (List (Int × Bool))} {A : List RA} {x : RA} {B : List RA} (h : Rel n T (A ++ x :: B)) (i : Nat) (hi : i < n) (hx : x.1 = i) : Rel n (T.set i ((rowOf (A ++ x :: B) i).eraseIdx (rowOf A i).length)) ((A ++ x :: B).eraseIdx A.length) := by
  have e0 : (A ++ x :: B).eraseIdx A.length = A ++ B := by
    rw [List.eraseIdx_append_of_length_le (Nat.le_refl _)]; simp
  have hrow : ∀ k : Int, rowOf (A ++ x :: B) k = rowOf A k ++ ((if x.1 = k then [x.2] else []) ++ rowOf B k) := fun k => by
    rw [show A ++ x :: B = A ++ ([x] ++ B) from rfl, rowOf_append, rowOf_append, rowOf_one]
  refine ⟨by rw [List.length_set]; exact h.len, fun k hk => ?_, fun a ha => ?_⟩
  · rw [e0, rowOf_append A B]
    by_cases e : k = i
    · subst e
      rw [List.getElem?_set_self (by rw [h.len]; exact hk), hrow, if_pos hx, List.eraseIdx_append_of_length_le (Nat.le_refl _)]
      simp
    · rw [List.getElem?_set_ne (fun h => e h.symm), h.row k hk, hrow, if_neg (by rw [hx]; omega), List.nil_append]
  · rw [e0] at ha
    exact h.rng a (by
      rcases List.mem_append.1 ha with ha | ha
      · exact List.mem_append_left _ ha
      · exact List.mem_append_right _ (List.mem_cons_of_mem _ ha))
/-- a deed: what it tells, and the asks then -/
def deedF (n : Int) (L : List RA) (drop : Bool) (i c : Int) (wr : Bool) : Int × List RA :=
  if fitsF n i c = false then (1, L) else
  if drop = true then (if rAt L i c < 0 then (2, L) else (0, L.eraseIdx (rAt L i c).toNat)) else (if 0 ≤ rAt L i c then (3, L) else (0, L ++ [(i, c, wr)]))
theorem fits_iff (n : Nat) (i c : Int) : fitsF n i c = true ↔ ((0 ≤ i ∧ i < n) ∧ 0 ≤ c ∧ c < 64) := by
  simp [fitsF, and_assoc]
theorem deedF_len (n : Int) (L : List RA) (drop : Bool) (i c : Int) (wr : Bool) : (deedF n L drop i c wr).2.length ≤ L.length + 1 := by
  unfold deedF
  split
  · show L.length ≤ _; omega
  · split
    · split
      · show L.length ≤ _; omega
      · show (L.eraseIdx _).length ≤ _
        have := List.length_eraseIdx_le (l := L) (i := (rAt L i c).toNat)
        omega
    · split
      · show L.length ≤ _; omega
      · show (L ++ _).length ≤ _
        rw [List.length_append]; exact Nat.le_refl _
end Go.Proofs.Ytoiiacbbfhlocaa.HLa
