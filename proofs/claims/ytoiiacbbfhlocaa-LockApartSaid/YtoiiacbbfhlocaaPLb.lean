/- Layer 19: one lock: what is granted stays, who is granted. -/
import Derived.Test.YtoiiacbbfhlocaaHLh
set_option linter.unusedVariables false
set_option linter.unusedSimpArgs false
namespace Go.Proofs.Ytoiiacbbfhlocaa.HLa
def askA (l : List (Int × Bool)) (c : Int) (b : Bool) : Int × List (Int × Bool) := if okC c = true then (if 0 ≤ atF l c then (3, l) else (0, l ++ [(c, b)])) else (1, l)
def dropA (l : List (Int × Bool)) (c : Int) : List (Int × Bool) := if okC c = true then (if atF l c < 0 then l else l.eraseIdx (atF l c).toNat) else l
theorem askA_le (l : List (Int × Bool)) (c : Int) (b : Bool) : (askA l c b).2.length ≤ l.length + 1 := by
  unfold askA
  split
  · split
    · show l.length ≤ _; omega
    · show (l ++ _).length ≤ _
      rw [List.length_append]; exact Nat.le_refl _
  · show l.length ≤ _; omega
theorem dropA_le (l : List (Int × Bool)) (c : Int) : (dropA l c).length ≤ l.length + 1 := by
  unfold dropA
  split
  · split
    · omega
    · have := List.length_eraseIdx_le (l := l) (i := (atF l c).toNat)
      omega
  · omega
/-- where a client's ask stands -/
theorem at_spec (l : List (Int × Bool)) (c : Int) : (atF l c = -1 ∧ ∀ a ∈ l, a.1 ≠ c) ∨ ∃ (j : Nat) (b : Bool), l[j]? = some (c, b) ∧ atF l c = (j : Int) ∧ ∀ (i : Nat) (a : Int × Bool), i < j → l[i]? = some a → a.1 ≠ c := by
  rcases fI_cases (fun a : Int × Bool => a.1 == c) l with ⟨h, hn⟩ | ⟨j, a, hj, hp, h, hn⟩
  · exact .inl ⟨h, fun a ha => by simpa using hn a ha⟩
  · have hp' : a.1 = c := by simpa using hp
    exact .inr ⟨j, a.2, by rw [hj, ← hp'], h, fun i a' hi ha => by simpa using hn i a' hi ha⟩
theorem at_hit {l : List (Int × Bool)} {c : Int} {j : Nat} {b : Bool} (h : l[j]? = some (c, b)) (hn : ∀ (i : Nat) (a : Int × Bool), i < j → l[i]? = some a → a.1 ≠ c) : atF l c = (j : Int) := by
  unfold atF
  rw [fI_hit (fun a : Int × Bool => a.1 == c) l 0 j (c, b) h (by simp) (fun i a hi ha => by simpa using hn i a hi ha)]
  simp
theorem gr_hit {l : List (Int × Bool)} {c : Int} {j : Nat} (h : atF l c = (j : Int)) : grF l c = (decide (j = 0) || !((l.take (j + 1)).any fun a => a.2)) := by
  unfold grF
  rw [h, if_neg (by omega), Int.toNat_natCast]
  by_cases h0 : j = 0
  · subst h0; simp
  · rw [if_neg (by omega), decide_eq_false h0]; simp
theorem gr_at {l : List (Int × Bool)} {c : Int} (h : grF l c = true) : ∃ (j : Nat) (b : Bool), l[j]? = some (c, b) ∧ atF l c = (j : Int) ∧ (∀ (i : Nat) (a : Int × Bool), i < j → l[i]? = some a → a.1 ≠ c) ∧ (j = 0 ∨ ∀ a ∈ l.take (j + 1), a.2 = false) := by
  rcases at_spec l c with ⟨h1, -⟩ | ⟨j, b, hj, h1, hn⟩
  · unfold grF at h
    rw [h1] at h
    simp at h
  · refine ⟨j, b, hj, h1, hn, ?_⟩
    rw [gr_hit h1] at h
    by_cases h0 : j = 0
    · exact .inl h0
    · right
      rw [decide_eq_false h0] at h
      have h' : ((l.take (j + 1)).any fun a => a.2) = false := by simpa using h
      intro a ha
      have := List.any_eq_false.1 h' a ha
      simpa using this
/-- an ask takes nobody's grant -/
theorem gr_snoc {l : List (Int × Bool)} {c : Int} (x : Int × Bool) (h : grF l c = true) : grF (l ++ [x]) c = true := by
  obtain ⟨j, b, hj, h1, hn, hw⟩ := gr_at h
  have hjl := (List.getElem?_eq_some_iff.1 hj).1
  have h2 : atF (l ++ [x]) c = (j : Int) := at_hit (b := b) (by rw [List.getElem?_append_left hjl]; exact hj) (fun i a hi ha => by
    rw [List.getElem?_append_left (by omega)] at ha
    exact hn i a hi ha)
  rw [gr_hit h2, List.take_append_of_le_length (by omega)]
  rcases hw with h0 | hw
  · subst h0; simp
  · have : ((l.take (j + 1)).any fun a => a.2) = false := List.any_eq_false.2 (fun a ha => by rw [hw a ha]; simp)
    rw [this]; simp
/-- a drop takes nobody else's -/
theorem gr_erase {l : List (Int × Bool)} {c c' : Int} (m : Nat) (hm : atF l c' = (m : Int)) (hne : c ≠ c') (h : grF l c = true) : grF (l.eraseIdx m) c = true := by
  obtain ⟨j, b, hj, h1, hn, hw⟩ := gr_at h
  have hjl := (List.getElem?_eq_some_iff.1 hj).1
  have hjm : j ≠ m := by
    intro e
    subst e
    rcases at_spec l c' with ⟨h2, -⟩ | ⟨j', b', hj', h2, -⟩
    · omega
    · obtain rfl : j' = j := by omega
      rw [hj] at hj'
      exact hne (Prod.mk.inj (Option.some.inj hj')).1
  by_cases hlt : j < m
  · have h2 : atF (l.eraseIdx m) c = (j : Int) := at_hit (b := b) (by rw [List.getElem?_eraseIdx_of_lt hlt]; exact hj) (fun i a hi ha => by
      rw [List.getElem?_eraseIdx_of_lt (by omega)] at ha
      exact hn i a hi ha)
    have ht : (l.eraseIdx m).take (j + 1) = l.take (j + 1) := by
      apply List.ext_getElem?
      intro i
      rw [List.getElem?_take, List.getElem?_take]
      split
      · rw [List.getElem?_eraseIdx_of_lt (by omega)]
      · rfl
    rw [gr_hit h2, ht, ← gr_hit h1]
    exact h
  · have hgt : m < j := by omega
    obtain ⟨i0, rfl⟩ : ∃ i0, j = i0 + 1 := ⟨j - 1, by omega⟩
    have h2 : atF (l.eraseIdx m) c = (i0 : Int) := at_hit (b := b) (by rw [List.getElem?_eraseIdx_of_ge (by omega)]; exact hj) (fun i a hi ha => by
      rw [List.getElem?_eraseIdx] at ha
      split at ha
      · exact hn i a (by omega) ha
      · exact hn (i + 1) a (by omega) ha)
    rw [gr_hit h2]
    rcases hw with h0 | hw
    · omega
    · have : (((l.eraseIdx m).take (i0 + 1)).any fun a => a.2) = false := List.any_eq_false.2 (fun a ha => by
        obtain ⟨i, hi⟩ := List.mem_iff_getElem?.1 ha
        rw [List.getElem?_take] at hi
        split at hi
        · rw [List.getElem?_eraseIdx] at hi
          have key : ∀ q : Nat, q ≤ i0 + 1 → l[q]? = some a → a.2 = false := fun q hq hl => hw a (List.mem_of_getElem? (show (l.take (i0 + 1 + 1))[q]? = some a by rw [List.getElem?_take, if_pos (by omega)]; exact hl))
          split at hi
          · rw [key i (by omega) hi]; simp
          · rw [key (i + 1) (by omega) hi]; simp
        · cases hi)
      rw [this]; simp
/-- what is said of one lock: its asks, and what each is for -/
structure Inv1 (l : List (Int × Bool)) (wr : List Bool) : Prop where
  ok : ∀ a ∈ l, 0 ≤ a.1 ∧ a.1 < 64
  nd : ∀ (i j : Nat) (a b : Int × Bool), i < j → l[i]? = some a → l[j]? = some b → a.1 ≠ b.1
  len : wr.length = 64
  wr_ : ∀ a ∈ l, wr[a.1.toNat]? = some a.2
theorem Inv1.nil {wr : List Bool} (h : wr.length = 64) : Inv1 [] wr := ⟨(fun a ha => by cases ha), (fun i j a b _ h => by simp at h), h, (fun a ha => by cases ha)⟩
theorem Inv1.at_ {l : List (Int × Bool)} {wr : List Bool} (h : Inv1 l wr) (j : Nat) (a : Int × Bool) (ha : l[j]? = some a) : atF l a.1 = (j : Int) := at_hit (b := a.2) ha (fun i a' hi ha' => h.nd i j a' a hi ha' ha)
theorem Inv1.erase {l : List (Int × Bool)} {wr : List Bool} (h : Inv1 l wr) (m : Nat) : Inv1 (l.eraseIdx m) wr := by
  have hsub : ∀ a ∈ l.eraseIdx m, a ∈ l := fun a ha => List.mem_of_mem_eraseIdx ha
  refine ⟨fun a ha => h.ok a (hsub a ha), fun i j a b hij hi hj => ?_, h.len, fun a ha => h.wr_ a (hsub a ha)⟩
  rw [List.getElem?_eraseIdx] at hi hj
  split at hi
  · split at hj
    · exact h.nd i j a b hij hi hj
    · exact h.nd i (j + 1) a b (by omega) hi hj
  · split at hj
    · omega
    · exact h.nd (i + 1) (j + 1) a b (by omega) hi hj
theorem Inv1.drop {l : List (Int × Bool)} {wr : List Bool} (h : Inv1 l wr) (c : Int) : Inv1 (dropA l c) wr := by
  unfold dropA
  split
  · split
    · exact h
    · exact h.erase _
  · exact h
/-- an ask that is taken in -/
theorem Inv1.snoc {l : List (Int × Bool)} {wr : List Bool} (h : Inv1 l wr) (c : Int) (b : Bool) (h0 : 0 ≤ c) (h1 : c < 64) (hat : atF l c < 0) : Inv1 (l ++ [(c, b)]) (wr.set c.toNat b) := by
  have hno : ∀ a ∈ l, a.1 ≠ c := by
    rcases at_spec l c with ⟨-, hn⟩ | ⟨j, b', -, h2, -⟩
    · exact hn
    · omega
  refine ⟨fun a ha => ?_, fun i j a a' hij hi hj => ?_, by rw [List.length_set]; exact h.len, fun a ha => ?_⟩
  · rcases List.mem_append.1 ha with ha | ha
    · exact h.ok a ha
    · obtain rfl := List.mem_singleton.1 ha
      exact ⟨h0, h1⟩
  · have hjl := (List.getElem?_eq_some_iff.1 hj).1
    rw [List.length_append, List.length_singleton] at hjl
    rw [List.getElem?_append_left (by omega)] at hi
    by_cases hj' : j < l.length
    · rw [List.getElem?_append_left hj'] at hj
      exact h.nd i j a a' hij hi hj
    · rw [List.getElem?_append_right (by omega), show j - l.length = 0 from by omega] at hj
      have : (c, b) = a' := by simpa using hj
      rw [← this]
      exact hno a (List.mem_of_getElem? hi)
  · rcases List.mem_append.1 ha with ha | ha
    · rw [List.getElem?_set_ne (fun e => hno a ha (by have := h.ok a ha; omega))]
      exact h.wr_ a ha
    · obtain rfl := List.mem_singleton.1 ha
      show (wr.set c.toNat b)[c.toNat]? = some b
      rw [List.getElem?_set_self (by rw [h.len]; omega)]
/-- what was granted stays so, unless it is dropped itself -/
theorem gr_ask {l : List (Int × Bool)} {c : Int} (c' : Int) (b : Bool) (h : grF l c = true) : grF (askA l c' b).2 c = true := by
  unfold askA
  split
  · split
    · exact h
    · exact gr_snoc _ h
  · exact h
theorem gr_drop {l : List (Int × Bool)} {c : Int} (c' : Int) (h : grF l c = true) (hne : c ≠ c') : grF (dropA l c') c = true := by
  unfold dropA
  split
  · split
    · exact h
    · rename_i h0
      rcases at_spec l c' with ⟨h1, -⟩ | ⟨m, b', -, h1, -⟩
      · omega
      · rw [h1, Int.toNat_natCast]
        exact gr_erase m h1 hne h
  · exact h
/-- the first is granted; if it is to write no other is; if it isn't no granted one is to write -/
theorem gr_first {a : Int × Bool} {l : List (Int × Bool)} : grF (a :: l) a.1 = true := by
  have h : atF (a :: l) a.1 = ((0 : Nat) : Int) := at_hit (b := a.2) rfl (fun i _ hi => absurd hi (Nat.not_lt_zero _))
  rw [gr_hit h]; simp
theorem gr_head {l : List (Int × Bool)} {wr : List Bool} (h : Inv1 l wr) (x : Int × Bool) (hx : l[0]? = some x) (j : Nat) (a : Int × Bool) (ha : l[j]? = some a) :
    (x.2 = true → grF l a.1 = decide (j = 0)) ∧ (x.2 = false → grF l a.1 = true → a.2 = false) := by
  have h1 := h.at_ j a ha
  refine ⟨fun hw => ?_, fun hw hg => ?_⟩
  · rw [gr_hit h1]
    have : ((l.take (j + 1)).any fun a => a.2) = true := List.any_eq_true.2 ⟨x, List.mem_of_getElem? (show (l.take (j + 1))[0]? = some x by rw [List.getElem?_take, if_pos (by omega)]; exact hx), hw⟩
    rw [this]; simp
  · obtain ⟨j', b', hj', h2, -, hw'⟩ := gr_at hg
    obtain rfl : j' = j := by omega
    rcases hw' with h0 | hw'
    · subst h0
      rw [hx] at ha
      obtain rfl := Option.some.inj ha
      exact hw
    · exact hw' a (List.mem_of_getElem? (show (l.take (j' + 1))[j']? = some a by rw [List.getElem?_take, if_pos (by omega)]; exact ha))
end Go.Proofs.Ytoiiacbbfhlocaa.HLa
