/- Layer 3, plain: what the program's rounds come to, byte by byte; the reference's loops. -/
import Derived.Test.YtljmjeaocojnmaaPAb
set_option linter.unusedVariables false
set_option linter.unusedSimpArgs false
namespace Go.Proofs.Ytljmjeaocojnmaa.HAa
open Go.RowKit Go.Proofs.YtljmjeaocojnmaaW.PrintWords Go.Proofs.Ytljmjeaocojnmaa.Kit Go.Proofs.Ytljmjeaocojnmaa.Ra
theorem gset (l : List Int) (i j : Nat) (v : Int) (hi : i < l.length) : (l.set i v).getD j 0 = if j = i then v else l.getD j 0 := by
  simp only [List.getD_eq_getElem?_getD, List.getElem?_set]
  by_cases h : i = j
  · subst h; simp [hi]
  · rw [if_neg h, if_neg (fun e => h e.symm)]
theorem ext_getD (a b : List Int) (n : Nat) (ha : a.length = n) (hb : b.length = n) (h : ∀ j, j < n → a.getD j 0 = b.getD j 0) : a = b := by
  apply List.ext_getElem (by omega)
  intro i h1 h2
  have := h i (by omega)
  simpa [List.getD_eq_getElem?_getD, List.getElem?_eq_getElem h1, List.getElem?_eq_getElem h2] using this
theorem range_getD (f : Nat → Int) (n j : Nat) (h : j < n) : ((List.range n).map f).getD j 0 = f j := by simp [List.getD_eq_getElem?_getD, h]
theorem addN_at (all : List Int) (r : Nat) (xs : List Int) (j : Nat) : ∀ k, k ≤ xs.length → (addN all r xs k).getD j 0 = if j < k then Go.bits .xor .u8 (xs.getD j 0) (all.getD (16 * r + j) 0) else xs.getD j 0
  | 0, _ => by simp [addN]
  | k + 1, h => by
    rw [addN, gset _ _ _ _ (by rw [addN_length]; omega)]
    have ih := addN_at all r xs j k (by omega)
    by_cases hj : j = k
    · subst hj
      rw [if_pos rfl, if_pos (by omega), ih, if_neg (by omega)]
    · rw [if_neg hj, ih]
      by_cases h2 : j < k
      · rw [if_pos h2, if_pos (by omega)]
      · rw [if_neg h2, if_neg (by omega)]
theorem subN_at (box xs : List Int) (j : Nat) : ∀ k, k ≤ xs.length → (subN box xs k).getD j 0 = if j < k then subV box xs j else xs.getD j 0
  | 0, _ => by simp [subN]
  | k + 1, h => by
    rw [subN, gset _ _ _ _ (by rw [subN_length]; omega)]
    by_cases hj : j = k
    · subst hj
      rw [if_pos rfl, if_pos (by omega)]
    · rw [if_neg hj, subN_at box xs j k (by omega)]
      by_cases h2 : j < k
      · rw [if_pos h2, if_pos (by omega)]
      · rw [if_neg h2, if_neg (by omega)]
def nextV (xs : List Int) (o j : Nat) : Int := if j + 1 < o + 4 then xs.getD (j + 1) 0 else xs.getD o 0
theorem mixN_at (xs : List Int) (o j : Nat) (ho : o + 4 ≤ xs.length) : ∀ k, k ≤ 4 → (mixN xs o k).getD j 0 = if o ≤ j ∧ j < o + k then mixV (mixA xs o) (xs.getD j 0) (nextV xs o j) else xs.getD j 0
  | 0, _ => by rw [if_neg (by omega)]; rfl
  | k + 1, h => by
    rw [mixN, gset _ _ _ _ (by rw [mixN_length]; omega)]
    have ih := fun j => mixN_at xs o j ho k (by omega)
    by_cases hj : j = o + k
    · subst hj
      rw [if_pos rfl, if_pos (by omega), ih, if_neg (by omega)]
      congr 1
      unfold mixX nextV
      by_cases h4 : k + 1 < 4
      · rw [if_pos h4, if_pos (by omega), ih, if_neg (by omega)]
        rfl
      · rw [if_neg h4, if_neg (by omega)]
    · rw [if_neg hj, ih]
      by_cases h2 : o ≤ j ∧ j < o + k
      · rw [if_pos h2, if_pos (by omega)]
      · rw [if_neg h2, if_neg (by omega)]
theorem mixA_same (a b : List Int) (o : Nat) (h : ∀ j, o ≤ j → a.getD j 0 = b.getD j 0) : mixA a o = mixA b o := by
  unfold mixA
  rw [h o (by omega), h (o + 1) (by omega), h (o + 2) (by omega), h (o + 3) (by omega)]
theorem mixAll_at (xs : List Int) (h16 : xs.length = 16) (j : Nat) : ∀ n, n ≤ 4 → (mixAll xs n).getD j 0 = if j < 4 * n then mixV (mixA xs (4 * (j / 4))) (xs.getD j 0) (nextV xs (4 * (j / 4)) j) else xs.getD j 0
  | 0, _ => by rw [if_neg (by omega)]; rfl
  | n + 1, h => by
    have ih := fun j => mixAll_at xs h16 j n (by omega)
    rw [mixAll, mixN_at _ _ _ (by rw [mixAll_length, h16]; omega) 4 (by omega)]
    have hA : mixA (mixAll xs n) (4 * n) = mixA xs (4 * n) := mixA_same _ _ _ (fun j hj => by rw [ih, if_neg (by omega)])
    by_cases h2 : 4 * n ≤ j ∧ j < 4 * n + 4
    · rw [if_pos h2, if_pos (by omega), hA, ih, if_neg (by omega), show 4 * (j / 4) = 4 * n from by omega]
      congr 1
      unfold nextV
      by_cases h4 : j + 1 < 4 * n + 4
      · rw [if_pos h4, if_pos h4, ih, if_neg (by omega)]
      · rw [if_neg h4, if_neg h4, ih, if_neg (by omega)]
    · rw [if_neg h2, ih]
      by_cases h3 : j < 4 * n
      · rw [if_pos h3, if_pos (by omega)]
      · rw [if_neg h3, if_neg (by omega)]

/-! the reference's forms -/
def fS (box b : List Int) (i : Nat) : Int := box.getD (b.getD (4 * ((i / 4 + i % 4) % 4) + i % 4) 0).toNat 0
def at4 (s : List Int) (i d : Nat) : Int := s.getD (4 * (i / 4) + (i % 4 + d) % 4) 0
def fM (s : List Int) (i : Nat) : Int := Go.bits .xor .u8 (Go.bits .xor .u8 (Go.bits .xor .u8 (twiceF (at4 s i 0)) (Go.bits .xor .u8 (twiceF (at4 s i 1)) (at4 s i 1))) (at4 s i 2)) (at4 s i 3)
def fA (all b : List Int) (r i : Nat) : Int := Go.bits .xor .u8 (b.getD i 0) (all.getD (16 * r + i) 0)
def mapR (f : Nat → Int) : List Int := (List.range 16).map f
theorem mapR_length (f : Nat → Int) : (mapR f).length = 16 := by simp [mapR]
theorem mapR_at (f : Nat → Int) (j : Nat) (h : j < 16) : (mapR f).getD j 0 = f j := range_getD f 16 j h
theorem add_map (all : List Int) (r : Nat) (xs : List Int) (h : xs.length = 16) : addN all r xs 16 = mapR (fA all xs r) :=
  ext_getD _ _ 16 (by rw [addN_length, h]) (mapR_length _) (fun j hj => by rw [addN_at _ _ _ _ 16 (by omega), if_pos hj, mapR_at _ _ hj]; rfl)
theorem sub_map (box xs : List Int) (h : xs.length = 16) : subN box xs 16 = mapR (fS box xs) :=
  ext_getD _ _ 16 (by rw [subN_length, h]) (mapR_length _) (fun j hj => by
    rw [subN_at _ _ _ 16 (by omega), if_pos hj, mapR_at _ _ hj]
    unfold subV fS
    rw [show (j + j % 4 * 4) % 16 = 4 * ((j / 4 + j % 4) % 4) + j % 4 from by omega])
theorem mix_map (xs : List Int) (h : xs.length = 16) (hb : Bytes xs) : mixAll xs 4 = mapR (fM xs) :=
  ext_getD _ _ 16 (by rw [mixAll_length, h]) (mapR_length _) (fun j hj => by
    rw [mixAll_at _ h _ 4 (by omega), if_pos (by omega), mapR_at _ _ hj]
    have B := fun i => (byte_at hb i : Byte (xs.getD i 0))
    unfold fM at4 nextV mixA
    obtain ⟨c, n, hn, rfl⟩ : ∃ c n, n < 4 ∧ j = 4 * c + n := ⟨j / 4, j % 4, by omega, by omega⟩
    rw [show 4 * ((4 * c + n) / 4) = 4 * c from by omega, show (4 * c + n) % 4 = n from by omega]
    match n, hn with
    | 0, _ =>
      rw [if_pos (by omega)]
      exact mix_eq _ _ _ _ (B _) (B _) (B _) (B _) _ rfl
    | 1, _ =>
      rw [if_pos (by omega)]
      exact mix_eq _ _ _ _ (B _) (B _) (B _) (B _) _ (mixA_turn _ _ _ _ (B _) (B _) (B _) (B _))
    | 2, _ =>
      rw [if_pos (by omega)]
      exact mix_eq _ _ _ _ (B _) (B _) (B _) (B _) _ ((mixA_turn _ _ _ _ (B _) (B _) (B _) (B _)).trans (mixA_turn _ _ _ _ (B _) (B _) (B _) (B _)))
    | 3, _ =>
      rw [if_neg (by omega)]
      exact mix_eq _ _ _ _ (B _) (B _) (B _) (B _) _ (((mixA_turn _ _ _ _ (B _) (B _) (B _) (B _)).trans (mixA_turn _ _ _ _ (B _) (B _) (B _) (B _))).trans (mixA_turn _ _ _ _ (B _) (B _) (B _) (B _))))
end Go.Proofs.Ytljmjeaocojnmaa.HAa
