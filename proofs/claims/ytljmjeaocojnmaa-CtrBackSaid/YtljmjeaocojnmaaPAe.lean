/- Layer 3, plain: the words of the rounds' keys. -/
import Derived.Test.YtljmjeaocojnmaaPAd
set_option linter.unusedVariables false
set_option linter.unusedSimpArgs false
namespace Go.Proofs.Ytljmjeaocojnmaa.HAa
open Go.RowKit Go.Proofs.YtljmjeaocojnmaaW.PrintWords Go.Proofs.Ytljmjeaocojnmaa.Kit
theorem kI_at (t o : List Int) (i j : Nat) (hi : 16 ≤ 4 * i) (ho : 4 * i + 4 ≤ o.length) : ∀ k, k ≤ 4 → (kI t o i k).getD j 0 = if 4 * i ≤ j ∧ j < 4 * i + k then Go.bits .xor .u8 (o.getD (j - 16) 0) (t.getD (j - 4 * i) 0) else o.getD j 0
  | 0, _ => by rw [if_neg (by omega), kI]
  | k + 1, h => by
    rw [kI, gset _ _ _ _ (by rw [kI_length]; omega)]
    by_cases hj : j = 4 * i + k
    · rw [if_pos hj, if_pos (by omega)]
      have := kI_at t o i (4 * i - 16 + k) hi ho k (by omega)
      rw [this, if_neg (by omega), show 4 * i - 16 + k = j - 16 from by omega, show j - 4 * i = k from by omega]
    · rw [if_neg hj, kI_at t o i j hi ho k (by omega)]
      by_cases h2 : 4 * i ≤ j ∧ j < 4 * i + k
      · rw [if_pos h2, if_pos (by omega)]
      · rw [if_neg h2, if_neg (by omega)]
theorem keyN_keep (key box : List Int) (h16 : key.length = 16) (n j : Nat) (hn : n < 40) (hj : j < 16 + 4 * n) : (keyN key box (n + 1)).getD j 0 = (keyN key box n).getD j 0 := by
  rw [keyN, kI_at _ _ _ _ (by omega) (by rw [keyN_length _ _ h16]; omega) 4 (by omega), if_neg (by omega)]
theorem keyN_same (key box : List Int) (h16 : key.length = 16) (n j : Nat) (hj : j < 16 + 4 * n) : ∀ d, n + d ≤ 40 → (keyN key box (n + d)).getD j 0 = (keyN key box n).getD j 0
  | 0, _ => rfl
  | d + 1, h => (keyN_keep key box h16 (n + d) j (by omega) (by omega)).trans (keyN_same key box h16 n j hj d (by omega))
theorem KS_at (key box : List Int) (h16 : key.length = 16) (n j : Nat) (hn : n ≤ 40) (hj : j < 16 + 4 * n) : (keyN key box 40).getD j 0 = (keyN key box n).getD j 0 := by
  have := keyN_same key box h16 n j hj (40 - n) (by omega)
  rwa [show n + (40 - n) = 40 from by omega] at this
theorem kT_same (box a b : List Int) (i : Nat) (con : Int) (h : ∀ j, j < 4 * i → a.getD j 0 = b.getD j 0) (hi : 4 ≤ i) : kT box a i con = kT box b i con := by
  unfold kT four
  rw [h (4 * i - 4) (by omega), h (4 * i - 4 + 1) (by omega), h (4 * i - 4 + 2) (by omega), h (4 * i - 4 + 3) (by omega)]
theorem KS_word (key box : List Int) (h16 : key.length = 16) (i k : Nat) (hi : 4 ≤ i) (h44 : i < 44) (hk : k < 4) :
    (keyN key box 40).getD (4 * i + k) 0 = Go.bits .xor .u8 ((keyN key box 40).getD (4 * (i - 4) + k) 0) ((kT box (keyN key box 40) i (conN ((i - 1) / 4))).getD k 0) := by
  obtain ⟨n, rfl⟩ : ∃ n, i = n + 4 := ⟨i - 4, by omega⟩
  rw [KS_at key box h16 (n + 1) _ (by omega) (by omega), keyN, kI_at _ _ _ _ (by omega) (by rw [keyN_length _ _ h16]; omega) 4 (by omega), if_pos (by omega)]
  rw [show 4 * (n + 4) + k - 16 = 4 * (n + 4 - 4) + k from by omega, show 4 * (n + 4) + k - 4 * (n + 4) = k from by omega, KS_at key box h16 n (4 * (n + 4 - 4) + k) (by omega) (by omega), show (n + 4 - 1) / 4 = (n + 3) / 4 from by omega]
  rw [kT_same box (keyN key box 40) (keyN key box n) (n + 4) _ (fun j hj => KS_at key box h16 n j (by omega) (by omega)) (by omega)]
theorem KS_key (key box : List Int) (h16 : key.length = 16) (i : Nat) (hi : i < 4) : four (keyN key box 40) (4 * i) = (key.drop (4 * i)).take 4 := by
  rw [four_eq _ _ (by omega)]
  have e : ∀ j, j < 16 → (keyN key box 40).getD j 0 = key.getD j 0 := fun j hj => by
    rw [KS_at key box h16 0 j (by omega) (by omega), keyN]
    simp only [List.getD_eq_getElem?_getD]
    rw [List.getElem?_append_left (by omega)]
  unfold four
  rw [e _ (by omega), e _ (by omega), e _ (by omega), e _ (by omega)]
def Wl (KS : List Int) (i : Nat) : List (List Int) := (List.range i).map fun j => four KS (4 * j)
theorem Wl_length (KS : List Int) (i : Nat) : (Wl KS i).length = i := by simp [Wl]
theorem Wl_succ (KS : List Int) (i : Nat) : Wl KS (i + 1) = Wl KS i ++ [four KS (4 * i)] := by
  unfold Wl
  rw [List.range_succ, List.map_append]
  rfl
theorem Wl_at (KS : List Int) (i j : Nat) (h : j < i) : (Wl KS i).getD j [] = four KS (4 * j) := by simp [Wl, List.getD_eq_getElem?_getD, h]
theorem Wl_words (KS : List Int) : WordsOf KS (Wl KS 44) := ⟨Wl_length _ _, fun j hj => Wl_at _ _ _ hj⟩
/-- the first k bytes of a word -/
def Xl (KS : List Int) (i k : Nat) : List Int := (List.range k).map fun j => KS.getD (4 * i + j) 0
theorem Xl_length (KS : List Int) (i k : Nat) : (Xl KS i k).length = k := by simp [Xl]
theorem Xl_succ (KS : List Int) (i k : Nat) : Xl KS i (k + 1) = Xl KS i k ++ [KS.getD (4 * i + k) 0] := by
  unfold Xl
  rw [List.range_succ, List.map_append]
  rfl
theorem Xl_four (KS : List Int) (i : Nat) : Xl KS i 4 = four KS (4 * i) := rfl
end Go.Proofs.Ytljmjeaocojnmaa.HAa
