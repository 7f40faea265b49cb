/- Layer 1, plain: the sum's words are the state behind the blocks. -/
import Derived.Test.YtljmjeaocojnmaaPSd
set_option linter.unusedVariables false
set_option linter.unusedSimpArgs false
namespace Go.Proofs.Ytljmjeaocojnmaa.HSa
open Go.RowKit Go.Proofs.YtljmjeaocojnmaaW.PrintWords Go.Proofs.Ytljmjeaocojnmaa.Kit Go.Proofs.Ytljmjeaocojnmaa.Sa
theorem sumF_len (l : List Int) : (sumF l).length = 32 := outN_length _ 32 (by decide)
/-- the first k bytes of word i as a number -/
def part4 (l : List Int) (i : Nat) : Nat → Int
  | 0 => 0
  | k + 1 => part4 l i k * 256 + l.getD (4 * i + k) 0
def wordsF (l : List Int) (n : Nat) : List Int := (List.range n).map fun i => part4 l i 4
theorem wordsF_succ (l : List Int) (n : Nat) : wordsF l (n + 1) = wordsF l n ++ [part4 l n 4] := by
  unfold wordsF
  rw [List.range_succ, List.map_append]
  rfl
theorem wordsF_length (l : List Int) (n : Nat) : (wordsF l n).length = n := by simp [wordsF]
theorem part4_bd (l : List Int) (hb : Bytes l) (i k : Nat) (hk : k < 4) : 0 ≤ part4 l i k ∧ part4 l i k ≤ 16777215 := by
  have h0 := at_nat hb (4 * i + 0)
  have h1 := at_nat hb (4 * i + 1)
  have h2 := at_nat hb (4 * i + 2)
  match k, hk with
  | 0, _ => simp only [part4]; omega
  | 1, _ => simp only [part4]; omega
  | 2, _ => simp only [part4]; omega
  | 3, _ => simp only [part4]; omega
theorem outN_at (st : List Int) (j : Nat) (hj : j < 32) : (outN st 32).getD j 0 = outB st j := by
  unfold outN
  simp [hj]
theorem part4_out (st : List Int) (hw : ∀ j, W32 (st.getD j 0)) (i : Nat) (hi : i < 8) : part4 (outN st 32) i 4 = st.getD i 0 := by
  simp only [part4]
  rw [outN_at st _ (by omega), outN_at st _ (by omega), outN_at st _ (by omega), outN_at st _ (by omega)]
  unfold outB
  rw [show (4 * i + 0) / 4 = i from by omega, show (4 * i + 1) / 4 = i from by omega, show (4 * i + 2) / 4 = i from by omega, show (4 * i + 3) / 4 = i from by omega]
  rw [show (4 * i + 0) % 4 = 0 from by omega, show (4 * i + 1) % 4 = 1 from by omega, show (4 * i + 2) % 4 = 2 from by omega, show (4 * i + 3) % 4 = 3 from by omega]
  obtain ⟨h0, h1⟩ := hw i
  generalize st.getD i 0 = x at *
  rw [show 24 - 0 * 8 = 24 from rfl, show 24 - 1 * 8 = 16 from rfl, show 24 - 2 * 8 = 8 from rfl, show 24 - 3 * 8 = 0 from rfl, show (2 : Int) ^ 24 = 16777216 from by decide, show (2 : Int) ^ 16 = 65536 from by decide, show (2 : Int) ^ 8 = 256 from by decide, show (2 : Int) ^ 0 = 1 from by decide]
  omega
theorem part4_sum (l : List Int) (i : Nat) (hi : i < 8) : part4 (sumF l) i 4 = (comeN iv (allF l) ((allF l).length / 64)).getD i 0 := by
  rw [← sumF_eq, outR_out _ (comeN_w iv _ iv_w _)]
  exact part4_out _ (comeN_w iv _ iv_w _) i hi
theorem words_sum (l : List Int) : wordsF (sumF l) 8 = comeN iv (allF l) ((allF l).length / 64) := by
  have hl : (comeN iv (allF l) ((allF l).length / 64)).length = 8 := by rw [comeN_length]; rfl
  apply List.ext_getElem
  · rw [wordsF_length, hl]
  · intro i h1 h2
    rw [wordsF_length] at h1
    have h := part4_sum l i h1
    simp only [wordsF, List.getElem_map, List.getElem_range]
    rw [h]
    simp [List.getD, List.getElem?_eq_getElem h2]
theorem sumF_bytes (l : List Int) : Bytes (sumF l) := by
  rw [← sumF_eq, outR_out _ (comeN_w iv _ iv_w _)]
  intro x hx
  obtain ⟨j, hj, rfl⟩ : ∃ j, j < 32 ∧ x = outB (comeN iv (allF l) ((allF l).length / 64)) j := by
    unfold outN at hx
    simp only [List.mem_append, List.mem_map, List.mem_range, List.mem_replicate] at hx
    rcases hx with ⟨j, hj, rfl⟩ | h
    · exact ⟨j, hj, rfl⟩
    · exact absurd h.1 (by decide)
  unfold outB
  exact ⟨by omega, by omega⟩
theorem come_prefix (a b : List Int) : comeN iv (allF (allF a ++ b)) ((allF a).length / 64) = comeN iv (allF a) ((allF a).length / 64) := by
  have h : allF (allF a ++ b) = allF a ++ (b ++ [128] ++ List.replicate (zerosN (allF a ++ b).length) 0 ++ endF (allF a ++ b).length) := by
    generalize allF a = x
    unfold allF
    simp only [List.append_assoc]
  rw [h]
  exact comeN_left _ _ _ _ (by omega)
end Go.Proofs.Ytljmjeaocojnmaa.HSa
