/- Layer 1, plain: filling up, and the whole sum. -/
import Derived.Test.YtljmjeaocojnmaaPSc
import Derived.Test.YtljmjeaocojnmaaHSd
set_option linter.unusedVariables false
set_option linter.unusedSimpArgs false
namespace Go.Proofs.Ytljmjeaocojnmaa.HSa
open Go.RowKit Go.Proofs.YtljmjeaocojnmaaW.PrintWords Go.Proofs.Ytljmjeaocojnmaa.Kit Go.Proofs.Ytljmjeaocojnmaa.Sa

def zerosN (n : Nat) : Nat := (119 - n % 64) % 64
def endF (n : Nat) : List Int := (List.range 8).map (lenB n)
def allF (l : List Int) : List Int := l ++ [128] ++ List.replicate (zerosN l.length) 0 ++ endF l.length
theorem endF_length (n : Nat) : (endF n).length = 8 := rfl
theorem allF_length (l : List Int) : (allF l).length = l.length + 1 + zerosN l.length + 8 := by simp [allF, endF_length]; omega
theorem allF_mul (l : List Int) : (allF l).length % 64 = 0 := by rw [allF_length, zerosN]; omega
theorem fill_byte (x3 : List Int) (N : Int) (x5 : List Int) (j k : Nat) (hj : j < 8) (hN : 0 ≤ N ∧ N < 1000000000) (h5 : x5.length ≤ 8) :
    padlockref01_Filled.l1 (k + 1) x3 N x5 j = padlockref01_Filled.l1 k x3 (N / 256) (N % 256 :: x5) ((j + 1 : Nat) : Int) := by
  simp only [padlockref01_Filled.l1]
  rw [if_pos (by omega)]
  simp only [Option.bind_some]
  rw [if_pos (by simp; omega), Int.tmod_eq_emod_of_nonneg hN.1, Int.tdiv_eq_ediv_of_nonneg hN.1, show wrap64 ((j : Int) + 1) = ((j + 1 : Nat) : Int) from by unfold wrap64; omega, show N % 256 % 256 = N % 256 from by omega, show IntKind.u64.wrap (N / 256) = N / 256 from by rw [IntKind.wrap_u64]; omega]
  rfl
theorem fill_end (x3 : List Int) (n k : Nat) (hn : n ≤ 1000000) (h3 : x3.length ≤ 2000000) : padlockref01_Filled.l1 (k + 9) x3 ((n * 8 : Nat) : Int) [] 0 = some (x3 ++ endF n) := by
  obtain ⟨N, hN⟩ : ∃ N : Int, N = ((n * 8 : Nat) : Int) := ⟨_, rfl⟩
  have h0 : 0 ≤ N ∧ N < 1000000000 := by omega
  rw [← hN]
  refine (fill_byte x3 N [] 0 (k + 8) (by decide) h0 (by decide)).trans ?_
  have h1 : 0 ≤ N / 256 ∧ N / 256 < 1000000000 := by omega
  refine (fill_byte x3 _ _ 1 (k + 7) (by decide) h1 (by simp)).trans ?_
  generalize e1 : N / 256 = N1 at *
  have h2 : 0 ≤ N1 / 256 ∧ N1 / 256 < 1000000000 := by omega
  refine (fill_byte x3 _ _ 2 (k + 6) (by decide) h2 (by simp)).trans ?_
  generalize e2 : N1 / 256 = N2 at *
  have h3' : 0 ≤ N2 / 256 ∧ N2 / 256 < 1000000000 := by omega
  refine (fill_byte x3 _ _ 3 (k + 5) (by decide) h3' (by simp)).trans ?_
  generalize e3 : N2 / 256 = N3 at *
  have h4 : 0 ≤ N3 / 256 ∧ N3 / 256 < 1000000000 := by omega
  refine (fill_byte x3 _ _ 4 (k + 4) (by decide) h4 (by simp)).trans ?_
  generalize e4 : N3 / 256 = N4 at *
  have h5 : 0 ≤ N4 / 256 ∧ N4 / 256 < 1000000000 := by omega
  refine (fill_byte x3 _ _ 5 (k + 3) (by decide) h5 (by simp)).trans ?_
  generalize e5 : N4 / 256 = N5 at *
  have h6 : 0 ≤ N5 / 256 ∧ N5 / 256 < 1000000000 := by omega
  refine (fill_byte x3 _ _ 6 (k + 2) (by decide) h6 (by simp)).trans ?_
  generalize e6 : N5 / 256 = N6 at *
  have h7 : 0 ≤ N6 / 256 ∧ N6 / 256 < 1000000000 := by omega
  refine (fill_byte x3 _ _ 7 (k + 1) (by decide) h7 (by simp)).trans ?_
  generalize e7 : N6 / 256 = N7 at *
  simp only [padlockref01_Filled.l1]
  rw [if_neg (by omega), if_pos (by simp; omega)]
  have q : endF n = [N7 % 256, N6 % 256, N5 % 256, N4 % 256, N3 % 256, N2 % 256, N1 % 256, N % 256] := by
    have hN' : (n : Int) * 8 = N := by omega
    unfold endF
    rw [show List.range 8 = [0, 1, 2, 3, 4, 5, 6, 7] from rfl]
    simp only [List.map_cons, List.map_nil, lenB, hN']
    rw [show (2 : Int) ^ (56 - 8 * 0) = 72057594037927936 from by decide, show (2 : Int) ^ (56 - 8 * 1) = 281474976710656 from by decide, show (2 : Int) ^ (56 - 8 * 2) = 1099511627776 from by decide, show (2 : Int) ^ (56 - 8 * 3) = 4294967296 from by decide, show (2 : Int) ^ (56 - 8 * 4) = 16777216 from by decide, show (2 : Int) ^ (56 - 8 * 5) = 65536 from by decide, show (2 : Int) ^ (56 - 8 * 6) = 256 from by decide, show (2 : Int) ^ (56 - 8 * 7) = 1 from by decide]
    rw [show N / 72057594037927936 = N7 from by omega, show N / 281474976710656 = N6 from by omega, show N / 1099511627776 = N5 from by omega, show N / 4294967296 = N4 from by omega, show N / 16777216 = N3 from by omega, show N / 65536 = N2 from by omega, e1, show N / 1 = N from by omega]
  rw [q]
theorem fill_zeros (l : List Int) (hl : l.length ≤ 1000000) : ∀ d j k, j + d = zerosN l.length → padlockref01_Filled.l0 (k + 10 + d) l (l ++ [128] ++ List.replicate j 0) = some (allF l)
  | 0, j, k, hj => by
    have e := fill_end (l ++ [128] ++ List.replicate j 0) l.length k hl (by simp; unfold zerosN at hj; omega)
    have hz : zerosN l.length = j := by omega
    unfold allF
    rw [hz, ← e]
    generalize hK : k + 9 = K
    rw [show k + 10 + 0 = K + 1 from by omega]
    simp only [padlockref01_Filled.l0]
    rw [if_pos (by simp; unfold zerosN at hz; omega), show IntKind.u64.wrap (IntKind.u64.wrap (l.length : Int) * 8) = ((l.length * 8 : Nat) : Int) from by rw [IntKind.wrap_u64, IntKind.wrap_u64]; omega]
  | d + 1, j, k, hj => by
    have ih := fill_zeros l hl d (j + 1) k (by omega)
    rw [← ih]
    generalize hK : k + 10 + d = K
    rw [show k + 10 + (d + 1) = K + 1 from by omega]
    simp only [padlockref01_Filled.l0]
    rw [if_neg (by simp; unfold zerosN at hj; omega), if_pos (by simp; unfold zerosN at hj; omega), List.append_assoc _ _ [0], List.append_assoc _ _ [0] |>.symm]
    rw [List.append_assoc, ← List.replicate_succ']
theorem filled_tells (l : List Int) (hl : l.length ≤ 1000000) (k : Nat) : padlockref01_Filled.f (k + 418) l = some (allF l) := by
  have h := fill_zeros l hl (zerosN l.length) 0 (k + 408 - zerosN l.length) (by omega)
  have hz : zerosN l.length < 64 := by unfold zerosN; omega
  rw [show k + 408 - zerosN l.length + 10 + zerosN l.length = k + 418 from by omega] at h
  unfold padlockref01_Filled.f
  simp only [Option.bind_some]
  rw [if_pos (by simp; omega), if_pos (by simp; omega)]
  simpa using h
theorem allF_split (l : List Int) : allF l = l.take (64 * (l.length / 64)) ++ tailF l := by
  unfold allF tailF zerosN endF
  conv => lhs; rw [← List.take_append_drop (64 * (l.length / 64)) l]
  simp only [List.append_assoc, List.length_append, List.length_take, List.length_drop]
  rw [show min (64 * (l.length / 64)) l.length + (l.length - 64 * (l.length / 64)) = l.length from by omega]
theorem comeN_left (s a b : List Int) : ∀ n, 64 * n ≤ a.length → comeN s (a ++ b) n = comeN s a n
  | 0, _ => rfl
  | n + 1, h => by
    show comeF (comeN s (a ++ b) n) _ = comeF (comeN s a n) _
    rw [comeN_left s a b n (by omega), List.drop_append_of_le_length (by omega), List.take_append_of_le_length (by rw [List.length_drop]; omega)]
theorem comeN_append (s a b : List Int) (q : Nat) (ha : a.length = 64 * q) : ∀ n, comeN s (a ++ b) (q + n) = comeN (comeN s a q) b n
  | 0 => comeN_left s a b q (by omega)
  | n + 1 => by
    show comeF (comeN s (a ++ b) (q + n)) (((a ++ b).drop (64 * (q + n))).take 64) = comeF (comeN (comeN s a q) b n) _
    rw [comeN_append s a b q ha n, show 64 * (q + n) = a.length + 64 * n from by omega, List.drop_append]
    rw [List.drop_eq_nil_of_le (by omega), List.nil_append, show a.length + 64 * n - a.length = 64 * n from by omega]
theorem comeN_all (s l : List Int) : comeN s (allF l) ((allF l).length / 64) = comeN (comeN s l (l.length / 64)) (tailF l) ((tailF l).length / 64) := by
  have ht : (l.take (64 * (l.length / 64))).length = 64 * (l.length / 64) := by rw [List.length_take]; omega
  have hlen : (allF l).length / 64 = l.length / 64 + (tailF l).length / 64 := by
    have := allF_split l
    have h2 := congrArg List.length this
    rw [List.length_append, ht] at h2
    omega
  rw [hlen]
  conv => lhs; rw [allF_split l]
  rw [comeN_append s _ (tailF l) (l.length / 64) ht]
  congr 1
  have h := comeN_left s (l.take (64 * (l.length / 64))) (l.drop (64 * (l.length / 64))) (l.length / 64) (by omega)
  rw [List.take_append_drop] at h
  exact h.symm
theorem comeN_w (s l : List Int) (hs : ∀ j, W32 (s.getD j 0)) : ∀ n j, W32 ((comeN s l n).getD j 0)
  | 0, j => hs j
  | n + 1, j => comeF_w _ _ (comeN_w s l hs n) j
theorem iv_w : ∀ j, W32 (iv.getD j 0)
  | 0 => ⟨by decide, by decide⟩
  | 1 => ⟨by decide, by decide⟩
  | 2 => ⟨by decide, by decide⟩
  | 3 => ⟨by decide, by decide⟩
  | 4 => ⟨by decide, by decide⟩
  | 5 => ⟨by decide, by decide⟩
  | 6 => ⟨by decide, by decide⟩
  | 7 => ⟨by decide, by decide⟩
  | n + 8 => ⟨by simp [iv], by simp [iv]⟩
theorem out_bytes (x : Int) (hx : W32 x) : bytes4 x = [x / 16777216 % 256, x / 65536 % 256, x / 256 % 256, x % 256] := by
  unfold bytes4
  simp only [IntKind.wrap_u8, IntKind.wrap_u32]
  rw [Int.tdiv_eq_ediv_of_nonneg hx.1, Int.tdiv_eq_ediv_of_nonneg hx.1, Int.tdiv_eq_ediv_of_nonneg hx.1]
  have h0 := hx.1
  have h1 := hx.2
  rw [show x / 16777216 % 4294967296 % 256 = x / 16777216 % 256 from by omega, show x / 65536 % 4294967296 % 256 = x / 65536 % 256 from by omega, show x / 256 % 4294967296 % 256 = x / 256 % 256 from by omega]
theorem outR_map (st : List Int) (hw : ∀ j, W32 (st.getD j 0)) : ∀ n, outR st n = (List.range (4 * n)).map (outB st)
  | 0 => rfl
  | n + 1 => by
    rw [outR_succ, outR_map st hw n, out_bytes _ (hw n)]
    rw [show 4 * (n + 1) = 4 * n + 1 + 1 + 1 + 1 from by omega]
    simp only [List.range_succ, List.map_append, List.map_cons, List.map_nil, List.append_assoc]
    congr 1
    unfold outB
    rw [show 4 * n / 4 = n from by omega, show (4 * n + 1) / 4 = n from by omega, show (4 * n + 1 + 1) / 4 = n from by omega, show (4 * n + 1 + 1 + 1) / 4 = n from by omega]
    rw [show 4 * n % 4 = 0 from by omega, show (4 * n + 1) % 4 = 1 from by omega, show (4 * n + 1 + 1) % 4 = 2 from by omega, show (4 * n + 1 + 1 + 1) % 4 = 3 from by omega]
    simp
theorem outR_out (st : List Int) (hw : ∀ j, W32 (st.getD j 0)) : outR st 8 = outN st 32 := by
  rw [outR_map st hw]
  simp [outN]
theorem bytes_all (l : List Int) (hb : Bytes l) : Bytes (allF l) := by
  intro x hx
  unfold allF at hx
  simp only [List.mem_append, List.mem_singleton, List.mem_replicate] at hx
  rcases hx with ((h | h) | h) | h
  · exact hb x h
  · subst h; decide
  · rw [h.2]; decide
  · unfold endF at h
    obtain ⟨j, _, rfl⟩ := List.mem_map.mp h
    unfold lenB
    exact ⟨by omega, by omega⟩
theorem bytes_part (l : List Int) (hb : Bytes l) (a n : Nat) : Bytes ((l.drop a).take n) := fun x hx => hb x (List.mem_of_mem_drop (List.mem_of_mem_take hx))
theorem steps_tell (l : List Int) (hb : Bytes l) (hl : l.length ≤ 100000) (k : Nat) : Steps32 (k + 418) (allF l) iv consts (fun j => comeN iv (allF l) j) where
  zero := rfl
  step := fun j hj => by
    have hm := allF_mul l
    exact come_tells _ _ (by rw [comeN_length]; rfl) (comeN_w iv _ iv_w j) (by rw [List.length_take, List.length_drop]; omega) (bytes_part _ (bytes_all l hb) _ _) k
  len := fun j => by rw [comeN_length]; rfl
  mul := allF_mul l
  small := by rw [allF_length]; unfold zerosN; omega
theorem sumF_eq (l : List Int) : outR (comeN iv (allF l) ((allF l).length / 64)) 8 = sumF l := by
  rw [outR_out _ (comeN_w iv _ iv_w _), comeN_all]
  rfl
end Go.Proofs.Ytljmjeaocojnmaa.HSa
