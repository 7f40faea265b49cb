/- Layer 4, plain: the reference's nonce is the program's. -/
import Derived.Test.YtljmjeaocojnmaaCb1
import Derived.Test.YtljmjeaocojnmaaHCa
set_option linter.unusedVariables false
set_option linter.unusedSimpArgs false
namespace Go.Proofs.Ytljmjeaocojnmaa.HCa
open Go.RowKit Go.Proofs.YtljmjeaocojnmaaW.PrintWords Go.Proofs.Ytljmjeaocojnmaa.Kit Go.Proofs.Ytljmjeaocojnmaa.Cb
def bigL : Int → Nat → List Int
  | _, 0 => []
  | x, n + 1 => bigL (x / 256) n ++ [x % 256]
theorem bigL_length : ∀ (n : Nat) (x : Int), (bigL x n).length = n
  | 0, _ => rfl
  | n + 1, x => by simp [bigL, bigL_length n]
theorem bigL_bytes : ∀ (n : Nat) (x : Int), Bytes (bigL x n)
  | 0, _ => by intro y hy; simp [bigL] at hy
  | n + 1, x => by
    intro y hy
    rcases List.mem_append.1 hy with h | h
    · exact bigL_bytes n _ y h
    · rw [List.mem_singleton] at h
      omega
theorem big_tells : ∀ (n : Nat) (x : Int) (d : Nat), 0 ≤ x → x < 18446744073709551616 → n ≤ 1000 → padlockref04_Big.f (n + 1 + d) x n = some (bigL x n)
  | 0, x, d, _, _, _ => by
    rw [show 0 + 1 + d = d + 1 from by omega, padlockref04_Big.f, if_pos (by rfl)]
    rfl
  | n + 1, x, d, h0, h1, hn => by
    have hq : Int.tdiv x 256 = x / 256 := Int.tdiv_eq_ediv_of_nonneg h0
    have hr : Int.tmod x 256 = x % 256 := Int.tmod_eq_emod_of_nonneg h0
    have hw : IntKind.u64.wrap (x / 256) = x / 256 := by rw [IntKind.wrap_u64]; omega
    have hm : (x % 256) % 256 = x % 256 := by omega
    have h64 : wrap64 (((n + 1 : Nat) : Int) - 1) = (n : Int) := by unfold wrap64; omega
    have ih := big_tells n (x / 256) d (by omega) (by omega) (by omega)
    rw [show n + 1 + 1 + d = (n + 1 + d) + 1 from by omega, padlockref04_Big.f, if_neg (by omega), hq, hr, hw, h64, ih, hm]
    simp only [Option.bind_some]
    rw [if_pos (by rw [bigL_length]; omega), bigL]
theorem nN_big (f c : Int) (hf : 0 ≤ f ∧ f < 4294967296) (hc : 0 ≤ c ∧ c < 18446744073709551616) : bigL f 4 ++ bigL c 8 = nN f c 12 := by
  obtain ⟨hf0, hf1⟩ := hf
  obtain ⟨hc0, hc1⟩ := hc
  have e : nN f c 12 = [nvF f c 0, nvF f c 1, nvF f c 2, nvF f c 3, nvF f c 4, nvF f c 5, nvF f c 6, nvF f c 7, nvF f c 8, nvF f c 9, nvF f c 10, nvF f c 11] := by unfold nN; rfl
  rw [e]
  simp only [bigL, List.nil_append, List.cons_append, List.append_assoc]
  simp only [List.cons.injEq, and_true]
  refine ⟨?_, ?_, ?_, ?_, ?_, ?_, ?_, ?_, ?_, ?_, ?_, ?_⟩ <;> (unfold nvF; simp; try omega)
theorem big4_low (b : Int) : bigL (b % 18446744073709551616) 4 = bigL (b % 4294967296) 4 := by
  simp only [bigL, List.nil_append, List.cons_append]
  simp only [List.cons.injEq, and_true]
  refine ⟨?_, ?_, ?_, ?_⟩ <;> omega
theorem nonce_tells (b c : Int) (hc : 0 ≤ c ∧ c < 18446744073709551616) : padlockref04_Nonce.f 20 b c = some (nN (b % 4294967296) c 12) := by
  obtain ⟨hc0, hc1⟩ := hc
  have hw : IntKind.u64.wrap b = b % 18446744073709551616 := by rw [IntKind.wrap_u64]
  have h1 := big_tells 4 (b % 18446744073709551616) 15 (by omega) (by omega) (by omega)
  have h2 := big_tells 8 c 11 (by omega) (by omega) (by omega)
  unfold padlockref04_Nonce.f
  rw [hw]
  rw [show ((4 : Nat) : Int) = 4 from rfl] at h1
  rw [show ((8 : Nat) : Int) = 8 from rfl] at h2
  rw [show 4 + 1 + 15 = 20 from rfl] at h1
  rw [show 8 + 1 + 11 = 20 from rfl] at h2
  rw [h1, h2]
  simp only [Option.bind_some]
  rw [if_pos (by rw [bigL_length, bigL_length]; omega), big4_low, nN_big (b % 4294967296) c (by omega) ⟨hc0, hc1⟩]
end Go.Proofs.Ytljmjeaocojnmaa.HCa
