/- Layer 13, plain: how many blocks some bytes need. -/
import Derived.Test.YtoiiacbbfhlocaaIw1
import Derived.Test.YtoiiacbbfhlocaaPKa
set_option linter.unusedVariables false
set_option linter.unusedSimpArgs false
namespace Go.Proofs.Ytoiiacbbfhlocaa.HIa
open Go.RowKit Go.Proofs.YtoiiacbbfhlocaaW.PrintWords Go.Proofs.YtoiiacbbfhlocaaW.PrintLast Go.Proofs.YtoiiacbbfhlocaaW.PrintMore Go.Proofs.Ytoiiacbbfhlocaa.Kit Go.Proofs.Ytoiiacbbfhlocaa.Rc Go.Proofs.Ytoiiacbbfhlocaa.Iw Go.Proofs.Ytoiiacbbfhlocaa.HKa
def dataF (B : Int) : Int := if B ≤ 0 then 0 else (B + 63) / 64
theorem data_tells (B : Int) (h0 : -9223372036854775808 ≤ B) (h1 : B < 9223372036854775808) : inode_data.f B = some (dataF B) := by
  unfold inode_data.f dataF
  congr 1
  by_cases h : B ≤ 0
  · rw [if_pos h]
    have e : mn (mx B 0) 1 = 0 := by unfold mx mn; repeat' split
                                     all_goals omega
    rw [e, Int.mul_zero]
    exact wrap_id 0 (by omega) (by omega)
  · rw [if_neg h]
    have e : mn (mx B 0) 1 = 1 := by unfold mx mn; repeat' split
                                     all_goals omega
    rw [e, Int.mul_one, wrap_id (B - 1) (by omega) (by omega), Int.tdiv_eq_ediv_of_nonneg (by omega), wrap_id ((B - 1) / 64) (by omega) (by omega), wrap_id ((B - 1) / 64 + 1) (by omega) (by omega)]
    have e2 : mx 0 ((B - 1) / 64 + 1) = (B + 63) / 64 := by unfold mx; split <;> omega
    rw [e2, wrap_id _ (by omega) (by omega)]
theorem rdata_l0 (B : Int) (hB : B ≤ 200000) : ∀ (k j : Nat), j ≤ 4000 → (B - 64 * j < 64 * k) → padlockref13_Data.l0 (k + 1) B j (64 * j) = some (if B ≤ 64 * j then (j : Int) else (B + 63) / 64)
  | k, j, hj, hk => by
    rw [padlockref13_Data.l0]
    by_cases h : (64 * (j : Int)) < B
    · rw [if_pos h, if_neg (by omega), wrap_id _ (by omega) (by omega), wrap_id _ (by omega) (by omega)]
      obtain ⟨k', rfl⟩ : ∃ k', k = k' + 1 := ⟨k - 1, by omega⟩
      have h' := rdata_l0 B hB k' (j + 1) (by omega) (by omega)
      rw [show (((j + 1 : Nat) : Int)) = (j : Int) + 1 from by omega, show 64 * ((j : Int) + 1) = 64 * (j : Int) + 64 from by omega] at h'
      rw [h']
      congr 1
      split <;> omega
    · rw [if_neg h, if_pos (by omega)]
theorem rdata_tells (B : Int) (hB : B ≤ 200000) (k : Nat) (hk : 4000 ≤ k) : padlockref13_Data.f k B = some (dataF B) := by
  unfold padlockref13_Data.f dataF
  obtain ⟨k', rfl⟩ : ∃ k', k = k' + 1 := ⟨k - 1, by omega⟩
  have h := rdata_l0 B hB k' 0 (by omega) (by omega)
  rw [show ((0 : Nat) : Int) = 0 from rfl, Int.mul_zero] at h
  exact h
theorem need_tells (B : Int) (h0 : -9223372036854775808 ≤ B) (h1 : B ≤ 200000) (k : Nat) (hk : 4000 ≤ k) : ∃ r, inode_Need.f B = some r ∧ padlockref13_Need.f k B = some r ∧ r = if dataF B > 4 then dataF B + 1 else dataF B := by
  unfold inode_Need.f padlockref13_Need.f
  rw [data_tells B h0 (by omega), rdata_tells B h1 k hk]
  simp only [Option.bind_some]
  have hd : dataF B ≤ 4000 ∧ 0 ≤ dataF B := by unfold dataF; split <;> omega
  by_cases h : dataF B > 4
  · rw [if_pos h, wrap_id _ (by omega) (by omega)]
    exact ⟨_, rfl, rfl, by rw [if_pos h]⟩
  · rw [if_neg h]
    exact ⟨_, rfl, rfl, by rw [if_neg h]⟩
end Go.Proofs.Ytoiiacbbfhlocaa.HIa
