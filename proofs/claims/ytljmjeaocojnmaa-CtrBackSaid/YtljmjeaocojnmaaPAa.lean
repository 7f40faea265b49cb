/- Layer 3, plain: the box by the kernel, products by 2 and 3, what a round comes to byte by byte. -/
import Derived.Test.YtljmjeaocojnmaaRa2
import Derived.Test.YtljmjeaocojnmaaHAd
set_option linter.unusedVariables false
set_option linter.unusedSimpArgs false
namespace Go.Proofs.Ytljmjeaocojnmaa.HAa
open Go.RowKit Go.Proofs.YtljmjeaocojnmaaW.PrintWords Go.Proofs.Ytljmjeaocojnmaa.Kit Go.Proofs.Ytljmjeaocojnmaa.Ra
set_option maxRecDepth 100000 in
theorem swap_0 : ∀ i : Fin 64, padlockref03_Swap.f 300 i.1 = some (boxT.getD i.1 0) := by decide +kernel
set_option maxRecDepth 100000 in
theorem swap_1 : ∀ i : Fin 64, padlockref03_Swap.f 300 ((64 + i.1 : Nat) : Int) = some (boxT.getD (64 + i.1) 0) := by decide +kernel
set_option maxRecDepth 100000 in
theorem swap_2 : ∀ i : Fin 64, padlockref03_Swap.f 300 ((128 + i.1 : Nat) : Int) = some (boxT.getD (128 + i.1) 0) := by decide +kernel
set_option maxRecDepth 100000 in
theorem swap_3 : ∀ i : Fin 64, padlockref03_Swap.f 300 ((192 + i.1 : Nat) : Int) = some (boxT.getD (192 + i.1) 0) := by decide +kernel
theorem swap_all (i : Nat) (hi : i < 256) : padlockref03_Swap.f 300 i = some (boxT.getD i 0) := by
  by_cases h0 : i < 64
  · exact swap_0 ⟨i, h0⟩
  by_cases h1 : i < 128
  · have h := swap_1 ⟨i - 64, by omega⟩
    simp only [show 64 + (i - 64) = i from by omega] at h
    exact h
  by_cases h2 : i < 192
  · have h := swap_2 ⟨i - 128, by omega⟩
    simp only [show 128 + (i - 128) = i from by omega] at h
    exact h
  · have h := swap_3 ⟨i - 192, by omega⟩
    simp only [show 192 + (i - 192) = i from by omega] at h
    exact h
set_option maxRecDepth 100000 in
theorem mul_fin : ∀ i : Fin 256, padlockref03_Mul.f 10 i.1 2 = some (twiceF i.1) ∧ padlockref03_Mul.f 10 i.1 3 = some (Go.bits .xor .u8 (twiceF i.1) i.1) := by decide +kernel
set_option maxRecDepth 100000 in
theorem twice_fin : ∀ i : Fin 256, twiceF i.1 = ((i.1 <<< 1 ^^^ (i.1 >>> 7) * 283 : Nat) : Int) := by decide +kernel
end Go.Proofs.Ytljmjeaocojnmaa.HAa
