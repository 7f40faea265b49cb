/- padlocklaw12.BitmapTakes, the plain law: the first bit that isn't set is free; once it is set it is counted, and isn't first any more; where none is first all are counted. -/
import Derived.Test.YthnmbeooohgccaaBl3
import Derived.Test.YthnmbeooohgccaaPBt
namespace Go.Proofs.Ythnmbeooohgccaa.Pure
open Go.RowKit Go.Proofs.Ythnmbeooohgccaa.Bl Go.Proofs.YthnmbeooohgccaaW.PrintWords Go.Proofs.YthnmbeooohgccaaW.PrintLast Go.Proofs.Ythnmbeooohgccaa.HBm Go.Proofs.Ythnmbeooohgccaa.Ba Go.Proofs.Ythnmbeooohgccaa.Kit

theorem i64_range {x : Int} (h : (Lit.int .i64 x).wf = true) : -9223372036854775808 ≤ x ∧ x ≤ 9223372036854775807 := by
  simp only [Lit.wf, Bool.and_eq_true, decide_eq_true_eq] at h
  rw [show IntKind.i64.min = -9223372036854775808 from rfl, show IntKind.i64.max = 9223372036854775807 from rfl] at h
  omega
theorem first_some (l : List Int) (lo hi : Int) (hl : l.length ≤ 100) (h1 : -9223372036854775808 ≤ lo ∧ lo ≤ 9223372036854775807) (h2 : -9223372036854775808 ≤ hi ∧ hi ≤ 9223372036854775807) :
    ∃ r, bitmap_First.f l lo hi = some r ∧ HBm.Found (bitmap_First.p l) (max lo 0) (min hi (8 * (l.length : Int))) r := by
  unfold bitmap_First.f
  rw [if_pos ⟨by omega, h1.1, h1.2, h2.1, h2.2⟩]
  exact ⟨_, rfl, look_found _ _ _ _ _ (by omega) (Ahead.refl _ rfl)⟩
theorem count_some (l : List Int) (lo hi : Int) (hl : l.length ≤ 100) (h1 : -9223372036854775808 ≤ lo ∧ lo ≤ 9223372036854775807) (h2 : -9223372036854775808 ≤ hi ∧ hi ≤ 9223372036854775807) :
    bitmap_Count.f l lo hi = some (cnt (getv l) (max lo 0) (min hi (8 * (l.length : Int)) - max lo 0).toNat) := by
  unfold bitmap_Count.f
  rw [if_pos ⟨by omega, h1.1, h1.2, h2.1, h2.2⟩]

theorem BitmapTakes : padlocklaw12_BitmapTakes.Pure := by
  intro l lo hi _ _ hb hlo hhi
  have hb := bytes_of_wf hb
  have hlo := i64_range hlo
  have hhi := i64_range hhi
  obtain ⟨k, hk⟩ : ∃ k : Nat, 8 * l.length < k := ⟨8 * l.length + 1, by omega⟩
  refine ⟨k, ?_⟩
  unfold padlocklaw12_BitmapTakes.f
  by_cases hl : (l.length : Int) > 100
  · rw [if_pos hl]; rfl
  · rw [if_neg hl]
    have hl : l.length ≤ 100 := by omega
    obtain ⟨r, hr, hf⟩ := first_some l lo hi hl hlo hhi
    rw [hr]; simp only [Option.bind_some]
    rcases hf with ⟨rfl, hall⟩ | ⟨hr0, hr1, hp, hbef⟩
    · rw [if_pos (by omega), count_some l lo hi hl hlo hhi]; simp only [Option.bind_some]
      unfold padlocklaw12_many.f
      have hm := many_tells l lo hi hl (8 * l.length) k 0 0 (by omega) (by omega) (by omega) (by omega) (by omega)
      have hc : cnt (getv l) (max lo 0) (min hi (8 * (l.length : Int)) - max lo 0).toNat = (min hi (8 * (l.length : Int)) - max lo 0).toNat := by
        refine cnt_all _ ?_
        intro j h1 h2
        have := hall j h1 (by omega)
        simpa [bitmap_First.p] using this
      rw [hm, hc]
      simp only [Option.bind_some]
      rw [if_pos (by omega)]
      rfl
    · have hr2 : r ≤ 9223372036854775807 := by omega
      have hr3 : r / 8 < (l.length : Int) := by omega
      have hfree : getv l r = false := by simpa [bitmap_First.p] using hp
      rw [if_neg (by omega)]
      have hset : bitmap_Set.f l r true = some (flip l r, 0) := by
        unfold bitmap_Set.f
        rw [if_pos ⟨hr2, by omega⟩, if_neg (by omega)]
        unfold setL
        rw [if_neg (by simp [hfree])]
      rw [hset]; simp only [Option.bind_some]
      obtain ⟨r2, hr2e, hf2⟩ := first_some (flip l r) lo hi (by rw [flip_length]; exact hl) hlo hhi
      rw [hr2e]; simp only [Option.bind_some, if_true]
      rw [get_some l r (by omega) hr2, hfree]; simp only [Option.bind_some]
      rw [if_neg (by simp), get_some (flip l r) r (by omega) hr2]; simp only [Option.bind_some]
      have hnow : getv (flip l r) r = true := by rw [getv_flip hb r r (by omega) hr2 hr3 hr2]; simp [hfree]
      rw [hnow, if_pos rfl, count_some l lo hi hl hlo hhi, count_some (flip l r) lo hi (by rw [flip_length]; exact hl) hlo hhi]; simp only [Option.bind_some]
      have hone : cnt (getv (flip l r)) (max lo 0) (min hi (8 * ((flip l r).length : Int)) - max lo 0).toNat = cnt (getv l) (max lo 0) (min hi (8 * (l.length : Int)) - max lo 0).toNat + 1 := by
        rw [flip_length]
        refine cnt_one r (by omega) hfree hnow _ (by omega) ?_
        intro j h1 h2 h3
        rw [getv_flip hb r j (by omega) hr2 hr3 (by omega), if_neg h3]
      have hrg := cnt_range (getv l) (max lo 0) (min hi (8 * (l.length : Int)) - max lo 0).toNat
      rw [if_pos (by rw [hone]; unfold wrap64; omega)]
      rcases hf2 with ⟨rfl, _⟩ | ⟨h1, h2, h3, h4⟩
      · rw [if_pos rfl]; rfl
      · rw [if_neg (by omega)]
        have hgt : r2 > r := by
          rcases Int.lt_trichotomy r2 r with h | h | h
          · have h5 := hbef r2 h1 h
            simp only [bitmap_First.p] at h5 h3
            rw [getv_flip hb r r2 (by omega) hr2 hr3 (by omega), if_neg (by omega)] at h3
            rw [h3] at h5; cases h5
          · subst h
            simp [bitmap_First.p, hnow] at h3
          · exact h
        rw [if_pos hgt]; rfl
end Go.Proofs.Ythnmbeooohgccaa.Pure
