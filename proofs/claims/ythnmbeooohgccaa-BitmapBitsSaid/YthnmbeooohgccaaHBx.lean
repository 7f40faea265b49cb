/- padlocklaw12.BitmapBits: the walk, from the plain lemmas. -/
import Derived.Test.YthnmbeooohgccaaHBw
import Derived.Test.YthnmbeooohgccaaPBb
set_option linter.unusedVariables false
namespace Go.Proofs.Ythnmbeooohgccaa.HBm
open Go.RowKit Go.Proofs.YthnmbeooohgccaaW.PrintWords Go.Proofs.YthnmbeooohgccaaW.PrintLast Go.Proofs.Ythnmbeooohgccaa.Ba Go.Proofs.Ythnmbeooohgccaa.Kit

theorem i64_range {x : Int} (h : (Lit.int .i64 x).wf = true) : -9223372036854775808 ≤ x ∧ x ≤ 9223372036854775807 := by
  simp only [Lit.wf, Bool.and_eq_true, decide_eq_true_eq] at h
  rw [show IntKind.i64.min = -9223372036854775808 from rfl, show IntKind.i64.max = 9223372036854775807 from rfl] at h
  omega
attribute [local irreducible] padlockref12_Count.l0 padlockref12_First.l0
def inside (bl : List Bool) (lo hi j : Int) : Bool := rdOf false bl j && decide (lo ≤ j) && decide (j < hi)
theorem count_loop (bl : List Bool) (lo hi : Int) (hl : bl.length ≤ 8000) : ∀ (d k : Nat) (n i : Int), 0 ≤ i → (bl.length : Int) - i = d → 0 ≤ n → n ≤ i → d < k →
    padlockref12_Count.l0 k bl lo hi n i = some (n + cnt (fun j => inside bl lo hi ((bl.length : Int) - 1 - j)) 0 d)
  | d, 0, n, i, _, _, _, _, hk => by omega
  | 0, k + 1, n, i, h0, hd, hn, hn2, hk => by
    simp only [padlockref12_Count.l0]
    rw [if_neg (by omega)]
    simp [cnt]
  | d + 1, k + 1, n, i, h0, hd, hn, hn2, hk => by
    simp only [padlockref12_Count.l0]
    have w1 : wrap64 (i + 1) = i + 1 := by unfold wrap64; omega
    have w2 : wrap64 (n + 1) = n + 1 := by unfold wrap64; omega
    have e : (bl.length : Int) - 1 - (0 + (d : Int)) = i := by omega
    rw [if_pos (by omega), if_pos h0, w1, w2]
    unfold cnt
    simp only [e]
    by_cases hb : rdOf false bl i = true
    · rw [if_pos hb]
      by_cases h1 : i ≥ lo
      · rw [if_pos h1]
        by_cases h2 : i < hi
        · have : inside bl lo hi i = true := by simp [inside, hb, h1, h2]
          rw [if_pos h2, count_loop bl lo hi hl d k (n + 1) (i + 1) (by omega) (by omega) (by omega) (by omega) (by omega), this]
          simp
          omega
        · have : inside bl lo hi i = false := by simp [inside, hb, h2]
          rw [if_neg h2, count_loop bl lo hi hl d k n (i + 1) (by omega) (by omega) (by omega) (by omega) (by omega), this]
          simp
      · have : inside bl lo hi i = false := by simp [inside, h1]
        rw [if_neg h1, count_loop bl lo hi hl d k n (i + 1) (by omega) (by omega) (by omega) (by omega) (by omega), this]
        simp
    · have : inside bl lo hi i = false := by simp [inside, hb]
      rw [if_neg hb, count_loop bl lo hi hl d k n (i + 1) (by omega) (by omega) (by omega) (by omega) (by omega), this]
      simp
theorem first_loop (bl : List Bool) (p : Int → Bool) (hp : ∀ j, 0 ≤ j → j < (bl.length : Int) → p j = !rdOf false bl j) (lo hi : Int) (hl : bl.length ≤ 8000) : ∀ (d k : Nat) (i : Int), 0 ≤ i → (bl.length : Int) - i = d → d < k →
    (∀ j, max lo 0 ≤ j → j < min i hi → p j = false) → ∃ r, padlockref12_First.l0 k bl lo hi i = some r ∧ Found p (max lo 0) (min hi (bl.length : Int)) r
  | d, 0, i, _, _, hk, _ => by omega
  | 0, k + 1, i, h0, hd, hk, ha => by
    simp only [padlockref12_First.l0]
    rw [if_neg (by omega)]
    exact ⟨-1, rfl, .inl ⟨rfl, fun j h1 h2 => ha j h1 (by omega)⟩⟩
  | d + 1, k + 1, i, h0, hd, hk, ha => by
    simp only [padlockref12_First.l0]
    have w1 : wrap64 (i + 1) = i + 1 := by unfold wrap64; omega
    have hpi := hp i h0 (by omega)
    rw [if_pos (by omega), if_pos h0, w1]
    have next (hn : p i = false ∨ ¬ (lo ≤ i ∧ i < hi)) : ∃ r, padlockref12_First.l0 k bl lo hi (i + 1) = some r ∧ Found p (max lo 0) (min hi (bl.length : Int)) r := by
      refine first_loop bl p hp lo hi hl d k (i + 1) (by omega) (by omega) (by omega) (fun j h1 h2 => ?_)
      by_cases e : j = i
      · subst e
        rcases hn with hn | hn
        · exact hn
        · omega
      · exact ha j h1 (by omega)
    by_cases hb : rdOf false bl i = true
    · rw [if_pos hb]
      exact next (.inl (by rw [hpi, hb]; rfl))
    · rw [if_neg hb]
      by_cases h1 : i ≥ lo
      · rw [if_pos h1]
        by_cases h2 : i < hi
        · rw [if_pos h2]
          exact ⟨i, rfl, .inr ⟨by omega, by omega, by rw [hpi]; simpa using hb, fun j h3 h4 => ha j h3 (by omega)⟩⟩
        · rw [if_neg h2]
          exact next (.inr (by omega))
      · rw [if_neg h1]
        exact next (.inr (by omega))

/-! the count is that of the bits between -/
theorem cnt_none {p : Int → Bool} {lo : Int} : ∀ n : Nat, (∀ j, lo ≤ j → j < lo + n → p j = false) → cnt p lo n = 0
  | 0, _ => rfl
  | n + 1, h => by
    unfold cnt
    rw [cnt_none n (fun j h1 h2 => h j h1 (by omega)), h (lo + n) (by omega) (by omega)]
    simp
theorem cnt_succ (p : Int → Bool) (lo : Int) (n : Nat) : cnt p lo (n + 1) = cnt p lo n + if p (lo + n) then 1 else 0 := rfl
theorem cnt_add (p : Int → Bool) (lo : Int) (a : Nat) : ∀ b : Nat, cnt p lo (a + b) = cnt p lo a + cnt p (lo + a) b
  | 0 => by simp [cnt]
  | b + 1 => by
    rw [← Nat.add_assoc, cnt_succ, cnt_succ, cnt_add p lo a b, show lo + ((a + b : Nat) : Int) = lo + a + (b : Int) from by omega]
    omega
theorem cnt_back (p : Int → Bool) (L : Nat) : ∀ (n : Nat), n ≤ L → cnt (fun j => p ((L : Int) - 1 - j)) 0 n = cnt p ((L : Int) - n) n
  | 0, _ => rfl
  | n + 1, h => by
    have h1 := cnt_add p ((L : Int) - (n + 1 : Nat)) 1 n
    rw [show 1 + n = n + 1 from by omega] at h1
    rw [h1, cnt_succ, cnt_back p L n (by omega), cnt_succ]
    simp only [cnt]
    rw [show (L : Int) - 1 - (0 + (n : Int)) = (L : Int) - ((n + 1 : Nat) : Int) from by omega, show (L : Int) - ((n + 1 : Nat) : Int) + ((0 : Nat) : Int) = (L : Int) - ((n + 1 : Nat) : Int) from by omega, show (L : Int) - ((n + 1 : Nat) : Int) + ((1 : Nat) : Int) = (L : Int) - n from by omega]
    omega
theorem count_ref {l : List Int} (lo hi : Int) (hl : l.length ≤ 1000) (k : Nat) (hk : 8 * l.length < k) :
    padlockref12_Count.f k (bitsOf l) lo hi = some (cnt (getv l) (max lo 0) (min hi (8 * (l.length : Int)) - max lo 0).toNat) := by
  unfold padlockref12_Count.f
  have hL := bitsOf_length l
  rw [count_loop (bitsOf l) lo hi (by omega) (8 * l.length) k 0 0 (by omega) (by omega) (by omega) (by omega) hk, hL]
  congr 1
  rw [cnt_back (inside (bitsOf l) lo hi) (8 * l.length) (8 * l.length) (by omega), show ((8 * l.length : Nat) : Int) - ((8 * l.length : Nat) : Int) = 0 from by omega]
  by_cases hc : max lo 0 ≤ min hi (8 * (l.length : Int))
  · obtain ⟨a, ha⟩ : ∃ a : Nat, (a : Int) = max lo 0 := ⟨(max lo 0).toNat, by omega⟩
    obtain ⟨b, hb⟩ : ∃ b : Nat, (b : Int) = min hi (8 * (l.length : Int)) - max lo 0 := ⟨(min hi (8 * (l.length : Int)) - max lo 0).toNat, by omega⟩
    obtain ⟨c, hcc⟩ : ∃ c : Nat, 8 * l.length = a + b + c := ⟨8 * l.length - a - b, by omega⟩
    rw [hcc, cnt_add, cnt_add, cnt_none a, cnt_none c, show (min hi (8 * (l.length : Int)) - max lo 0).toNat = b from by omega, show (0 : Int) + (a : Int) = max lo 0 from by omega]
    · rw [cnt_congr b (p := inside (bitsOf l) lo hi) (q := getv l)]
      · omega
      · intro j h1 h2
        unfold inside
        rw [bitsOf_get l j (by omega) (by omega)]
        have h3 : lo ≤ j := by omega
        have h4 : j < hi := by omega
        simp [h3, h4]
    · intro j h1 h2
      have h4 : ¬ j < hi := by omega
      simp [inside, h4]
    · intro j h1 h2
      have h4 : ¬ lo ≤ j := by omega
      simp [inside, h4]
  · rw [show (min hi (8 * (l.length : Int)) - max lo 0).toNat = 0 from by omega, cnt_none]
    · rfl
    · intro j h1 h2
      have h4 : ¬ (lo ≤ j ∧ j < hi) := by omega
      unfold inside
      by_cases h5 : lo ≤ j
      · have h6 : ¬ j < hi := by omega
        simp [h6]
      · simp [h5]
theorem first_ref {l : List Int} (lo hi : Int) (hl : l.length ≤ 1000) (k : Nat) (hk : 8 * l.length < k) :
    ∃ r, padlockref12_First.f k (bitsOf l) lo hi = some r ∧ Found (bitmap_First.p l) (max lo 0) (min hi (8 * (l.length : Int))) r := by
  unfold padlockref12_First.f
  have hL := bitsOf_length l
  obtain ⟨r, h1, h2⟩ := first_loop (bitsOf l) (bitmap_First.p l) (fun j h0 h1 => by rw [bitsOf_get l j h0 (by omega)]; rfl) lo hi (by omega) (8 * l.length) k 0 (by omega) (by omega) hk (fun j h1 h2 => by omega)
  refine ⟨r, h1, ?_⟩
  rw [hL] at h2
  simpa using h2

theorem bitsOf_set {l : List Int} (hb : Bytes l) (hl : l.length ≤ 1000) (i : Int) (on : Bool) (h0 : 0 ≤ i) (h1 : i < 8 * (l.length : Int)) : (bitsOf l).set i.toNat on = bitsOf (setL l i on) := by
  obtain ⟨n, rfl⟩ := Int.eq_ofNat_of_zero_le h0
  have hlen : (setL l n on).length = l.length := by unfold setL; split <;> simp [flip_length]
  apply List.ext_getElem
  · simp [bitsOf_length, hlen]
  · intro j h2 h3
    have hj : j < 8 * l.length := by simpa [bitsOf_length] using h2
    simp only [Int.toNat_natCast]
    rw [List.getElem_set]
    have e2 : (bitsOf (setL l n on))[j] = getv (setL l n on) j := by simp [bitsOf]
    have e1 : (bitsOf l)[j]'(by rw [bitsOf_length]; exact hj) = getv l j := by simp [bitsOf]
    rw [e2, e1]
    unfold setL
    by_cases hv : getv l n = on
    · rw [if_pos hv]
      by_cases e : n = j
      · subst e; rw [if_pos rfl, hv]
      · rw [if_neg e]
    · rw [if_neg hv, getv_flip hb n j (by omega) (by omega) (by omega) (by omega)]
      by_cases e : n = j
      · subst e
        rw [if_pos rfl, if_pos rfl]
        cases hg : getv l n <;> cases on <;> simp_all
      · rw [if_neg e, if_neg (by omega)]
theorem bytes_setL {l : List Int} (hb : Bytes l) (i : Int) (on : Bool) (h0 : 0 ≤ i) : Bytes (setL l i on) := by
  unfold setL
  split
  · exact hb
  · exact bytes_flip hb i h0

theorem reads_of_row {w : World} {a0 : Option Addr} {len0 cap0 : Nat} {z0 : List Int} (w0 : (a0 = none ∧ len0 = 0 ∧ cap0 = 0 ∧ z0 = []) ∨ ∃ x, a0 = some x ∧ len0 ≤ cap0 ∧ cap0 ≤ maxLen ∧ z0.length = cap0 ∧ (∀ i, i < z0.length → w.cell? (x.add i) = some (.int .u8 (z0.getD i 0))) ∧ ∀ n ∈ z0, (Lit.int .u8 n).wf = true) :
    ∃ l : List Int, l.length = len0 ∧ Kd.C (Kd.int .u8) w a0 l.length l ∧ len0 ≤ cap0 ∧ Bytes l := by
  obtain ⟨l0, hl, hr, hm, hw, hc⟩ := ReadsInt.ofRowC w0
  exact ⟨l0, hl.symm, Kd.C_of_reads (d := (0 : Int)) (h1 := fun _ => rfl) hr, by omega, bytes_of_wf hw⟩
theorem bitmapBits_walk (a0 : Option Addr) (len0 cap0 : Nat) (z0 : List Int) (a1 : Int) (a2 : Bool) (a3 a4 : Int) (w : World)
    (w0 : (a0 = none ∧ len0 = 0 ∧ cap0 = 0 ∧ z0 = []) ∨ ∃ x, a0 = some x ∧ len0 ≤ cap0 ∧ cap0 ≤ maxLen ∧ z0.length = cap0 ∧ (∀ i, i < z0.length → w.cell? (x.add i) = some (.int .u8 (z0.getD i 0))) ∧ ∀ n ∈ z0, (Lit.int .u8 n).wf = true)
    (y0 : len0 * 1 ≤ 140737488351232) (w1 : (Lit.int .i64 a1).wf = true) (w3 : (Lit.int .i64 a3).wf = true) (w4 : (Lit.int .i64 a4).wf = true) :
    Calls Try.prog 3 #[.slice a0 len0 cap0, .int .i64 a1, .bool a2, .int .i64 a3, .int .i64 a4] w fun e w' => e = .returned (.bool true) ∧ Below w.heap.size w w' := by
  obtain ⟨l, hlen, hr, hc, hb⟩ := reads_of_row w0
  clear w0
  subst hlen
  by_cases hbig : 100 < l.length
  · exact bits_big a0 cap0 l a1 a2 a3 a4 w hbig (by omega)
  · have hl : l.length ≤ 100 := by omega
    have r1 := i64_range w1
    have r3 := i64_range w3
    have r4 := i64_range w4
    obtain ⟨k, hk⟩ : ∃ k : Nat, 10 * l.length < k := ⟨10 * l.length + 1, by omega⟩
    have hBits := bits_tells hb (by omega) k (by omega)
    have hBL := bitsOf_length l
    have hCount2 := count_ref (l := l) a3 a4 (by omega) k (by omega)
    have hCount : bitmap_Count.f l a3 a4 = some (cnt (getv l) (max a3 0) (min a4 (8 * (l.length : Int)) - max a3 0).toNat) := by
      unfold bitmap_Count.f
      rw [if_pos ⟨by omega, r3.1, r3.2, r4.1, r4.2⟩]
    obtain ⟨r, hFirst2, hf⟩ := first_ref (l := l) a3 a4 (by omega) k (by omega)
    have hFirst : bitmap_First.f l a3 a4 = some r := by
      unfold bitmap_First.f
      rw [if_pos ⟨by omega, r3.1, r3.2, r4.1, r4.2⟩]
      exact congrArg some (Found.unique (by omega) (look_found _ _ _ _ _ (by omega) (Ahead.refl _ rfl)) hf)
    by_cases hin : 0 ≤ a1 ∧ a1 < 8 * (l.length : Int)
    · have hSet : bitmap_Set.f l a1 a2 = some (setL l a1 a2, 0) := by
        unfold bitmap_Set.f
        rw [if_pos ⟨r1.2, by omega⟩, if_neg (by omega)]
      have hslen : (setL l a1 a2).length = l.length := by unfold setL; split <;> simp [flip_length]
      exact bits_in k a0 cap0 l a1 a2 a3 a4 w (bitsOf l) (setL l a1 a2) 0 _ r hr hc hl (by omega) r1.1 r1.2 hBits hSet hCount hCount2 hFirst hFirst2
        (Lib.hid ⟨(bitsOf_get l a1 hin.1 hin.2).symm, rfl, by
          rw [bitsOf_set hb (by omega) a1 a2 hin.1 hin.2]
          exact bytes_tells (bytes_setL hb a1 a2 hin.1) (by omega) k (by omega)⟩) hin.1 (by omega)
    · have hSet : bitmap_Set.f l a1 a2 = some ([], 1) := by
        unfold bitmap_Set.f
        rw [if_pos ⟨r1.2, by omega⟩, if_pos (by omega)]
      exact bits_out k a0 cap0 l a1 a2 a3 a4 w (bitsOf l) [] 1 _ r hr hc hl (by omega) r1.1 r1.2 hBits hSet hCount hCount2 hFirst hFirst2
        (Lib.hid ⟨getv_out l a1 (by omega) r1.2, rfl, rfl⟩) (by omega)
end Go.Proofs.Ythnmbeooohgccaa.HBm
