/- Layer 5, plain: how wide a row is; numbers' bytes. -/
import Derived.Test.YtoiiacbbfhlocaaRc2
import Derived.Test.YtoiiacbbfhlocaaBits
set_option linter.unusedVariables false
set_option linter.unusedSimpArgs false
namespace Go.Proofs.Ytoiiacbbfhlocaa.HKa
open Go.RowKit Go.Proofs.YtoiiacbbfhlocaaW.PrintWords Go.Proofs.YtoiiacbbfhlocaaW.PrintLast Go.Proofs.YtoiiacbbfhlocaaW.PrintMore Go.Proofs.Ytoiiacbbfhlocaa.Kit Go.Proofs.Ytoiiacbbfhlocaa.Rc
def wideG : List Int → Int → Int
  | [], n => n
  | m :: ms, n => if m < 1 ∨ 8 < m then -1 else wideG ms (n + m)
theorem rd_mid (pre : List Int) (m : Int) (ms : List Int) : rd (pre ++ m :: ms) (pre.length : Int) = m := by
  unfold rd
  rw [show ((pre.length : Int)).toNat = pre.length from by omega]
  simp
theorem wrap_id (x : Int) (h0 : -9223372036854775808 ≤ x) (h1 : x < 9223372036854775808) : wrap64 x = x := by
  unfold wrap64; omega
theorem wide_l0 : ∀ (ms pre : List Int) (n : Int) (k : Nat), 0 ≤ n → n ≤ 8 * pre.length → pre.length + ms.length ≤ 1000 → codec_Wide.l0 (k + ms.length + 1) n (pre ++ ms) ((pre ++ ms).length : Int) pre.length = some (wideG ms n)
  | [], pre, n, k, _, _, _ => by
    rw [codec_Wide.l0, if_neg (by simp)]
    rfl
  | m :: ms, pre, n, k, h0, h1, h2 => by
    have hl : ((pre ++ m :: ms).length : Int) = pre.length + (ms.length + 1) := by simp
    have h3 : pre.length + (ms.length + 1) ≤ 1000 := h2
    rw [codec_Wide.l0, if_pos (by rw [hl]; omega), if_pos (by omega), if_pos (by rw [hl]; omega), rd_mid]
    unfold wideG
    by_cases hm : m < 1
    · rw [if_pos hm, if_pos (.inl hm)]
    · rw [if_neg hm]
      by_cases hm8 : m > 8
      · rw [if_pos hm8, if_pos (.inr hm8)]
      · rw [if_neg hm8, if_neg (by omega), wrap_id (n + m) (by omega) (by omega), wrap_id (pre.length + 1 : Int) (by omega) (by omega)]
        have h := wide_l0 ms (pre ++ [m]) (n + m) k (by omega) (by simp; omega) (by simp; omega)
        rw [List.append_assoc] at h
        simp only [List.length_append, List.length_cons, List.length_nil, List.cons_append, List.nil_append, Int.natCast_add, Int.natCast_one, Nat.zero_add] at h ⊢
        exact h
theorem wide_tells (ms : List Int) (h : ms.length ≤ 1000) (k : Nat) : codec_Wide.f (k + ms.length + 1) ms = some (wideG ms 0) := wide_l0 ms [] 0 k (by omega) (by simp) (by simpa using h)
theorem rwide_l0 : ∀ (ms pre : List Int) (n : Int) (k : Nat), 0 ≤ n → n ≤ 8 * pre.length → pre.length + ms.length ≤ 1000 → padlockref05_Wide.l0 (k + ms.length + 1) (pre ++ ms) n pre.length = some (wideG ms n)
  | [], pre, n, k, _, _, _ => by
    rw [padlockref05_Wide.l0, if_neg (by simp)]
    rfl
  | m :: ms, pre, n, k, h0, h1, h2 => by
    have hl : ((pre ++ m :: ms).length : Int) = pre.length + (ms.length + 1) := by simp
    have h3 : pre.length + (ms.length + 1) ≤ 1000 := h2
    rw [padlockref05_Wide.l0, if_pos (by rw [hl]; omega), if_pos (by omega), rd_mid]
    unfold wideG
    by_cases hm : m < 1
    · rw [if_pos hm, if_pos (.inl hm)]
    · rw [if_neg hm]
      by_cases hm8 : m > 8
      · rw [if_pos hm8, if_pos (.inr hm8)]
      · rw [if_neg hm8, if_neg (by omega), wrap_id (n + m) (by omega) (by omega), wrap_id (pre.length + 1 : Int) (by omega) (by omega)]
        have h := rwide_l0 ms (pre ++ [m]) (n + m) k (by omega) (by simp; omega) (by simp; omega)
        rw [List.append_assoc] at h
        simp only [List.length_append, List.length_cons, List.length_nil, List.cons_append, List.nil_append, Int.natCast_add, Int.natCast_one, Nat.zero_add] at h ⊢
        exact h
theorem rwide_tells (ms : List Int) (h : ms.length ≤ 1000) (k : Nat) (hk : ms.length < k) : padlockref05_Wide.f k ms = some (wideG ms 0) := by
  have h' := rwide_l0 ms [] 0 (k - ms.length - 1) (by omega) (by simp) (by simpa using h)
  rw [show k - ms.length - 1 + ms.length + 1 = k from by omega] at h'
  exact h'
/-- what wide says of its widths -/
theorem wideG_neg : ∀ (ms : List Int) (n : Int), 0 ≤ n → wideG ms n < 0 → wideG ms n = -1
  | [], n, h0, h => by unfold wideG at h; omega
  | m :: ms, n, h0, h => by
    unfold wideG at h ⊢
    split at h
    · rename_i hm; rw [if_pos hm]
    · rename_i hm
      rw [if_neg hm]
      exact wideG_neg ms (n + m) (by omega) h
theorem wideG_all : ∀ (ms : List Int) (n : Int), 0 ≤ n → 0 ≤ wideG ms n → ∀ m ∈ ms, 1 ≤ m ∧ m ≤ 8
  | [], n, h0, h => by simp
  | m :: ms, n, h0, h => by
    unfold wideG at h
    split at h
    · omega
    · rename_i hm
      intro y hy
      rcases List.mem_cons.1 hy with rfl | hy
      · omega
      · exact wideG_all ms (n + m) (by omega) h y hy
theorem wideG_sum : ∀ (ms : List Int) (n : Int), (∀ m ∈ ms, 1 ≤ m ∧ m ≤ 8) → wideG ms n = n + ms.sum
  | [], n, h => by simp [wideG]
  | m :: ms, n, h => by
    have h1 := h m List.mem_cons_self
    unfold wideG
    rw [if_neg (by omega), wideG_sum ms (n + m) (fun y hy => h y (List.mem_cons_of_mem _ hy)), List.sum_cons]
    omega
/-- n's last k bytes, the highest ahead -/
def bg : Int → Nat → List Int
  | _, 0 => []
  | x, n + 1 => bg (x / 256) n ++ [x % 256]
theorem bg_length : ∀ (n : Nat) (x : Int), (bg x n).length = n
  | 0, _ => rfl
  | n + 1, x => by simp [bg, bg_length n]
theorem bg_bytes : ∀ (n : Nat) (x : Int), Bytes (bg x n)
  | 0, _ => by intro y hy; simp [bg] at hy
  | n + 1, x => by
    intro y hy
    rcases List.mem_append.1 hy with h | h
    · exact bg_bytes n _ y h
    · rw [List.mem_singleton.1 h]; omega
theorem uwrap_id (x : Int) (h0 : 0 ≤ x) (h1 : x < 18446744073709551616) : IntKind.u64.wrap x = x := by
  simp only [IntKind.wrap_u64]; omega
theorem big_tells : ∀ (n : Nat) (x : Int) (k : Nat), 0 ≤ x → x < 18446744073709551616 → n ≤ 1000 → n < k → padlockref04_Big.f k x n = some (bg x n)
  | 0, x, k + 1, _, _, _, _ => by rw [padlockref04_Big.f, if_pos (by rfl)]; rfl
  | n + 1, x, k + 1, h0, h1, h2, h3 => by
    rw [padlockref04_Big.f, if_neg (by omega), Int.tdiv_eq_ediv_of_nonneg h0, Int.tmod_eq_emod_of_nonneg h0, uwrap_id _ (by omega) (by omega), wrap_id _ (by omega) (by omega), show (((n + 1 : Nat) : Int) - 1) = n from by omega, big_tells n (x / 256) k (by omega) (by omega) (by omega) (by omega)]
    simp only [Option.bind_some, bg_length]
    rw [if_pos (by omega), show x % 256 % 256 = x % 256 from by omega]
    rfl
/-- what comes of the rest of a row; none: it may not be -/
def putG : List Int → List Int → List Int → Option (List Int)
  | m :: ms, n :: ns, out => if n / 256 ^ m.toNat = 0 then putG ms ns (out ++ bg n m.toNat) else none
  | _, _, out => some out
def putT (o : Option (List Int)) : List Int × Bool := match o with
  | some x => (x, true)
  | none => ([], false)
theorem div_pow (n : Int) (r : Nat) : n / 256 / 256 ^ r = n / 256 ^ (r + 1) := by
  rw [Int.ediv_ediv_of_nonneg (by omega), Int.pow_succ, Int.mul_comm]
theorem rput_l1 (ws l out : List Int) (i m : Int) (hi0 : 0 ≤ i) (hi1 : i < ws.length) (hi2 : i < l.length) (hm : rd ws i = m) (hm8 : m ≤ 8) (K : Nat) : ∀ (r : Nat) (n kk : Int), kk + r = m → 0 ≤ kk → 0 ≤ n → n < 18446744073709551616 →
    padlockref05_Put.l1 (K + r + 1) ws l out i n kk = if n / 256 ^ r > 0 then some ([], false) else (padlockref04_Big.f K (rd l i) m).bind fun t => if out.length + t.length < 140737488355328 then padlockref05_Put.l0 K ws l (out ++ t) (wrap64 (i + 1)) else none
  | 0, n, kk, h, h0, h1, h2 => by
    rw [padlockref05_Put.l1, if_pos hi0, if_pos hi1, hm, if_neg (by omega), if_pos hi2]
    simp
  | r + 1, n, kk, h, h0, h1, h2 => by
    rw [padlockref05_Put.l1, if_pos hi0, if_pos hi1, hm, if_pos (by omega), Int.tdiv_eq_ediv_of_nonneg h1, uwrap_id _ (by omega) (by omega), wrap_id _ (by omega) (by omega), show K + (r + 1) = K + r + 1 from rfl, rput_l1 ws l out i m hi0 hi1 hi2 hm hm8 K r (n / 256) (kk + 1) (by omega) (by omega) (by omega) (by omega), div_pow]
theorem div_zero_iff (n : Int) (r : Nat) (h : 0 ≤ n) : ¬ n / 256 ^ r > 0 ↔ n / 256 ^ r = 0 := by
  have h2 : (0 : Int) < 256 ^ r := Int.pow_pos (by omega)
  have h1 : 0 ≤ n / 256 ^ r := Int.ediv_nonneg h (by omega)
  omega
theorem rput_l0 : ∀ (ms ns ps qs out : List Int) (k : Nat), ps.length = qs.length → ms.length = ns.length → (∀ m ∈ ms, 1 ≤ m ∧ m ≤ 8) → (∀ n ∈ ns, 0 ≤ n ∧ n < 18446744073709551616) → out.length ≤ 8 * ps.length → ps.length + ms.length ≤ 1000 → 10 * ms.length + 20 ≤ k →
    padlockref05_Put.l0 k (ps ++ ms) (qs ++ ns) out qs.length = some (putT (putG ms ns out))
  | [], [], ps, qs, out, k + 1, hpq, _, _, _, _, _, _ => by
    rw [padlockref05_Put.l0, if_neg (by simp)]
    rfl
  | m :: ms, n :: ns, ps, qs, out, k + 1, hpq, hmn, hm, hn, ho, hl, hk => by
    have h1 := hm m List.mem_cons_self
    have h2 := hn n List.mem_cons_self
    simp only [List.length_cons] at hmn hk hl
    have hlp : ((ps ++ m :: ms).length : Int) = ps.length + (ms.length + 1) := by simp
    have hlq : ((qs ++ n :: ns).length : Int) = qs.length + (ns.length + 1) := by simp
    obtain ⟨K, hK⟩ : ∃ K, k = K + m.toNat + 1 := ⟨k - m.toNat - 1, by omega⟩
    rw [padlockref05_Put.l0, if_pos (by rw [hlq]; omega), if_pos (by omega), rd_mid, hK]
    have hrm : rd (ps ++ m :: ms) (qs.length : Int) = m := by rw [← hpq]; exact rd_mid ps m ms
    rw [rput_l1 (ps ++ m :: ms) (qs ++ n :: ns) out qs.length m (by omega) (by rw [hlp]; omega) (by rw [hlq]; omega) hrm (by omega) K m.toNat n 0 (by omega) (by omega) h2.1 h2.2, rd_mid]
    unfold putG
    by_cases hz : n / 256 ^ m.toNat = 0
    · rw [if_neg ((div_zero_iff n _ h2.1).2 hz), if_pos hz]
      have hb := big_tells m.toNat n K h2.1 h2.2 (by omega) (by omega)
      rw [show ((m.toNat : Nat) : Int) = m from by omega] at hb
      rw [hb]
      simp only [Option.bind_some, bg_length]
      rw [if_pos (by omega), wrap_id _ (by omega) (by omega)]
      have h := rput_l0 ms ns (ps ++ [m]) (qs ++ [n]) (out ++ bg n m.toNat) K (by simp [hpq]) (by omega) (fun y hy => hm y (List.mem_cons_of_mem _ hy)) (fun y hy => hn y (List.mem_cons_of_mem _ hy)) (by rw [List.length_append, bg_length, List.length_append, List.length_singleton]; omega) (by simp; omega) (by omega)
      rw [List.append_assoc, List.append_assoc] at h
      simp only [List.length_append, List.length_cons, List.length_nil, List.cons_append, List.nil_append, Int.natCast_add, Int.natCast_one, Nat.zero_add] at h ⊢
      exact h
    · rw [if_pos (by have := (div_zero_iff n m.toNat h2.1); omega), if_neg hz]
      rfl
  | [], _ :: _, _, _, _, _, _, h, _, _, _, _, _ => by simp at h
  | _ :: _, [], _, _, _, _, _, h, _, _, _, _, _ => by simp at h
  | [], [], _, _, _, 0, _, _, _, _, _, _, h => by omega
  | _ :: _, _ :: _, _, _, _, 0, _, _, _, _, _, _, h => by omega
/-- codec.Put -/
def putF (ws l : List Int) : List Int × Int :=
  if wideG ws 0 < 0 ∨ l.length ≠ ws.length then ([], 1) else match putG ws l [] with
  | some x => (x, 0)
  | none => ([], 1)
theorem rput_tells (ws l : List Int) (k : Nat) (hw : ws.length ≤ 1000) (hn : ∀ n ∈ l, 0 ≤ n ∧ n < 18446744073709551616) (hk : 10 * ws.length + 22 ≤ k) : padlockref05_Put.f k ws l = some ((putF ws l).1, decide ((putF ws l).2 = 0)) := by
  unfold padlockref05_Put.f putF
  rw [rwide_tells ws hw k (by omega)]
  simp only [Option.bind_some]
  obtain ⟨K, rfl⟩ : ∃ K, k = K + 1 := ⟨k - 1, by omega⟩
  by_cases h0 : wideG ws 0 < 0
  · rw [if_pos h0, if_pos (.inl h0)]
    simp [padlockref05_Put.j0]
  · rw [if_neg h0]
    by_cases hl : l.length = ws.length
    · rw [if_neg (by simp [h0, hl])]
      have hbn : ((l.length : Int) != (ws.length : Int)) = false := by simp [hl]
      have h := rput_l0 ws l [] [] [] K rfl hl.symm (wideG_all ws 0 (by omega) (by omega)) hn (by simp) (by simpa using hw) (by omega)
      simp only [List.nil_append, List.length_nil] at h
      rw [hbn, padlockref05_Put.j0, if_neg (by decide)]
      rw [show ((0 : Nat) : Int) = 0 from rfl] at h
      rw [h]
      cases putG ws l [] <;> rfl
    · rw [if_pos (.inr hl)]
      have hbn : ((l.length : Int) != (ws.length : Int)) = true := by simp; omega
      rw [hbn, padlockref05_Put.j0, if_pos rfl]
      rfl
/-- bytes' number -/
def vN : List Int → Int → Int
  | [], a => a
  | x :: xs, a => vN xs (a * 256 + x)
def getG : List Int → List Int → List Int → List Int
  | m :: ms, b, out => getG ms (b.drop m.toNat) (out ++ [vN (b.take m.toNat) 0])
  | [], _, out => out
def getF (ws b : List Int) : List Int × Int := if (b.length : Int) = wideG ws 0 then (getG ws b [], 0) else ([], 1)
theorem pow_bound (kk : Nat) (h : kk ≤ 8) : (256 : Int) ^ kk ≤ 18446744073709551616 := by
  obtain rfl | rfl | rfl | rfl | rfl | rfl | rfl | rfl | rfl : kk = 0 ∨ kk = 1 ∨ kk = 2 ∨ kk = 3 ∨ kk = 4 ∨ kk = 5 ∨ kk = 6 ∨ kk = 7 ∨ kk = 8 := by omega
  all_goals decide
theorem rget_l1 (ws : List Int) (out : List Int) (i m : Int) (hi0 : 0 ≤ i) (hi1 : i < ws.length) (hm : rd ws i = m) (hm8 : m ≤ 8) (ho : out.length ≤ 1000) (K : Nat) : ∀ (cs pre rest : List Int) (n : Int) (kk : Nat), Bytes cs → (kk : Int) + cs.length = m → pre.length + cs.length ≤ 10000 → 0 ≤ n → n < 256 ^ kk →
    padlockref05_Get.l1 (K + cs.length + 1) ws (pre ++ (cs ++ rest)) out pre.length i n kk = padlockref05_Get.l0 K ws (pre ++ (cs ++ rest)) (out ++ [vN cs n]) (pre.length + cs.length) (wrap64 (i + 1))
  | [], pre, rest, n, kk, _, h, hl, h0, h1 => by
    simp only [List.length_nil] at h
    rw [padlockref05_Get.l1, if_pos hi0, if_pos hi1, hm, if_neg (by omega), if_pos (by omega)]
    simp [vN]
  | c :: cs, pre, rest, n, kk, hb, h, hl, h0, h1 => by
    have hc := hb c List.mem_cons_self
    simp only [List.length_cons] at h hl
    have hp := pow_bound (kk + 1) (by omega)
    rw [Int.pow_succ] at hp
    rw [padlockref05_Get.l1, if_pos hi0, if_pos hi1, hm, if_pos (by omega), if_pos (by omega), if_pos (by simp; omega)]
    rw [show pre ++ (c :: cs ++ rest) = pre ++ c :: (cs ++ rest) from rfl, rd_mid, uwrap_id (n * 256) (by omega) (by omega), uwrap_id c (by omega) (by omega), uwrap_id (n * 256 + c) (by omega) (by omega), wrap_id _ (by omega) (by omega), wrap_id _ (by omega) (by omega)]
    have h' := rget_l1 ws out i m hi0 hi1 hm hm8 ho K cs (pre ++ [c]) rest (n * 256 + c) (kk + 1) (fun y hy => hb y (List.mem_cons_of_mem _ hy)) (by omega) (by simp; omega) (by omega) (by rw [Int.pow_succ]; omega)
    rw [List.append_assoc] at h'
    simp only [List.length_append, List.length_cons, List.length_nil, List.cons_append, List.nil_append, Int.natCast_add, Int.natCast_one, Nat.zero_add, vN] at h' ⊢
    rw [show K + (cs.length + 1) = K + cs.length + 1 from rfl, h', show ((pre.length : Int) + 1 + cs.length) = pre.length + (cs.length + 1) from by omega]
theorem rget_l0 : ∀ (ms ps pre b out : List Int) (k : Nat), (∀ m ∈ ms, 1 ≤ m ∧ m ≤ 8) → Bytes b → (b.length : Int) = ms.sum → out.length = ps.length → pre.length ≤ 8 * ps.length → ps.length + ms.length ≤ 1000 → 10 * ms.length + 20 ≤ k →
    padlockref05_Get.l0 k (ps ++ ms) (pre ++ b) out pre.length ps.length = some (getG ms b out, true)
  | [], ps, pre, b, out, k + 1, _, _, _, _, _, _, _ => by
    rw [padlockref05_Get.l0, if_neg (by simp)]
    rfl
  | m :: ms, ps, pre, b, out, k + 1, hm, hb, hs, ho, hpre, hl, hk => by
    have h1 := hm m List.mem_cons_self
    simp only [List.length_cons] at hk hl
    rw [List.sum_cons] at hs
    have hsum : (0 : Int) ≤ ms.sum := by
      have : ∀ (l : List Int), (∀ y ∈ l, 1 ≤ y ∧ y ≤ 8) → 0 ≤ l.sum := by
        intro l
        induction l with
        | nil => intro _; simp
        | cons y l ih => intro h; rw [List.sum_cons]; have := ih (fun z hz => h z (List.mem_cons_of_mem _ hz)); have := h y List.mem_cons_self; omega
      exact this ms (fun y hy => hm y (List.mem_cons_of_mem _ hy))
    have hlp : ((ps ++ m :: ms).length : Int) = ps.length + (ms.length + 1) := by simp
    have htl : (b.take m.toNat).length = m.toNat := by rw [List.length_take]; omega
    obtain ⟨K, hK⟩ : ∃ K, k = K + m.toNat + 1 := ⟨k - m.toNat - 1, by omega⟩
    rw [padlockref05_Get.l0, if_pos (by rw [hlp]; omega), hK]
    have h := rget_l1 (ps ++ m :: ms) out ps.length m (by omega) (by rw [hlp]; omega) (rd_mid ps m ms) (by omega) (by omega) K (b.take m.toNat) pre (b.drop m.toNat) 0 0 (fun y hy => hb y (List.mem_of_mem_take hy)) (by rw [htl]; omega) (by rw [htl]; omega) (by omega) (by decide)
    rw [htl, List.take_append_drop] at h
    rw [show (((0 : Nat)) : Int) = 0 from rfl] at h
    rw [h, wrap_id _ (by omega) (by omega)]
    have h' := rget_l0 ms (ps ++ [m]) (pre ++ b.take m.toNat) (b.drop m.toNat) (out ++ [vN (b.take m.toNat) 0]) K (fun y hy => hm y (List.mem_cons_of_mem _ hy)) (fun y hy => hb y (List.mem_of_mem_drop hy)) (by rw [List.length_drop]; omega) (by simp [ho]) (by rw [List.length_append, htl]; simp; omega) (by simp; omega) (by omega)
    rw [List.append_assoc, List.append_assoc, List.take_append_drop, List.length_append, htl] at h'
    simp only [List.length_append, List.length_cons, List.length_nil, List.cons_append, List.nil_append, Int.natCast_add, Int.natCast_one, Nat.zero_add] at h' ⊢
    exact h'
  | [], _, _, _, _, 0, _, _, _, _, _, _, h => by omega
  | _ :: _, _, _, _, _, 0, _, _, _, _, _, _, h => by omega
theorem rget_tells (ws b : List Int) (k : Nat) (hw : ws.length ≤ 1000) (hb : Bytes b) (hk : 10 * ws.length + 22 ≤ k) : padlockref05_Get.f k ws b = some ((getF ws b).1, decide ((getF ws b).2 = 0)) := by
  unfold padlockref05_Get.f getF
  rw [rwide_tells ws hw k (by omega)]
  simp only [Option.bind_some]
  by_cases h : (b.length : Int) = wideG ws 0
  · have ha := wideG_all ws 0 (by omega) (by omega)
    rw [if_pos h.symm, if_pos h]
    have h' := rget_l0 ws [] [] b [] k ha hb (by rw [h, wideG_sum ws 0 ha]; omega) rfl (by simp) (by simpa using hw) (by omega)
    simp only [List.nil_append, List.length_nil] at h'
    rw [show ((0 : Nat) : Int) = 0 from rfl] at h'
    rw [h']
    rfl
  · rw [if_neg (fun e => h e.symm), if_neg h]
    rfl
theorem same_l0 : ∀ (a b p : List Int) (k : Nat), a.length = b.length → p.length + a.length ≤ 10000 → a.length < k → ∀ q : List Int, q.length = p.length → padlockref05_Same.l0 k (p ++ a) (q ++ b) p.length = some (decide (a = b))
  | [], [], p, k + 1, _, _, _, q, _ => by
    rw [padlockref05_Same.l0, if_neg (by simp)]
    rfl
  | x :: a, y :: b, p, k + 1, hab, hl, hk, q, hq => by
    simp only [List.length_cons] at hab hl hk
    have hry : rd (q ++ y :: b) (p.length : Int) = y := by rw [← hq]; exact rd_mid q y b
    rw [padlockref05_Same.l0, if_pos (by simp; omega), if_pos (by omega), if_pos (by simp; omega), rd_mid, hry]
    by_cases h : x = y
    · subst h
      rw [if_pos rfl, wrap_id _ (by omega) (by omega)]
      have h' := same_l0 a b (p ++ [x]) k (by omega) (by simp; omega) (by omega) (q ++ [x]) (by simp [hq])
      rw [List.append_assoc, List.append_assoc] at h'
      simp only [List.length_append, List.length_cons, List.length_nil, List.cons_append, List.nil_append, Int.natCast_add, Int.natCast_one, Nat.zero_add] at h' ⊢
      rw [h']
      simp
    · rw [if_neg h]
      simp [h]
  | [], _ :: _, _, _, h, _, _, _, _ => by simp at h
  | _ :: _, [], _, _, h, _, _, _, _ => by simp at h
  | [], [], _, 0, _, _, h, _, _ => by omega
  | _ :: _, _ :: _, _, 0, _, _, h, _, _ => by omega
theorem same_tells (a b : List Int) (k : Nat) (hl : a.length ≤ 10000) (hk : a.length < k) : padlockref05_Same.f k a b = some (decide (a = b)) := by
  unfold padlockref05_Same.f
  by_cases h : a.length = b.length
  · rw [if_pos (by omega)]
    exact same_l0 a b [] k h (by simpa using hl) hk [] rfl
  · rw [if_neg (by omega)]
    have : a ≠ b := fun e => h (by rw [e])
    simp [this]
end Go.Proofs.Ytoiiacbbfhlocaa.HKa
