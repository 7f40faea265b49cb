/- Layer 5, plain: what was put is got as it was, and the other way round. -/
import Derived.Test.YtoiiacbbfhlocaaHKd
set_option linter.unusedVariables false
set_option linter.unusedSimpArgs false
namespace Go.Proofs.Ytoiiacbbfhlocaa.HKa
open Go.RowKit Go.Proofs.YtoiiacbbfhlocaaW.PrintWords Go.Proofs.YtoiiacbbfhlocaaW.PrintLast Go.Proofs.YtoiiacbbfhlocaaW.PrintMore Go.Proofs.Ytoiiacbbfhlocaa.Kit Go.Proofs.Ytoiiacbbfhlocaa.Rc
theorem vN_bg : ∀ (m : Nat) (n : Int), 0 ≤ n → n / 256 ^ m = 0 → vN (bg n m) 0 = n
  | 0, n, h0, h => by
    have h' : n / 1 = 0 := h
    rw [Int.ediv_one] at h'
    rw [h']
    rfl
  | m + 1, n, h0, h => by
    have e : bg n (m + 1) = bg (n / 256) m ++ [n % 256] := rfl
    rw [e, vN_snoc, vN_bg m (n / 256) (by omega) (by rw [div_pow]; exact h)]
    omega
theorem bg_vN : ∀ (l : List Int) (a : Int) (j : Nat), Bytes l → bg (vN l a) (l.length + j) = bg a j ++ l
  | [], a, j, _ => by simp [vN]
  | x :: l, a, j, h => by
    have hx := h x List.mem_cons_self
    have h1 := bg_vN l (a * 256 + x) (j + 1) (fun y hy => h y (List.mem_cons_of_mem _ hy))
    rw [show (x :: l).length + j = l.length + (j + 1) from by simp only [List.length_cons]; omega]
    have e : bg (a * 256 + x) (j + 1) = bg ((a * 256 + x) / 256) j ++ [(a * 256 + x) % 256] := rfl
    rw [show vN (x :: l) a = vN l (a * 256 + x) from rfl, h1, e, show (a * 256 + x) / 256 = a from by omega, show (a * 256 + x) % 256 = x from by omega, List.append_assoc]
    rfl
theorem putG_spec : ∀ (ms ns out o : List Int), (∀ m ∈ ms, 1 ≤ m ∧ m ≤ 8) → ms.length = ns.length → (∀ n ∈ ns, 0 ≤ n) → putG ms ns out = some o →
    ∃ t, o = out ++ t ∧ (t.length : Int) = ms.sum ∧ Bytes t ∧ ∀ out', getG ms t out' = out' ++ ns
  | [], [], out, o, _, _, _, h => by
    unfold putG at h
    exact ⟨[], by rw [List.append_nil]; exact (Option.some.inj h).symm, rfl, fun y hy => absurd hy List.not_mem_nil, fun out' => by simp [getG]⟩
  | m :: ms, n :: ns, out, o, hm, hl, hn, h => by
    have hm1 := hm m List.mem_cons_self
    unfold putG at h
    by_cases hz : n / 256 ^ m.toNat = 0
    · rw [if_pos hz] at h
      obtain ⟨t, ho, ht, hb, hg⟩ := putG_spec ms ns (out ++ bg n m.toNat) o (fun y hy => hm y (List.mem_cons_of_mem _ hy)) (by simpa using hl) (fun y hy => hn y (List.mem_cons_of_mem _ hy)) h
      refine ⟨bg n m.toNat ++ t, by rw [ho, List.append_assoc], by rw [List.length_append, bg_length, List.sum_cons]; omega, fun y hy => ?_, fun out' => ?_⟩
      · rcases List.mem_append.1 hy with hy | hy
        · exact bg_bytes _ _ y hy
        · exact hb y hy
      · unfold getG
        rw [List.take_left' (bg_length _ _), List.drop_left' (bg_length _ _), vN_bg m.toNat n (hn n List.mem_cons_self) hz, hg]
        simp
    · rw [if_neg hz] at h
      cases h
  | [], _ :: _, _, _, _, h, _, _ => by simp at h
  | _ :: _, [], _, _, _, h, _, _ => by simp at h
theorem sum_nonneg : ∀ (l : List Int), (∀ y ∈ l, 1 ≤ y ∧ y ≤ 8) → 0 ≤ l.sum
  | [], _ => by simp
  | y :: l, h => by
    rw [List.sum_cons]
    have h1 := sum_nonneg l (fun z hz => h z (List.mem_cons_of_mem _ hz))
    have h2 := h y List.mem_cons_self
    omega
theorem getG_spec : ∀ (ms b out : List Int), (∀ m ∈ ms, 1 ≤ m ∧ m ≤ 8) → (b.length : Int) = ms.sum → Bytes b →
    ∃ t, getG ms b out = out ++ t ∧ t.length = ms.length ∧ (∀ n ∈ t, 0 ≤ n ∧ n < 18446744073709551616) ∧ ∀ out', putG ms t out' = some (out' ++ b)
  | [], b, out, _, hl, _ => by
    have : b = [] := List.eq_nil_of_length_eq_zero (by rw [List.sum_nil] at hl; omega)
    subst this
    exact ⟨[], by simp [getG], rfl, fun y hy => absurd hy List.not_mem_nil, fun out' => by simp [putG]⟩
  | m :: ms, b, out, hm, hl, hb => by
    have hm1 := hm m List.mem_cons_self
    have hs := sum_nonneg ms (fun y hy => hm y (List.mem_cons_of_mem _ hy))
    rw [List.sum_cons] at hl
    obtain ⟨t, hg, ht, hr, hp⟩ := getG_spec ms (b.drop m.toNat) (out ++ [vN (b.take m.toNat) 0]) (fun y hy => hm y (List.mem_cons_of_mem _ hy)) (by rw [List.length_drop]; omega) (fun y hy => hb y (List.mem_of_mem_drop hy))
    have hbt : Bytes (b.take m.toNat) := fun y hy => hb y (List.mem_of_mem_take hy)
    have hlt : (b.take m.toNat).length = m.toNat := by rw [List.length_take]; omega
    have hv := vN_range (b.take m.toNat) 0 0 hbt (by omega) (by decide)
    rw [hlt, Nat.zero_add] at hv
    have hpw := pow_bound m.toNat (by omega)
    refine ⟨vN (b.take m.toNat) 0 :: t, by unfold getG; rw [hg]; simp, by simp [ht], fun y hy => ?_, fun out' => ?_⟩
    · rcases List.mem_cons.1 hy with rfl | hy
      · exact ⟨hv.1, by omega⟩
      · exact hr y hy
    · unfold putG
      have hbg := bg_vN (b.take m.toNat) 0 0 hbt
      rw [hlt, Nat.add_zero] at hbg
      rw [if_pos (Int.ediv_eq_zero_of_lt hv.1 hv.2), hp, hbg]
      simp [bg]
theorem putF_ok (ws l : List Int) (h : (putF ws l).2 = 0) : 0 ≤ wideG ws 0 ∧ l.length = ws.length ∧ putG ws l [] = some (putF ws l).1 := by
  unfold putF at h ⊢
  by_cases hc : wideG ws 0 < 0 ∨ l.length ≠ ws.length
  · rw [if_pos hc] at h
    exact absurd h (by decide)
  · rw [if_neg hc] at h ⊢
    simp only [not_or, Decidable.not_not] at hc
    refine ⟨by omega, hc.2, ?_⟩
    cases hp : putG ws l [] with
    | none => rw [hp] at h; exact absurd h (by decide)
    | some x => rfl
theorem get_put (ws l : List Int) (hn : ∀ n ∈ l, 0 ≤ n) (h : (putF ws l).2 = 0) : getF ws (putF ws l).1 = (l, 0) ∧ Bytes (putF ws l).1 := by
  obtain ⟨h0, hl, hp⟩ := putF_ok ws l h
  have ha := wideG_all ws 0 (by omega) h0
  obtain ⟨t, ho, ht, hb, hg⟩ := putG_spec ws l [] _ ha hl.symm hn hp
  rw [List.nil_append] at ho
  rw [ho]
  refine ⟨?_, hb⟩
  unfold getF
  rw [if_pos (by rw [ht, wideG_sum ws 0 ha]; omega), hg]
  rfl
theorem put_get (ws b : List Int) (hb : Bytes b) (h : (getF ws b).2 = 0) : putF ws (getF ws b).1 = (b, 0) ∧ ∀ n ∈ (getF ws b).1, 0 ≤ n ∧ n < 18446744073709551616 := by
  unfold getF at h ⊢
  by_cases hc : (b.length : Int) = wideG ws 0
  · rw [if_pos hc]
    have ha := wideG_all ws 0 (by omega) (by omega)
    obtain ⟨t, ho, ht, hr, hp⟩ := getG_spec ws b [] ha (by rw [hc, wideG_sum ws 0 ha]; omega) hb
    rw [List.nil_append] at ho
    simp only [ho]
    refine ⟨?_, hr⟩
    unfold putF
    rw [if_neg (by simp only [not_or, Decidable.not_not]; exact ⟨by omega, ht⟩), hp]
    rfl
  · rw [if_neg hc] at h
    exact absurd h (by decide)
theorem putF_two (ws l : List Int) : (putF ws l).2 = 0 ∨ putF ws l = ([], 1) := by
  unfold putF
  split
  · exact .inr rfl
  · split
    · exact .inl rfl
    · exact .inr rfl
theorem getF_two (ws b : List Int) : (getF ws b).2 = 0 ∨ getF ws b = ([], 1) := by
  unfold getF
  split
  · exact .inl rfl
  · exact .inr rfl
end Go.Proofs.Ytoiiacbbfhlocaa.HKa
