import Derived.Test.YtoiiacbbfhlocaaHIb
section
/- Layer 13: the document's numbers and May. -/
set_option linter.unusedVariables false
set_option linter.unusedSimpArgs false
namespace Go.Proofs.Ytoiiacbbfhlocaa.HIa
open Go.RowKit Go.Proofs.YtoiiacbbfhlocaaW.PrintWords Go.Proofs.YtoiiacbbfhlocaaW.PrintLast Go.Proofs.YtoiiacbbfhlocaaW.PrintMore Go.Proofs.Ytoiiacbbfhlocaa.Kit Go.Proofs.Ytoiiacbbfhlocaa.Rc Go.Proofs.Ytoiiacbbfhlocaa.Iw Go.Proofs.Ytoiiacbbfhlocaa.HKa
set_option maxRecDepth 100000 in
set_option maxHeartbeats 1000000 in
theorem numbers_any (K B a b c d e : Int) (w : World) : Calls Try.prog 89 #[ino K B a b c d e] w fun en w' => ∃ v, en = .returned v ∧ Kd.R (Kd.int .i64) 3 w' w.heap.size (fun _ => True) v [K, B, a, b, c, d, e] ∧ Below w.heap.size w w' := by
  go_enter Try.func89, Try.ntmps89
  go_wp2_with fail
  go_ret
  have hb := below_alloc (below_alloc (Below.refl w.heap.size w) (.cells #[.int .i64 K, .int .i64 B, .int .i64 a, .int .i64 b, .int .i64 c, .int .i64 d, .int .i64 e] 52)) (.cells #[.int .i64 K, .int .i64 B, .int .i64 a, .int .i64 b, .int .i64 c, .int .i64 d, .int .i64 e] 3)
  have hr := (Arr.new (w.alloc (.cells #[.int .i64 K, .int .i64 B, .int .i64 a, .int .i64 b, .int .i64 c, .int .i64 d, .int .i64 e] 52)) .i64 3 [K, B, a, b, c, d, e]).row w.heap.size 7 rfl (by simp) (by decide) (fun _ => True) trivial
  rw [World.size_alloc] at hr
  exact ⟨_, rfl, hr, hb⟩
theorem zero_all (B a b c d e : Int) : (B == 0 && (decide (a = 0) && (decide (b = 0) && (decide (c = 0) && decide (d = 0))) && e == 0)) = true ↔ ∀ j, j < 7 → ([0, B, a, b, c, d, e] : List Int).getD j 0 = 0 := by
  simp only [Bool.and_eq_true, beq_iff_eq, decide_eq_true_eq]
  constructor
  · rintro ⟨rfl, ⟨rfl, rfl, rfl, rfl⟩, rfl⟩ j hj
    obtain rfl | rfl | rfl | rfl | rfl | rfl | rfl : j = 0 ∨ j = 1 ∨ j = 2 ∨ j = 3 ∨ j = 4 ∨ j = 5 ∨ j = 6 := by omega
    all_goals rfl
  · intro h
    exact ⟨h 1 (by omega), ⟨h 2 (by omega), h 3 (by omega), h 4 (by omega), h 5 (by omega)⟩, h 6 (by omega)⟩
set_option maxRecDepth 100000 in
set_option maxHeartbeats 2000000 in
theorem rmay_zero (B a b c d e : Int) (w : World) : Calls Try.prog 28 #[ino 0 B a b c d e] w (Tells (B == 0 && (decide (a = 0) && (decide (b = 0) && (decide (c = 0) && decide (d = 0))) && e == 0)) w) := by
  have HZ := Lib.hid (zero_all B a b c d e)
  generalize (B == 0 && (decide (a = 0) && (decide (b = 0) && (decide (c = 0) && decide (d = 0))) && e == 0)) = R at HZ ⊢
  go_enter Try.func28, Try.ntmps28
  go_wp2_with fail
  refine (numbers_any 0 B a b c d e _).mono ?_
  rintro en w1 ⟨v, rfl, hR, hB⟩
  have HA1 := Lib.hid ((Arr.new w .i64 52 [0, B, a, b, c, d, e]).next hB)
  have HB1 := Lib.hid (below_next (below_alloc (Below.refl _ _) _) hB)
  generalize hg0 : w.heap.size = g at HA1 ⊢
  obtain ⟨A0, cc0, rfl, hl0, hC0⟩ := Kd.R_reads hR
  obtain ⟨b0, o0, rfl, hcs⟩ := C_cells hC0 (by simp)
  obtain ⟨l, hl⟩ : ∃ l : List Int, l = [0, B, a, b, c, d, e] := ⟨_, rfl⟩
  rw [← hl] at HZ hcs
  have hll : l.length = 7 := by rw [hl]; rfl
  rw [hll] at hcs
  have HCS := Lib.hid hcs
  have hlt : b0 < w1.heap.size := cell_lt (hcs 0 (by omega))
  have hk0 := HA1.out.cellN 0 (by simp)
  clear hcs hR hC0 hl0 hB hl
  go_wp2_with fail
  go_loopw [4] (fun iv wr => ∃ q : Nat, iv = .int .i64 q ∧ q ≤ 7 ∧ Below w1.heap.size w1 wr ∧ ∀ j, j < q → l.getD j 0 = 0) (fun iv _ => 7 - (intOf iv).toNat)
  case atStart => exact ⟨0, rfl, by omega, Below.refl _ _, fun j hj => by omega⟩
  obtain ⟨q, rfl, hq, hBw, hz⟩ := hrel
  have HBw := Lib.hid hBw
  have HZZ := Lib.hid hz
  clear hBw hz
  by_cases hq7 : q < 7
  · have hqi : (q : Int) < 7 := by omega
    obtain ⟨x, hx⟩ : ∃ x, x = l.getD q 0 := ⟨_, rfl⟩
    have hcx : wr.cell? ⟨b0, o0 + q, none⟩ = some (.int .i64 x) := by rw [hx]; exact (HBw.out.cell (p := ⟨b0, o0 + q, none⟩) hlt).trans (HCS.out q hq7)
    have HX := Lib.hid hx
    clear hx
    by_cases hx0 : x = 0
    · subst hx0
      go_wp2_with fail
      go_roundw
      case rel => exact ⟨q + 1, rfl, by omega, HBw.out, fun j hj => by
        rcases Nat.lt_or_ge j q with h | h
        · exact HZZ.out j h
        · obtain rfl : j = q := by omega
          exact HX.out.symm⟩
      case measure => simp [intOf]; omega
    · have hRf : Hid (R = false) := Lib.hid (by rw [Bool.eq_false_iff]; exact fun hr => hx0 (by rw [HX.out]; exact HZ.out.1 hr q hq7))
      go_wp2_with fail
      go_ret
      exact ⟨by rw [hRf.out]; rfl, below_next HB1.out HBw.out⟩
  · obtain rfl : q = 7 := by omega
    have hRt : Hid (R = true) := Lib.hid (HZ.out.2 HZZ.out)
    go_wp2_with fail
    go_ret
    exact ⟨by rw [hRt.out]; rfl, below_next HB1.out HBw.out⟩
set_option maxRecDepth 100000 in
set_option maxHeartbeats 2000000 in
theorem rmay_bad (K B a b c d e : Int) (w : World) (hK : (K == 0) = false) (h : (K ≠ 1 ∧ K ≠ 2) ∨ B < 0 ∨ 2304 < B) : Calls Try.prog 28 #[ino K B a b c d e] w (Tells false w) := by
  have HH := Lib.hid h
  clear h
  go_enter Try.func28, Try.ntmps28
  go_wp2_with fail
  refine (numbers_any K B a b c d e _).mono ?_
  rintro en w1 ⟨v, rfl, hR, hB⟩
  have HA1 := Lib.hid ((Arr.new w .i64 52 [K, B, a, b, c, d, e]).next hB)
  have HB1 := Lib.hid (below_next (below_alloc (Below.refl _ _) _) hB)
  generalize hg0 : w.heap.size = g at HA1 ⊢
  have hk0 := HA1.out.cellN 0 (by simp)
  have hk1 := HA1.out.cellN 1 (by simp)
  clear hR hB
  go_wp2_with fail
  all_goals first
    | (go_ret; exact ⟨rfl, HB1.out⟩)
    | (exfalso; have h := HH.out; omega)
end Go.Proofs.Ytoiiacbbfhlocaa.HIa
end
section
/- Layer 13: the document's May, its loops. -/
set_option linter.unusedVariables false
set_option linter.unusedSimpArgs false
namespace Go.Proofs.Ytoiiacbbfhlocaa.HIa
open Go.RowKit Go.Proofs.YtoiiacbbfhlocaaW.PrintWords Go.Proofs.YtoiiacbbfhlocaaW.PrintLast Go.Proofs.YtoiiacbbfhlocaaW.PrintMore Go.Proofs.Ytoiiacbbfhlocaa.Kit Go.Proofs.Ytoiiacbbfhlocaa.Rc Go.Proofs.Ytoiiacbbfhlocaa.Iw Go.Proofs.Ytoiiacbbfhlocaa.HKa
set_option maxRecDepth 100000 in
set_option maxHeartbeats 8000000 in
theorem rmay_loop (K B a b c d e : Int) (xs : List Int) (hxs : xs = [a, b, c, d, e]) (w : World) (hK : K = 1 ∨ K = 2) (hB0 : 0 ≤ B) (hB1 : B ≤ 2304) : Calls Try.prog 28 #[ino K B a b c d e] w (Tells (mayG (dataF B) 0 xs []) w) := by
  have HD := Lib.hid (rdata_tells B (by omega) 4000 (by omega))
  generalize dataF B = D at HD ⊢
  have HXS := Lib.hid hxs
  have hxl : xs.length = 5 := by rw [hxs]; rfl
  obtain ⟨l, hl⟩ : ∃ l : List Int, l = [K, B, a, b, c, d, e] := ⟨_, rfl⟩
  have HLX : Hid (∀ j, l.getD (j + 2) 0 = xs.getD j 0) := Lib.hid (by intro j; rw [hl, hxs]; rfl)
  clear hxs
  have hk0' : (K == 0) = false := by rcases hK with rfl | rfl <;> rfl
  have hb0 : ¬ (B < 0) := by omega
  have hb1 : ¬ (2304 < B) := by omega
  go_enter Try.func28, Try.ntmps28
  go_wp2_with fail
  refine (numbers_any K B a b c d e _).mono ?_
  rintro en w1 ⟨v, rfl, hR, hB⟩
  rw [← hl] at hR
  have HA1 := Lib.hid ((Arr.new w .i64 52 [K, B, a, b, c, d, e]).next hB)
  have HB1 := Lib.hid (below_next (below_alloc (Below.refl _ _) _) hB)
  generalize hg0 : w.heap.size = g at HA1 ⊢
  have hk0 := HA1.out.cellN 0 (by simp)
  have hk1 := HA1.out.cellN 1 (by simp)
  obtain ⟨A0, cc0, rfl, hl0, hC0⟩ := Kd.R_reads hR
  have hll : l.length = 7 := by rw [hl]; rfl
  rw [hll] at hl0 hC0 ⊢
  obtain ⟨b0, o0, rfl, hcs⟩ := C_cells hC0 (by omega)
  have HCS := Lib.hid hcs
  have hlt : b0 < w1.heap.size := cell_lt (hcs 0 (by omega))
  clear hcs hR hC0 hl0 hB hl
  have hk1' : (K != 1) = true → (K != 2) = false := by rcases hK with rfl | rfl <;> decide
  go_wp2_with fail
  all_goals
    refine (padlockref13_Data.calls 4000 B D _ HD.out).mono ?_
    rintro en w2 ⟨rfl, hDr⟩
    have HB2 := Lib.hid (below_next HB1.out hDr.below)
    have HCT := Lib.hid (show ∀ j, j < 7 → w2.cell? ⟨b0, o0 + j, none⟩ = some (.int .i64 (l.getD j 0)) from fun j hj => (hDr.below.cell (p := ⟨b0, o0 + j, none⟩) hlt).trans (HCS.out j hj))
    have hlt2 : b0 < w2.heap.size := Nat.lt_of_lt_of_le hlt hDr.below.size
    clear hDr
    go_wp2_with fail
    go_loopw [6] (fun iv wr => ∃ q : Nat, iv = .int .i64 ((q + 2 : Nat) : Int) ∧ q ≤ 5 ∧ Below w2.heap.size w2 wr ∧ mayG D q (xs.drop q) (xs.take q) = mayG D 0 xs []) (fun iv _ => 7 - (intOf iv).toNat)
    case atStart => exact ⟨0, rfl, by omega, Below.refl _ _, rfl⟩
    obtain ⟨q, rfl, hq, hBw, hR⟩ := hrel
    have HBw := Lib.hid hBw
    have HR := Lib.hid hR
    clear hBw hR
    have HBR := Lib.hid (below_next HB2.out HBw.out)
    by_cases hq5 : q < 5
    rotate_left
    · obtain rfl : q = 5 := by omega
      have HRt : Hid (mayG D 0 xs [] = true) := Lib.hid (by rw [← HR.out, List.drop_eq_nil_of_le (by omega)]; rfl)
      go_wp2_with fail
      go_ret
      exact ⟨by rw [HRt.out]; rfl, HBR.out⟩
    obtain ⟨x, hx⟩ : ∃ x, x = xs.getD q 0 := ⟨_, rfl⟩
    have hcx : wr.cell? ⟨b0, o0 + (q + 2), none⟩ = some (.int .i64 x) := by rw [hx, ← HLX.out]; exact (HBw.out.cell (p := ⟨b0, o0 + (q + 2), none⟩) hlt2).trans (HCT.out (q + 2) (by omega))
    have HRx : Hid ((if x < 0 ∨ 127 < x ∨ needed D q ≠ decide (0 < x) ∨ (0 < x ∧ x ∈ xs.take q) then false else mayG D (q + 1) (xs.drop (q + 1)) (xs.take q ++ [x])) = mayG D 0 xs []) := Lib.hid (by rw [← HR.out, List.drop_eq_getElem_cons (show q < xs.length by omega), hx, List.getD_eq_getElem?_getD, List.getElem?_eq_getElem (show q < xs.length by omega)]; rfl)
    have HTK : Hid (xs.take (q + 1) = xs.take q ++ [x]) := Lib.hid (by rw [List.take_add_one, List.getElem?_eq_getElem (show q < xs.length by omega), hx, List.getD_eq_getElem?_getD, List.getElem?_eq_getElem (show q < xs.length by omega)]; rfl)
    have hqi : (q : Int) < 5 := by omega
    have HF : Hid (x < 0 ∨ 127 < x ∨ (¬ (((q : Int) < D ∧ (q : Int) < 4) ∨ ((q : Int) = 4 ∧ 4 < D)) ∧ 0 < x) ∨ ((((q : Int) < D ∧ (q : Int) < 4) ∨ ((q : Int) = 4 ∧ 4 < D)) ∧ ¬ 0 < x) → mayG D 0 xs [] = false) := Lib.hid (fun hC => by
      rw [← HRx.out, if_pos]
      rcases hC with h | h | h | h
      · exact .inl h
      · exact .inr (.inl h)
      · exact .inr (.inr (.inl (by rw [needed_eq, decide_eq_false h.1, decide_eq_true h.2]; decide)))
      · exact .inr (.inr (.inl (by rw [needed_eq, decide_eq_true h.1, decide_eq_false h.2]; decide))))
    have HF2 : Hid (∀ j, j < q → xs.getD j 0 = x → 0 < x → mayG D 0 xs [] = false) := Lib.hid (fun j hj he h0 => by
      rw [← HRx.out, if_pos]
      refine .inr (.inr (.inr ⟨h0, ?_⟩))
      rw [← he, List.getD_eq_getElem?_getD, List.getElem?_eq_getElem (show j < xs.length by omega)]
      exact List.mem_take_iff_getElem.2 ⟨j, by omega, rfl⟩)
    have HT : Hid (0 ≤ x ∧ x ≤ 127 → ((((q : Int) < D ∧ (q : Int) < 4) ∨ ((q : Int) = 4 ∧ 4 < D)) ↔ 0 < x) → (∀ j, j < q → ¬ (xs.getD j 0 = x ∧ 0 < x)) → mayG D (q + 1) (xs.drop (q + 1)) (xs.take (q + 1)) = mayG D 0 xs []) := Lib.hid (fun hr h1 h2 => by
      rw [← HRx.out, if_neg, HTK.out]
      rintro (h | h | h | h)
      · omega
      · omega
      · exact h (by rw [needed_eq]; exact decide_eq_decide.2 h1)
      · obtain ⟨j, hj, he⟩ := List.mem_take_iff_getElem.1 h.2
        refine h2 j (by omega) ⟨?_, h.1⟩
        rw [List.getD_eq_getElem?_getD, List.getElem?_eq_getElem (show j < xs.length by omega)]
        exact he)
    clear hx HRx HTK HR
    by_cases hxr : 0 ≤ x ∧ x ≤ 127
    rotate_left
    · have HRf := Lib.hid (HF.out (by rcases Int.lt_or_le x 0 with h | h; exact .inl h; exact .inr (.inl (by omega))))
      go_wp2_with fail
      all_goals (go_ret; exact ⟨by rw [HRf.out]; rfl, HBR.out⟩)
    by_cases hmt : (((q : Int) < D ∧ (q : Int) < 4) ∨ ((q : Int) = 4 ∧ 4 < D)) ↔ 0 < x
    rotate_left
    · have HRf := Lib.hid (HF.out (by omega))
      have HMT := Lib.hid hmt
      clear hmt
      rcases Nat.lt_or_ge q 4 with hq4 | hq4
      · have hbq : (decide (0 < x) != decide ((q : Int) < D)) = true := by
          rw [bne_iff_ne]
          intro h
          have h := decide_eq_decide.1 h
          exact HMT.out (by omega)
        go_wp2_with fail
        all_goals first
          | (go_ret; exact ⟨by rw [HRf.out]; rfl, HBR.out⟩)
          | (exfalso; have h := HMT.out; omega)
      · obtain rfl : q = 4 := by omega
        have hbq : (decide (0 < x) != decide (4 < D)) = true := by
          rw [bne_iff_ne]
          intro h
          have h := decide_eq_decide.1 h
          exact HMT.out (by omega)
        have hbq2 : (!(decide (0 < x) == decide (4 < D))) = true := hbq
        simp only [Nat.reduceAdd] at hcx ⊢
        go_wp2_with fail
        all_goals first
          | (go_ret; exact ⟨by rw [HRf.out]; rfl, HBR.out⟩)
          | (exfalso; have h := HMT.out; omega)
          | (trace_state; sorry)
    have HMT := Lib.hid hmt
    clear hmt
    obtain ⟨wo, hwo⟩ : ∃ W : World, W = wr := ⟨_, rfl⟩
    subst hwo
    have HTq := Lib.hid (HT.out hxr HMT.out)
    clear HT HF
    rcases Nat.lt_or_ge q 4 with hq4 | hq4
    rotate_left
    · obtain rfl : q = 4 := by omega
      have hbq : (decide (0 < x) != decide (4 < D)) = false := by
        have h := HMT.out
        have h2 : decide (0 < x) = decide (4 < D) := decide_eq_decide.2 (by omega)
        rw [h2, bne_self_eq_false]
      have hbq2 : (!(decide (0 < x) == decide (4 < D))) = false := hbq
      simp only [Nat.reduceAdd] at hcx ⊢
      go_wp2_with fail
      all_goals try (exfalso; have h := HMT.out; omega)
      all_goals
        go_loopw [7] (fun kv wr => ∃ p : Nat, kv = .int .i64 ((p + 2 : Nat) : Int) ∧ p ≤ 4 ∧ Below wo.heap.size wo wr ∧ ∀ j, j < p → ¬ (xs.getD j 0 = x ∧ 0 < x)) (fun kv _ => 7 - (intOf kv).toNat)
        case atStart => exact ⟨0, rfl, by omega, Below.refl _ _, fun j hj => by omega⟩
        obtain ⟨p, rfl, hp, hBi, hne⟩ := hrel
        have HBi := Lib.hid hBi
        have HNE := Lib.hid hne
        clear hBi hne
        have HBRi := Lib.hid (below_next HBR.out HBi.out)
        by_cases hpq : p < 4
        · obtain ⟨y, hy⟩ : ∃ y, y = xs.getD p 0 := ⟨_, rfl⟩
          have hcy : wr.cell? ⟨b0, o0 + (p + 2), none⟩ = some (.int .i64 y) := by rw [hy, ← HLX.out]; exact ((below_next HBw.out HBi.out).cell (p := ⟨b0, o0 + (p + 2), none⟩) hlt2).trans (HCT.out (p + 2) (by omega))
          have hcxi := (HBi.out.cell (p := ⟨b0, o0 + 6, none⟩) (Nat.lt_of_lt_of_le hlt2 HBw.out.size)).trans hcx
          have HY := Lib.hid hy
          have hpi : (p : Int) < 4 := by omega
          clear hy
          go_wp2_with fail
          by_cases hyx : y = x ∧ 0 < x
          · have HRf := Lib.hid (HF2.out p hpq (by rw [← HY.out]; exact hyx.1) hyx.2)
            obtain ⟨rfl, hx0⟩ := hyx
            go_quiet (fail)
            go_wp2_with fail
            go_ret
            exact ⟨by rw [HRf.out]; rfl, by (with_reducible repeat (first | exact HBRi.out | apply pw_below_drewN))⟩
          · have HNN := Lib.hid hyx
            have hyx' : (y == x) = true → (decide (0 < x)) = false := by
              intro h
              exact decide_eq_false (fun h0 => HNN.out ⟨by simpa using h, h0⟩)
            clear hyx
            by_cases hye : y = x
            · have hx0 : ¬ 0 < x := fun h0 => HNN.out ⟨hye, h0⟩
              subst hye
              go_quiet (fail)
              go_wp2_with fail
              go_roundw
              case rel => exact ⟨p + 1, by first | rfl | (congr 1; omega), by omega, by (with_reducible repeat (first | exact HBi.out | apply pw_below_drewN)), fun j hj => by
                rcases Nat.lt_or_ge j p with h | h
                · exact HNE.out j h
                · obtain rfl : j = p := by omega
                  rw [← HY.out]; exact HNN.out⟩
              case measure => first | (simp [intOf]; done) | (simp [intOf]; omega)
            · have hyb : (y == x) = false := by simpa using hye
              clear hye hyx'
              go_quiet (fail)
              go_wp2_with fail
              go_roundw
              case rel => exact ⟨p + 1, by first | rfl | (congr 1; omega), by omega, by (with_reducible repeat (first | exact HBi.out | apply pw_below_drewN)), fun j hj => by
                rcases Nat.lt_or_ge j p with h | h
                · exact HNE.out j h
                · obtain rfl : j = p := by omega
                  rw [← HY.out]; exact HNN.out⟩
              case measure => first | (simp [intOf]; done) | (simp [intOf]; omega)
        · obtain rfl : p = 4 := by omega
          have HRn := Lib.hid (HTq.out HNE.out)
          go_wp2_with fail
          go_roundw
          case rel => exact ⟨5, by first | rfl | (congr 1; omega), by omega, below_next HBw.out HBi.out, HRn.out⟩
          case measure => first | (simp [intOf]; done) | (simp [intOf]; omega)
    · have hbq : (decide (0 < x) != decide ((q : Int) < D)) = false := by
        have h := HMT.out
        have h2 : decide (0 < x) = decide ((q : Int) < D) := decide_eq_decide.2 (by omega)
        rw [h2, bne_self_eq_false]
      go_wp2_with fail
      all_goals try (exfalso; have h := HMT.out; omega)
      all_goals
        go_loopw [7] (fun kv wr => ∃ p : Nat, kv = .int .i64 ((p + 2 : Nat) : Int) ∧ p ≤ q ∧ Below wo.heap.size wo wr ∧ ∀ j, j < p → ¬ (xs.getD j 0 = x ∧ 0 < x)) (fun kv _ => 7 - (intOf kv).toNat)
        case atStart => exact ⟨0, rfl, by omega, Below.refl _ _, fun j hj => by omega⟩
        obtain ⟨p, rfl, hp, hBi, hne⟩ := hrel
        have HBi := Lib.hid hBi
        have HNE := Lib.hid hne
        clear hBi hne
        have HBRi := Lib.hid (below_next HBR.out HBi.out)
        by_cases hpq : p < q
        · obtain ⟨y, hy⟩ : ∃ y, y = xs.getD p 0 := ⟨_, rfl⟩
          have hcy : wr.cell? ⟨b0, o0 + (p + 2), none⟩ = some (.int .i64 y) := by rw [hy, ← HLX.out]; exact ((below_next HBw.out HBi.out).cell (p := ⟨b0, o0 + (p + 2), none⟩) hlt2).trans (HCT.out (p + 2) (by omega))
          have hcxi := (HBi.out.cell (p := ⟨b0, o0 + (q + 2), none⟩) (Nat.lt_of_lt_of_le hlt2 HBw.out.size)).trans hcx
          have HY := Lib.hid hy
          have hpi : (p : Int) < q := by omega
          clear hy
          go_wp2_with fail
          by_cases hyx : y = x ∧ 0 < x
          · have HRf := Lib.hid (HF2.out p hpq (by rw [← HY.out]; exact hyx.1) hyx.2)
            obtain ⟨rfl, hx0⟩ := hyx
            go_quiet (fail)
            go_wp2_with fail
            go_ret
            exact ⟨by rw [HRf.out]; rfl, by (with_reducible repeat (first | exact HBRi.out | apply pw_below_drewN))⟩
          · have HNN := Lib.hid hyx
            have hyx' : (y == x) = true → (decide (0 < x)) = false := by
              intro h
              exact decide_eq_false (fun h0 => HNN.out ⟨by simpa using h, h0⟩)
            clear hyx
            by_cases hye : y = x
            · have hx0 : ¬ 0 < x := fun h0 => HNN.out ⟨hye, h0⟩
              subst hye
              go_quiet (fail)
              go_wp2_with fail
              go_roundw
              case rel => exact ⟨p + 1, by first | rfl | (congr 1; omega), by omega, by (with_reducible repeat (first | exact HBi.out | apply pw_below_drewN)), fun j hj => by
                rcases Nat.lt_or_ge j p with h | h
                · exact HNE.out j h
                · obtain rfl : j = p := by omega
                  rw [← HY.out]; exact HNN.out⟩
              case measure => first | (simp [intOf]; done) | (simp [intOf]; omega)
            · have hyb : (y == x) = false := by simpa using hye
              clear hye hyx'
              go_quiet (fail)
              go_wp2_with fail
              go_roundw
              case rel => exact ⟨p + 1, by first | rfl | (congr 1; omega), by omega, by (with_reducible repeat (first | exact HBi.out | apply pw_below_drewN)), fun j hj => by
                rcases Nat.lt_or_ge j p with h | h
                · exact HNE.out j h
                · obtain rfl : j = p := by omega
                  rw [← HY.out]; exact HNN.out⟩
              case measure => first | (simp [intOf]; done) | (simp [intOf]; omega)
        · obtain rfl : p = q := by omega
          have HRn := Lib.hid (HTq.out HNE.out)
          go_wp2_with fail
          go_roundw
          case rel => exact ⟨p + 1, by first | rfl | (congr 1; omega), by omega, below_next HBw.out HBi.out, HRn.out⟩
          case measure => first | (simp [intOf]; done) | (simp [intOf]; omega)
theorem rmay_any (K B a b c d e : Int) (w : World) : Calls Try.prog 28 #[ino K B a b c d e] w (Tells (mayF K B a b c d e) w) := by
  unfold mayF
  by_cases hK : K = 0
  · subst hK
    rw [if_pos rfl]
    exact rmay_zero B a b c d e w
  · rw [if_neg hK]
    by_cases h : (K ≠ 1 ∧ K ≠ 2) ∨ B < 0 ∨ 2304 < B
    · rw [if_pos h]
      exact rmay_bad K B a b c d e w (by simpa using hK) h
    · rw [if_neg h]
      exact rmay_loop K B a b c d e _ rfl w (by omega) (by omega) (by omega)
end Go.Proofs.Ytoiiacbbfhlocaa.HIa
end
