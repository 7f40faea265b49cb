/- Layer 13: inode.Put's walk. -/
import Derived.Test.YtoiiacbbfhlocaaHIa
import Derived.Test.YtoiiacbbfhlocaaChs
set_option linter.unusedVariables false
set_option linter.unusedSimpArgs false
namespace Go.Proofs.Ytoiiacbbfhlocaa.HIa
open Go.RowKit Go.Proofs.YtoiiacbbfhlocaaW.PrintWords Go.Proofs.YtoiiacbbfhlocaaW.PrintLast Go.Proofs.YtoiiacbbfhlocaaW.PrintMore Go.Proofs.Ytoiiacbbfhlocaa.Kit Go.Proofs.Ytoiiacbbfhlocaa.Rc Go.Proofs.Ytoiiacbbfhlocaa.Iw Go.Proofs.Ytoiiacbbfhlocaa.HKa
theorem R_apart {k k' : IntKind} {e e' : Nat} {w w1 : World} {base base' : Nat} {ok ok' : Nat → Prop} {v v' : Value} {xs xs' : List Int} (h : Kd.R (Kd.int k) e w base ok v xs) (h' : Kd.R (Kd.int k') e' w base' ok' v' xs') (hne : e ≠ e') (hg : w.grownBy w1 v'.ownBlock) : Kd.R (Kd.int k) e w1 base ok v xs :=
  Kd.R_of_own (own_other (Kd.own_of_R h) hg (own_type_ne (Kd.own_of_R h) (Kd.own_of_R h') hne)) h.1
theorem mayG_range (D : Int) : ∀ (xs seen : List Int) (i : Nat), mayG D i xs seen = true → ∀ x ∈ xs, 0 ≤ x ∧ x ≤ 127
  | [], _, _, _ => by simp
  | x :: xs, seen, i, h => by
    unfold mayG at h
    split at h
    · cases h
    · rename_i hc
      intro y hy
      rcases List.mem_cons.1 hy with rfl | hy
      · constructor
        · rcases Int.lt_or_le y 0 with h1 | h1
          · exact absurd (.inl h1) hc
          · exact h1
        · rcases Int.lt_or_le 127 y with h1 | h1
          · exact absurd (.inr (.inl h1)) hc
          · exact h1
      · exact mayG_range D xs (seen ++ [x]) (i + 1) h y hy
theorem may_range {K B a b c d e : Int} (h : mayF K B a b c d e = true) : (0 ≤ K ∧ K ≤ 2) ∧ (0 ≤ B ∧ B ≤ 2304) ∧ ∀ x ∈ [a, b, c, d, e], 0 ≤ x ∧ x ≤ 127 := by
  unfold mayF at h
  split at h
  · rename_i hK
    simp only [Bool.and_eq_true, beq_iff_eq, decide_eq_true_eq] at h
    obtain ⟨hB, ⟨ha, hb, hc, hd⟩, he⟩ := h
    subst hB ha hb hc hd he
    exact ⟨by omega, by omega, by simp⟩
  · split at h
    · cases h
    · rename_i hK hc
      exact ⟨by omega, by omega, mayG_range _ _ _ _ h⟩
def putI (K B a b c d e : Int) : List Int × Int := if mayF K B a b c d e = true then putF [1, 2, 1, 1, 1, 1, 1] [K, B, a, b, c, d, e] else ([], 1)
attribute [local irreducible] putF mayF
set_option maxRecDepth 100000 in
set_option maxHeartbeats 4000000 in
theorem iput_any (K B a b c d e : Int) (w : World) : Calls Try.prog 27 #[ino K B a b c d e] w (PutOut (putI K B a b c d e) w) := by
  unfold putI
  by_cases hm : mayF K B a b c d e = true
  rotate_left
  · rw [if_neg hm]
    have hmf : mayF K B a b c d e = false := by simpa using hm
    go_enter Try.func27, Try.ntmps27
    go_wp2_with fail
    refine (may_any K B a b c d e _).mono ?_
    rintro en w1 ⟨rfl, hB⟩
    have HB := Lib.hid (below_next (below_alloc (Below.refl _ _) _) hB)
    rw [hmf]
    clear hB hm
    go_wp2_with fail
    go_ret2
    exact ⟨_, rfl, Kd.R_nil _ _ _ _ _, HB.out⟩
  rw [if_pos hm]
  obtain ⟨hK, hBB, hx⟩ := may_range hm
  have ha := hx a (by simp)
  have hb := hx b (by simp)
  have hc := hx c (by simp)
  have hd := hx d (by simp)
  have he := hx e (by simp)
  have HRNG : Hid (∀ n ∈ [K, B, a, b, c, d, e], 0 ≤ n ∧ n < 18446744073709551616) := Lib.hid (by
    intro n hn
    simp only [List.mem_cons, List.not_mem_nil, or_false] at hn
    omega)
  have huK := uwrap_id K hK.1 (by omega)
  have huB := uwrap_id B hBB.1 (by omega)
  have hue := uwrap_id e he.1 (by omega)
  have HXR := Lib.hid (show ∀ q : Nat, q < 4 → IntKind.u64.wrap ([a, b, c, d].getD q 0) = [a, b, c, d].getD q 0 from fun q hq => by
    obtain rfl | rfl | rfl | rfl : q = 0 ∨ q = 1 ∨ q = 2 ∨ q = 3 := by omega
    · exact uwrap_id a ha.1 (by omega)
    · exact uwrap_id b hb.1 (by omega)
    · exact uwrap_id c hc.1 (by omega)
    · exact uwrap_id d hd.1 (by omega))
  clear hx
  go_enter Try.func27, Try.ntmps27
  go_wp2_with fail
  refine (may_any K B a b c d e _).mono ?_
  rintro en w1 ⟨rfl, hB⟩
  have HA1 := Lib.hid ((Arr.new w .i64 52 [K, B, a, b, c, d, e]).next hB)
  have HB1 := Lib.hid (below_next (below_alloc (Below.refl _ _) _) hB)
  generalize hg0 : w.heap.size = g at HA1 ⊢
  have hk0 := HA1.out.cellN 0 (by simp)
  have hk1 := HA1.out.cellN 1 (by simp)
  rw [hm]
  clear hB hm
  have hbA := below_alloc (Below.refl w1.heap.size w1) (.cells #[.int .u64 K, .int .u64 B] 27)
  have HA2 := Lib.hid (HA1.out.next hbA)
  have HB2 := Lib.hid (below_next HB1.out hbA)
  have HR2 := Lib.hid ((Arr.new w1 .u64 27 [K, B]).row w.heap.size 2 rfl HB1.out.size (by decide) (fun _ => True) trivial)
  clear hbA
  go_wp2_with (first
    | ((with_reducible refine gate_dst (N := 18) rfl ?_); refine load_part rfl 50 _ rfl g 2 4 rfl .i64 52 _ [K, B, a, b, c, d, e] HA2.out (by simp) Try.underlying50 rfl (by kernel_rfl) ?_)
    | fail)
  go_loopw [4, 19] (fun sv iv wr => ∃ (q : Nat), iv = .int .i64 q ∧ q ≤ 4 ∧ Kd.R (Kd.int .u64) 27 wr w.heap.size (fun _ => True) sv ([K, B] ++ [a, b, c, d].take q) ∧ Arr .i64 52 wr g [K, B, a, b, c, d, e] ∧ Below w.heap.size w wr) (fun _ iv _ => 4 - (intOf iv).toNat)
  case atStart => exact ⟨0, rfl, by omega, HR2.out, HA2.out, HB2.out⟩
  obtain ⟨q, rfl, hq, hRv, hAw, hBw⟩ := hrel
  have HRv := Lib.hid hRv
  have HAw := Lib.hid hAw
  have HBw := Lib.hid hBw
  clear hRv hAw hBw HA1 HB1 HA2 HB2 HR2 hk0 hk1
  by_cases hq4 : q < 4
  · have hqi : (q : Int) < 4 := by omega
    obtain ⟨x, hx⟩ : ∃ x, x = [a, b, c, d].getD q 0 := ⟨_, rfl⟩
    have hxu := HXR.out q hq4
    have hix := index_nums (P := Try.prog) 50 3 4 .i64 [a, b, c, d] q Try.underlying50 Try.underlying3 (by kernel_rfl) rfl hq4
    rw [← hx] at hix hxu
    have HTK : Hid ([K, B] ++ [a, b, c, d].take (q + 1) = [K, B] ++ [a, b, c, d].take q ++ [x]) := Lib.hid (by rw [List.append_assoc, List.take_add_one, List.getElem?_eq_getElem (show q < [a, b, c, d].length from hq4), hx, List.getD_eq_getElem?_getD, List.getElem?_eq_getElem (show q < [a, b, c, d].length from hq4)]; rfl)
    have HLN : Hid (([K, B] ++ [a, b, c, d].take q).length ≤ 6) := Lib.hid (by simp; omega)
    have hbA := below_alloc (Below.refl wr.heap.size wr) (.cells #[.int .u64 x] 27)
    have HCA := Lib.hid (lit_reads .u64 [x] (cs := #[.int .u64 x]) (n := 1) rfl rfl (by decide) wr 27)
    have HRA := Lib.hid (Kd.R_below HRv.out hbA)
    have HAA := Lib.hid (HAw.out.next hbA)
    have HBA := Lib.hid (below_next HBw.out hbA)
    clear hx hbA HRv HAw HBw
    go_wp2_with (first
      | ((with_reducible refine gate_builtin (b := .append) (xs := #[.tmp 22, .tmp 25]) rfl ?_); at_builtin; refine Kd.R_append_row (Value.int .u64) (0 : Int) (h1 := fun _ => rfl) (w0 := w) w.heap.size rfl (.tmp 22) (.tmp 25) 38 27 (.int .u64 0) 8 rfl Try.underlying38 Go.Proofs.Ytoiiacbbfhlocaa.HKa.info27 rfl (by decide) u4 ([K, B] ++ [a, b, c, d].take q) [x] (some ⟨wr.heap.size, 0, none⟩) 1 1 (fun _ => True) rfl rfl (fun _ _ => trivial) HRA.out HCA.out HBA.out HBA.out.size (by have h := HLN.out; omega) ?_; intro v1 w5 ho5 hb5 hg5 hat5; have HO5 := Lib.hid ho5; have HB5 := Lib.hid hb5; have HG5 := Lib.hid hg5; clear ho5 hb5 hg5 hat5)
      | fail)
    go_roundw
    case rel =>
      refine ⟨q + 1, rfl, by omega, by rw [HTK.out]; exact HO5.out, ⟨(HG5.out.block g HAA.out.lt (fun ek => by obtain ⟨cells, hc⟩ := own_typed (Kd.own_of_R HRA.out) g ek.symm; rw [HAA.out.out] at hc; injection hc with hc; injection hc with _ hc2; revert hc2; decide)).trans HAA.out.out⟩, HB5.out⟩
    case measure => simp [intOf]; omega
  · obtain rfl : q = 4 := by omega
    obtain ⟨v, hv⟩ : ∃ v, v = u4 := ⟨_, rfl⟩
    subst hv
    go_wp2_with fail
    have HRv := Lib.hid (show Kd.R (Kd.int .u64) 27 wr w.heap.size (fun _ => True) v [K, B, a, b, c, d] from HRv.out)
    refine s_region (fun u => Arr .i64 52 u g [K, B, a, b, c, d, e]) (by kernel_rfl) 12 (by kernel_rfl) (HAw.out.drew) (fun hS => ?_)
    have HRd := Lib.hid (Kd.R_drew HRv.out)
    have HBd := Lib.hid (below_drew HBw.out)
    generalize wr.drew = wd at *
    refine s_take 1 (_) hS rfl (by kernel_rfl) (by kernel_rfl) (by kernel_rfl) (fun _ _ _ h => h) rfl (fun w' hw' => run_move_at _ rfl w') ?_
    simp only [Act.put, List.setIfInBounds_toArray, List.set_cons_zero, List.set_cons_succ]
    refine s_take 2 (.pointer (some ⟨g, 6, none⟩)) hS rfl (by kernel_rfl) (by kernel_rfl) (by kernel_rfl) (fun _ _ _ h => h) rfl (fun w' hw' => by (unfold execOp; simp [go_sem, Act.put, Act.eval])) ?_
    simp only [Act.put, List.setIfInBounds_toArray, List.set_cons_zero, List.set_cons_succ]
    refine s_take 3 (.int .i64 e) hS rfl (by kernel_rfl) (by kernel_rfl) (by kernel_rfl) (fun _ _ _ h => h) rfl (fun w' hw' => by (have hc0 := hw'.cellN 6 (by simp); unfold execOp; simp [go_sem, Act.put, Act.eval, hc0])) ?_
    simp only [Act.put, List.setIfInBounds_toArray, List.set_cons_zero, List.set_cons_succ]
    refine s_take 4 (.int .u64 e) hS rfl (by kernel_rfl) (by kernel_rfl) (by kernel_rfl) (fun _ _ _ h => h) rfl (fun w' hw' => by (have hc0 := hue; unfold execOp; simp [go_sem, Act.put, Act.eval, hc0])) ?_
    simp only [Act.put, List.setIfInBounds_toArray, List.set_cons_zero, List.set_cons_succ]
    refine s_two 0 5 rfl rfl (by kernel_rfl) ?_ ?_
    · refine g_call rfl 88 _ _ Try.func88 (by kernel_rfl) rfl _ _ #[] rfl (by simp [Act.put, Act.eval]) (inode_widths.calls [1, 2, 1, 1, 1, 1, 1] wd rfl) ?_
      rintro en W2 ⟨vw, rfl, hRw, hbW2⟩
      obtain ⟨Aw, cw, rfl, hlw, hCw⟩ := Kd.R_reads hRw
      have hS := (hS).next hbW2
      refine ⟨_, rfl, hS, ?_⟩
      simp only [Act.put, List.setIfInBounds_toArray, List.set_cons_zero, List.set_cons_succ]
      refine s_one 5 rfl (by kernel_rfl) ?_
      have hbWl := below_alloc (Below.refl W2.heap.size W2) (.cells #[.int .u64 e] 27)
      have HL := Arr.new W2 .u64 27 [e]
      refine g_event (.slice (some ⟨W2.heap.size, 0, none⟩) 1 1) (W2.alloc (.cells #[.int .u64 e] 27)) rfl (by (unfold execOp; simp [go_sem, Act.put, Act.eval])) ((hS).next hbWl) (fun hS => ?_)
      simp only [Act.put, List.setIfInBounds_toArray, List.set_cons_zero, List.set_cons_succ]
      obtain ⟨Wl, hWl⟩ : ∃ W, W = W2.alloc (.cells #[.int .u64 e] 27) := ⟨_, rfl⟩
      rw [show (W2.alloc (.cells (nums .u64 [e]).toArray 27)) = Wl from hWl.symm] at HL
      rw [← hWl] at hbWl hS ⊢
      have HLC : Kd.C (Kd.int .u64) Wl (some ⟨W2.heap.size, 0, none⟩) 1 [e] := (HL).reads 1 rfl (by decide)
      have HRW := Kd.R_below hRw hbWl
      have HSx : Below wd.heap.size wd Wl := below_next hbW2 hbWl
      have HVx := Kd.R_below HRd.out HSx
      have HBx := below_next HBd.out HSx
      refine s_one 6 rfl (by kernel_rfl) ?_
      intro K' hK'
      refine Kd.R_append_rows_step (Kd.int .u64) (w0 := w) w.heap.size (by rfl) (.tmp 29) (.tmp 33) 38 27 (.int .u64 0) 8 (by rfl) Try.underlying38 Go.Proofs.Ytoiiacbbfhlocaa.HKa.info27 rfl (by decide) (by decide) v [K, B, a, b, c, d] [e] (some ⟨W2.heap.size, 0, none⟩) 1 1 (fun _ => True) (fun _ => False) (by rfl) (by rfl) (by exact HVx) (by exact HLC) (fun _ _ h => h) (fun _ h => h.elim) (fun _ _ => trivial) (by exact HBx) (by exact HBx.size) (by simp) ?_
      intro v8 w8 ho8 hb8 hg8 hat8
      obtain ⟨A8, c8, rfl, hl8, hC8⟩ := Kd.R_reads ho8
      have hS8 : Arr .i64 52 w8 g [K, B, a, b, c, d, e] := ⟨(hg8.block g hS.lt (fun ek => by obtain ⟨cells, hc⟩ := own_typed (Kd.own_of_R HVx) g ek.symm; rw [hS.out] at hc; injection hc with hc; injection hc with _ hc2; revert hc2; decide)).trans hS.out⟩
      have hCW8 := (Kd.R_reads' (R_apart HRW HVx (by decide) hg8)).2.2
      refine hK'.out _ _ hS8 ?_
      simp only [Act.put, List.setIfInBounds_toArray, List.set_cons_zero, List.set_cons_succ]
      refine s_one 7 rfl (by kernel_rfl) ?_
      refine g_call rfl 19 _ _ Try.func19 (by kernel_rfl) rfl _ _ #[.slice Aw 7 cw, .slice A8 7 c8] rfl (by simp [Act.put, Act.eval]) (put_any Aw cw [1, 2, 1, 1, 1, 1, 1] A8 c8 [K, B, a, b, c, d, e] w8 hCW8 hlw hC8 hl8 (by decide) HRNG.out) ?_
      rintro en w9 ⟨v9, rfl, hR9, hb9⟩
      have hS9 := hS8.next hb9
      have hB9 := below_next hb8 hb9
      have hR9' := Kd.R_lower hR9 hb8.size
      refine ⟨_, rfl, hS9, ?_⟩
      simp only [Act.put, List.setIfInBounds_toArray, List.set_cons_zero, List.set_cons_succ]
      refine s_take 8 (v9) hS9 rfl (by kernel_rfl) (by kernel_rfl) (by kernel_rfl) (fun _ _ _ h => h) rfl (fun w' hw' => by (unfold execOp; simp [go_sem, Act.put, Act.eval])) ?_
      simp only [Act.put, List.setIfInBounds_toArray, List.set_cons_zero, List.set_cons_succ]
      refine s_take 9 (.int .i64 (putF [1, 2, 1, 1, 1, 1, 1] [K, B, a, b, c, d, e]).2) hS9 rfl (by kernel_rfl) (by kernel_rfl) (by kernel_rfl) (fun _ _ _ h => h) rfl (fun w' hw' => by (unfold execOp; simp [go_sem, Act.put, Act.eval])) ?_
      simp only [Act.put, List.setIfInBounds_toArray, List.set_cons_zero, List.set_cons_succ]
      refine s_take 10 (v9) hS9 rfl (by kernel_rfl) (by kernel_rfl) (by kernel_rfl) (fun _ _ _ h => h) rfl (fun w' hw' => by (unfold execOp; simp [go_sem, Act.put, Act.eval])) ?_
      simp only [Act.put, List.setIfInBounds_toArray, List.set_cons_zero, List.set_cons_succ]
      refine s_take 11 (.int .i64 (putF [1, 2, 1, 1, 1, 1, 1] [K, B, a, b, c, d, e]).2) hS9 rfl (by kernel_rfl) (by kernel_rfl) (by kernel_rfl) (fun _ _ _ h => h) rfl (fun w' hw' => by (unfold execOp; simp [go_sem, Act.put, Act.eval])) ?_
      simp only [Act.put, List.setIfInBounds_toArray, List.set_cons_zero, List.set_cons_succ]
      refine s_done (by kernel_rfl) ?_
      go_wp2_with fail
      go_ret2
      exact ⟨v9, rfl, hR9', hB9⟩
    · have hbWl := below_alloc (Below.refl wd.heap.size wd) (.cells #[.int .u64 e] 27)
      have HL := Arr.new wd .u64 27 [e]
      refine g_event (.slice (some ⟨wd.heap.size, 0, none⟩) 1 1) (wd.alloc (.cells #[.int .u64 e] 27)) rfl (by (unfold execOp; simp [go_sem, Act.put, Act.eval])) ((hS).next hbWl) (fun hS => ?_)
      simp only [Act.put, List.setIfInBounds_toArray, List.set_cons_zero, List.set_cons_succ]
      obtain ⟨Wl, hWl⟩ : ∃ W, W = wd.alloc (.cells #[.int .u64 e] 27) := ⟨_, rfl⟩
      rw [show (wd.alloc (.cells (nums .u64 [e]).toArray 27)) = Wl from hWl.symm] at HL
      rw [← hWl] at hbWl hS ⊢
      refine s_one 0 rfl (by kernel_rfl) ?_
      refine g_call rfl 88 _ _ Try.func88 (by kernel_rfl) rfl _ _ #[] rfl (by simp [Act.put, Act.eval]) (inode_widths.calls [1, 2, 1, 1, 1, 1, 1] Wl rfl) ?_
      rintro en W2 ⟨vw, rfl, hRw, hbW2⟩
      obtain ⟨Aw, cw, rfl, hlw, hCw⟩ := Kd.R_reads hRw
      have hS := (hS).next hbW2
      refine ⟨_, rfl, hS, ?_⟩
      simp only [Act.put, List.setIfInBounds_toArray, List.set_cons_zero, List.set_cons_succ]
      have HLC : Kd.C (Kd.int .u64) W2 (some ⟨wd.heap.size, 0, none⟩) 1 [e] := (HL.next hbW2).reads 1 rfl (by decide)
      have HRW := hRw
      have HSx : Below wd.heap.size wd W2 := below_next hbWl hbW2
      have HVx := Kd.R_below HRd.out HSx
      have HBx := below_next HBd.out HSx
      refine s_one 6 rfl (by kernel_rfl) ?_
      intro K' hK'
      refine Kd.R_append_rows_step (Kd.int .u64) (w0 := w) w.heap.size (by rfl) (.tmp 29) (.tmp 33) 38 27 (.int .u64 0) 8 (by rfl) Try.underlying38 Go.Proofs.Ytoiiacbbfhlocaa.HKa.info27 rfl (by decide) (by decide) v [K, B, a, b, c, d] [e] (some ⟨wd.heap.size, 0, none⟩) 1 1 (fun _ => True) (fun _ => False) (by rfl) (by rfl) (by exact HVx) (by exact HLC) (fun _ _ h => h) (fun _ h => h.elim) (fun _ _ => trivial) (by exact HBx) (by exact HBx.size) (by simp) ?_
      intro v8 w8 ho8 hb8 hg8 hat8
      obtain ⟨A8, c8, rfl, hl8, hC8⟩ := Kd.R_reads ho8
      have hS8 : Arr .i64 52 w8 g [K, B, a, b, c, d, e] := ⟨(hg8.block g hS.lt (fun ek => by obtain ⟨cells, hc⟩ := own_typed (Kd.own_of_R HVx) g ek.symm; rw [hS.out] at hc; injection hc with hc; injection hc with _ hc2; revert hc2; decide)).trans hS.out⟩
      have hCW8 := (Kd.R_reads' (R_apart HRW HVx (by decide) hg8)).2.2
      refine hK'.out _ _ hS8 ?_
      simp only [Act.put, List.setIfInBounds_toArray, List.set_cons_zero, List.set_cons_succ]
      refine s_one 7 rfl (by kernel_rfl) ?_
      refine g_call rfl 19 _ _ Try.func19 (by kernel_rfl) rfl _ _ #[.slice Aw 7 cw, .slice A8 7 c8] rfl (by simp [Act.put, Act.eval]) (put_any Aw cw [1, 2, 1, 1, 1, 1, 1] A8 c8 [K, B, a, b, c, d, e] w8 hCW8 hlw hC8 hl8 (by decide) HRNG.out) ?_
      rintro en w9 ⟨v9, rfl, hR9, hb9⟩
      have hS9 := hS8.next hb9
      have hB9 := below_next hb8 hb9
      have hR9' := Kd.R_lower hR9 hb8.size
      refine ⟨_, rfl, hS9, ?_⟩
      simp only [Act.put, List.setIfInBounds_toArray, List.set_cons_zero, List.set_cons_succ]
      refine s_take 8 (v9) hS9 rfl (by kernel_rfl) (by kernel_rfl) (by kernel_rfl) (fun _ _ _ h => h) rfl (fun w' hw' => by (unfold execOp; simp [go_sem, Act.put, Act.eval])) ?_
      simp only [Act.put, List.setIfInBounds_toArray, List.set_cons_zero, List.set_cons_succ]
      refine s_take 9 (.int .i64 (putF [1, 2, 1, 1, 1, 1, 1] [K, B, a, b, c, d, e]).2) hS9 rfl (by kernel_rfl) (by kernel_rfl) (by kernel_rfl) (fun _ _ _ h => h) rfl (fun w' hw' => by (unfold execOp; simp [go_sem, Act.put, Act.eval])) ?_
      simp only [Act.put, List.setIfInBounds_toArray, List.set_cons_zero, List.set_cons_succ]
      refine s_take 10 (v9) hS9 rfl (by kernel_rfl) (by kernel_rfl) (by kernel_rfl) (fun _ _ _ h => h) rfl (fun w' hw' => by (unfold execOp; simp [go_sem, Act.put, Act.eval])) ?_
      simp only [Act.put, List.setIfInBounds_toArray, List.set_cons_zero, List.set_cons_succ]
      refine s_take 11 (.int .i64 (putF [1, 2, 1, 1, 1, 1, 1] [K, B, a, b, c, d, e]).2) hS9 rfl (by kernel_rfl) (by kernel_rfl) (by kernel_rfl) (fun _ _ _ h => h) rfl (fun w' hw' => by (unfold execOp; simp [go_sem, Act.put, Act.eval])) ?_
      simp only [Act.put, List.setIfInBounds_toArray, List.set_cons_zero, List.set_cons_succ]
      refine s_done (by kernel_rfl) ?_
      go_wp2_with fail
      go_ret2
      exact ⟨v9, rfl, hR9', hB9⟩
end Go.Proofs.Ytoiiacbbfhlocaa.HIa
