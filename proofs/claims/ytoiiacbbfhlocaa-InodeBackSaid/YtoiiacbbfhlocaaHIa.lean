/- Layer 13: inodes as seven numbers; inode.May's first cases. -/
import Derived.Test.YtoiiacbbfhlocaaPIa
import Derived.Test.YtoiiacbbfhlocaaHKd
import Derived.Test.YtoiiacbbfhlocaaEq
import Derived.ArgAppend
set_option linter.unusedVariables false
set_option linter.unusedSimpArgs false
namespace Go.Proofs.Ytoiiacbbfhlocaa.HIa
open Go.RowKit Go.Proofs.YtoiiacbbfhlocaaW.PrintWords Go.Proofs.YtoiiacbbfhlocaaW.PrintLast Go.Proofs.YtoiiacbbfhlocaaW.PrintMore Go.Proofs.Ytoiiacbbfhlocaa.Kit Go.Proofs.Ytoiiacbbfhlocaa.Rc Go.Proofs.Ytoiiacbbfhlocaa.Iw Go.Proofs.Ytoiiacbbfhlocaa.HKa
abbrev ino (K B a b c d e : Int) : Value := .agg #[.int .i64 K, .int .i64 B, .int .i64 a, .int .i64 b, .int .i64 c, .int .i64 d, .int .i64 e]
theorem eq_ino (K B a b c d e K' B' a' b' c' d' e' : Int) (w : World) :
    (Op.equalIn 10000 52 (ino K B a b c d e) (ino K' B' a' b' c' d' e')).run Try.prog w = .ok (K == K' && (B == B' && (decide ([a, b, c, d] = [a', b', c', d']) && e == e'))) w := by
  refine eqA_of (d := 9999) Try.underlying52 (by kernel_rfl) ?_
  refine eqf_cons (a := .int .i64 K) (b := .int .i64 K') rfl (by kernel_rfl) (by kernel_rfl) (run_equalIn_int _ _ _ _ _ _ _ Try.underlying3) ?_
  refine eqf_cons (a := .int .i64 B) (b := .int .i64 B') rfl (by kernel_rfl) (by kernel_rfl) (run_equalIn_int _ _ _ _ _ _ _ Try.underlying3) ?_
  refine eqf_cons (a := .agg (nums .i64 [a, b, c, d]).toArray) (b := .agg (nums .i64 [a', b', c', d']).toArray) rfl (by kernel_rfl) (by kernel_rfl) (equal_nums _ 3 4 .i64 _ _ (by kernel_rfl) Try.underlying3 (by kernel_rfl) rfl rfl _ _) ?_
  exact eqf_last (a := .int .i64 e) (b := .int .i64 e') rfl (by kernel_rfl) (by kernel_rfl) (run_equalIn_int _ _ _ _ _ _ _ Try.underlying3)
def Tells (b : Bool) (w : World) (e : Ending) (w' : World) : Prop := e = .returned (.bool b) ∧ Below w.heap.size w w'
set_option maxRecDepth 100000 in
theorem may_zero (B a b c d e : Int) (w : World) : Calls Try.prog 29 #[ino 0 B a b c d e] w (Tells (B == 0 && (decide (a = 0) && (decide (b = 0) && (decide (c = 0) && decide (d = 0))) && e == 0)) w) := by
  have he := fun w => eq_ino 0 B a b c d e 0 0 0 0 0 0 0 w
  go_enter Try.func29, Try.ntmps29
  go_wp2_with fail
  go_ret
  exact ⟨rfl, below_alloc (Below.refl _ _) _⟩
set_option maxRecDepth 100000 in
theorem may_bad (K B a b c d e : Int) (w : World) (hK : (K == 0) = false) (h : (K ≠ 1 ∧ K ≠ 2) ∨ B < 0 ∨ 2304 < B) : Calls Try.prog 29 #[ino K B a b c d e] w (Tells false w) := by
  have HH := Lib.hid h
  clear h
  go_enter Try.func29, Try.ntmps29
  go_wp2_with fail
  all_goals first
    | (go_ret; exact ⟨rfl, below_alloc (Below.refl _ _) _⟩)
    | (exfalso; have h := HH.out; omega)
/-- a block that holds an array of truth values -/
structure BArr (T : TypeId) (w : World) (g : Nat) (xs : List Bool) : Prop where
  out : w.heap[g]? = some (.cells (bools xs).toArray T (0, 0))
namespace BArr
variable {T : TypeId} {w w1 : World} {g : Nat} {xs : List Bool}
theorem lt (h : BArr T w g xs) : g < w.heap.size := (Array.getElem?_eq_some_iff.1 h.out).1
theorem cellN (h : BArr T w g xs) (j : Nat) (hj : j < xs.length) : w.cell? ⟨g, j, none⟩ = some (.bool (xs.getD j false)) := by
  rw [cell_of_row w g j _ _ _ h.out]
  simp [bools, hj]
theorem free (h : BArr T w g xs) (j : Nat) : w.frozen? ⟨g, j, none⟩ = false := frozen_of_row w g j _ _ h.out
theorem put (h : BArr T w g xs) (j : Nat) (x : Bool) : BArr T (w.setCell ⟨g, j, none⟩ (.bool x)) g (xs.set j x) := by
  refine ⟨?_⟩
  rw [setCell_eq_setRow w g j _ _ _ _ h.out, setRow_heap w g _ _ _ _ h.out]
  congr 2
  apply Array.ext'
  simp [bools, List.map_set]
theorem next (h : BArr T w g xs) (hb : Below w.heap.size w w1) : BArr T w1 g xs := ⟨(hb.block g h.lt).trans h.out⟩
theorem drew (h : BArr T w g xs) : BArr T w.drew g xs := ⟨h.out⟩
end BArr
section
variable {P : Program} {ops : Array Oper} {rest : List Oper} {o : Oper} {a : Act} {Q : Exit → Act → World → Prop} {W : World}
theorem alloc_bools (hgd : o.guard = none) (T : TypeId) (ho : o.op = .alloc T) (xs : List Bool)
    (hrun : (execOp a.eval o).run P W = .ok (.value (.pointer (some ⟨W.heap.size, 0, none⟩))) (W.alloc (.cells (bools xs).toArray T)))
    (h : ∀ w1, BArr T w1 W.heap.size xs → Below W.heap.size W w1 → wpList P ops Q rest (a.put o.dst (.pointer (some ⟨W.heap.size, 0, none⟩))) w1) : wpList P ops Q (o :: rest) a W :=
  Kd.event_run hgd hrun (h _ ⟨heap_alloc_new W _⟩ (below_alloc (Below.refl _ _) _))
end
theorem run_appn {P : Program} {o : Oper} {a : Act} {w w' : World} {v : Value} (s x : Operand) (t : TypeId) (ho : o.op = .call { callee := .builtin .append, args := #[s, x], argTypes := #[t, t] }) (vs vx : Value) (hs : a.eval s = vs) (hx : a.eval x = vx)
    (h : (Builtin.append_ #[t, t] o.type #[vs, vx]).run P w = .ok v w') : (execOp a.eval o).run P w = .ok (.value v) w' := by
  unfold execOp
  simp only [ho, resolve, invoke, builtin, Sem.run_bind, Sem.run_pure, Result.andThen_ok, List.map_toArray, List.map_cons, List.map_nil, hs, hx, h]
theorem info3 : (Try.prog.info? 3).map (fun i => (i.zero, i.size, i.bytes)) = some (some (.int .i64 0), 1, 8) := by kernel_rfl
def needed (n : Int) (i : Nat) : Bool := decide ((i : Int) < n ∧ i < 4) || (decide (i = 4) && decide (4 < n))
def mayG (n : Int) : Nat → List Int → List Int → Bool
  | i, x :: xs, seen => if x < 0 ∨ 127 < x ∨ needed n i ≠ decide (0 < x) ∨ (0 < x ∧ x ∈ seen) then false else mayG n (i + 1) xs (seen ++ [x])
  | _, [], _ => true
theorem set_mem (M : List Bool) (hl : M.length = 128) (S : List Int) (h : ∀ j : Nat, j < 128 → M.getD j false = decide ((j : Int) ∈ S)) (x : Int) (hx : 0 ≤ x ∧ x ≤ 127) : ∀ j : Nat, j < 128 → (M.set x.toNat true).getD j false = decide ((j : Int) ∈ S ++ [x]) := by
  intro j hj
  have h1 := h j hj
  rw [List.getD_eq_getElem?_getD] at h1 ⊢
  rw [List.getElem?_set]
  by_cases he : x.toNat = j
  · rw [if_pos he, if_pos (by omega)]
    have : (j : Int) = x := by omega
    simp [this]
  · rw [if_neg he, h1]
    have : ¬ (j : Int) = x := by omega
    simp [this]
theorem needed_eq (D : Int) (q : Nat) : needed D q = decide (((q : Int) < D ∧ (q : Int) < 4) ∨ ((q : Int) = 4 ∧ 4 < D)) := by
  unfold needed
  rw [Bool.eq_iff_iff]
  simp only [Bool.or_eq_true, Bool.and_eq_true, decide_eq_true_eq]
  omega
set_option maxRecDepth 100000 in
set_option maxHeartbeats 8000000 in
theorem may_loop (K B a b c d e D : Int) (xs : List Int) (hxs : xs = [a, b, c, d, e]) (w : World) (hK : K = 1 ∨ K = 2) (hB0 : 0 ≤ B) (hB1 : B ≤ 2304) (hD : inode_data.f B = some D) : Calls Try.prog 29 #[ino K B a b c d e] w (Tells (mayG D 0 xs []) w) := by
  have HXS := Lib.hid hxs
  clear hxs
  have hk0 : (K == 0) = false := by rcases hK with rfl | rfl <;> rfl
  have hb0 : ¬ (B < 0) := by omega
  have hb1 : ¬ (2304 < B) := by omega
  go_enter Try.func29, Try.ntmps29
  obtain ⟨KK, hKK⟩ : ∃ k, k = K := ⟨_, rfl⟩
  rcases hK with rfl | rfl
  · go_wp2_with fail
    refine (inode_data.calls B D _ hD).mono ?_
    rintro en w1 ⟨rfl, hDr⟩
    have HA1 := Lib.hid ((Arr.new w .i64 52 [1, B, a, b, c, d, e]).next hDr)
    have HB1 := Lib.hid (below_next (below_alloc (Below.refl _ _) _) hDr)
    clear hDr
    go_wp2_with (first
      | ((with_reducible refine gate_dst (N := 4) rfl ?_); refine alloc_bools rfl 137 rfl (List.replicate 128 false) (by first | (go_simp; done) | (go_simp; rfl)) ?_; intro w2 hM2 hB2; have HM2 := Lib.hid hM2; have HA2 := Lib.hid (HA1.out.next hB2); have HB2 := Lib.hid (below_next HB1.out hB2); clear hM2 hB2)
      | fail)
    have hgm0 : w.heap.size ≤ w1.heap.size := HB1.out.size
    generalize w1.heap.size = gm at *
    generalize hg0 : w.heap.size = g at HA1 HA2 ⊢
    refine s_region (fun u => Below w2.drew.heap.size w2.drew u) (by kernel_rfl) 7 (by kernel_rfl) (Below.refl _ _) (fun hS => ?_)
    have HAd := Lib.hid HA2.out.drew
    have HMd := Lib.hid HM2.out.drew
    have HBd := Lib.hid (below_drew HB2.out)
    generalize w2.drew = wd at *
    clear HA1 HB1 HA2 HM2 HB2
    refine s_take 0 (.pointer (some ⟨g, 2, none⟩)) hS rfl (by kernel_rfl) (by kernel_rfl) (by kernel_rfl) (fun _ _ _ h => h) rfl (fun w' hw' => by (unfold execOp; simp [go_sem, Act.put, Act.eval])) ?_
    simp only [Act.put, List.setIfInBounds_toArray, List.set_cons_zero, List.set_cons_succ]
    refine s_take 1 (.slice (some ⟨g, 2, none⟩) 4 4) hS rfl (by kernel_rfl) (by kernel_rfl) (by kernel_rfl) (fun _ _ _ h => h) rfl (fun w' hw' => by (unfold execOp; simp [go_sem, Act.put, Act.eval])) ?_
    simp only [Act.put, List.setIfInBounds_toArray, List.set_cons_zero, List.set_cons_succ]
    refine s_take 2 (.pointer (some ⟨g, 6, none⟩)) hS rfl (by kernel_rfl) (by kernel_rfl) (by kernel_rfl) (fun _ _ _ h => h) rfl (fun w' hw' => by (unfold execOp; simp [go_sem, Act.put, Act.eval])) ?_
    simp only [Act.put, List.setIfInBounds_toArray, List.set_cons_zero, List.set_cons_succ]
    refine s_take 3 (.int .i64 e) hS rfl (by kernel_rfl) (by kernel_rfl) (by kernel_rfl) (fun _ _ _ h => h) rfl (fun w' hw' => by (have hc0 := (HAd.out.next hw').cellN 6 (by simp); unfold execOp; simp [go_sem, Act.put, Act.eval, hc0])) ?_
    simp only [Act.put, List.setIfInBounds_toArray, List.set_cons_zero, List.set_cons_succ]
    have hSA := below_alloc hS (.cells #[.int .i64 e] 3)
    refine s_event 4 (.slice (some ⟨wd.heap.size, 0, none⟩) 1 1) ((wd.alloc (.cells #[.int .i64 e] 3))) rfl (by kernel_rfl) rfl (by (unfold execOp; simp [go_sem, Act.put, Act.eval])) (hSA) (fun hS => ?_)
    simp only [Act.put, List.setIfInBounds_toArray, List.set_cons_zero, List.set_cons_succ]
    have hNew : (wd.alloc (.cells #[.int .i64 e] 3)).cell? ⟨wd.heap.size, 0, none⟩ = some (.int .i64 e) := (Arr.new wd .i64 3 [e]).cellN 0 (by simp)
    have HA5 := HAd.out.alloc (.cells #[.int .i64 e] 3)
    obtain ⟨i0, hi, hz0, hz1, hz2⟩ := info_parts info3
    obtain ⟨v5, w5, hrun5, hown5, hgr5⟩ := run_append_arg_grows (P := Try.prog) (wd.alloc (.cells #[.int .i64 e] 3)) 37 37 3 i0 (.int .i64 0) 1 8 Try.underlying37 hi hz0 hz1 hz2 rfl (by decide) ⟨g, 2, none⟩ 4 4 [.int .i64 a, .int .i64 b, .int .i64 c, .int .i64 d] rfl
      (by intro j u hu; have hj : j < 4 := (List.getElem?_eq_some_iff.1 hu).1; have h := HA5.cellN (2 + j) (by simp; omega); obtain rfl | rfl | rfl | rfl : j = 0 ∨ j = 1 ∨ j = 2 ∨ j = 3 := by omega
          all_goals (obtain rfl := Option.some.inj hu; exact h))
      ⟨wd.heap.size, 0, none⟩ 1 1 [.int .i64 e] rfl (by intro j u hu; have hj : j < 1 := (List.getElem?_eq_some_iff.1 hu).1; obtain rfl : j = 0 := by omega
                                                        obtain rfl := Option.some.inj hu; exact hNew) (by decide) (by decide) (by decide)
    have hB5 : Below (wd.alloc (.cells #[.int .i64 e] 3)).heap.size (wd.alloc (.cells #[.int .i64 e] 3)) w5 := (Below.refl _ _).grown hgr5 (Nat.le_refl _) (fun k e => by cases e)
    have hS5 := below_next hSA hB5
    have hown5' : w5.ownsRow (wd.alloc (.cells #[.int .i64 e] 3)).heap.size 3 1 v5 5 (nums .i64 xs) := by rw [HXS.out]; exact hown5
    obtain ⟨A5, c5, rfl, hrd⟩ := own_reads hown5'
    obtain ⟨b5, o5, rfl, hc5⟩ := C_cells (Kd.C_of_reads (d := (0 : Int)) (h1 := fun _ => rfl) hrd) (by decide)
    refine s_event 5 (.slice (some ⟨b5, o5, none⟩) 5 c5) (w5) rfl (by kernel_rfl) rfl (run_appn _ _ _ rfl _ _ rfl rfl hrun5) (hS5) (fun hS => ?_)
    simp only [Act.put, List.setIfInBounds_toArray, List.set_cons_zero, List.set_cons_succ]
    refine s_take 6 (.slice (some ⟨b5, o5, none⟩) 5 c5) hS rfl (by kernel_rfl) (by kernel_rfl) (by kernel_rfl) (fun _ _ _ h => h) rfl (fun w' hw' => by (unfold execOp; simp [go_sem, Act.put, Act.eval])) ?_
    simp only [Act.put, List.setIfInBounds_toArray, List.set_cons_zero, List.set_cons_succ]
    refine s_done (by kernel_rfl) ?_
    have hne5 : gm ≠ b5 := by have h1 := own_base hown5 b5 rfl; have h2 := HMd.out.lt; rw [World.size_alloc] at h1; omega
    have HC5 := Lib.hid hc5
    have HM5 := Lib.hid (HMd.out.next hS5)
    have HB5 := Lib.hid (below_next HBd.out hS5)
    have hgm : w.heap.size ≤ gm := hgm0
    clear hrd hc5 hown5 hown5' hgr5 hrun5 hS hSA hNew HA5 hi hz0 hz1 hz2 hB5 hS5 HAd HMd HBd
    have hxl : xs.length = 5 := by rw [HXS.out]; rfl
    go_wp2_with fail
    go_loopw [44] (fun iv wr => ∃ q : Nat, iv = .int .i64 q ∧ q ≤ 5 ∧ ∃ M, BArr 137 wr gm M ∧ M.length = 128 ∧ (∀ j : Nat, j < 128 → M.getD j false = decide ((j : Int) ∈ xs.take q)) ∧ Below w.heap.size w wr ∧ (∀ j, j < 5 → wr.cell? ⟨b5, o5 + j, none⟩ = some (.int .i64 (xs.getD j 0))) ∧ mayG D q (xs.drop q) (xs.take q) = mayG D 0 xs []) (fun iv _ => 5 - (intOf iv).toNat)
    case atStart => exact ⟨0, rfl, by omega, _, HM5.out, by simp, (by intro j hj; have e2 : (List.replicate 128 false).getD j false = false := (by rw [List.getD_eq_getElem?_getD, List.getElem?_replicate]; split <;> rfl); rw [e2]; simp), HB5.out, HC5.out, rfl⟩
    obtain ⟨q, rfl, hq, M, hM, hMl, hMs, hBw, hcs, hR⟩ := hrel
    have HM := Lib.hid hM
    have HMs := Lib.hid hMs
    have HBw := Lib.hid hBw
    have HR := Lib.hid hR
    have HCS := Lib.hid hcs
    clear hM hMs hBw hR hcs
    by_cases hq5 : q < 5
    rotate_left
    · obtain rfl : q = 5 := by omega
      have hRt : mayG D 0 xs [] = true := by rw [← HR.out, List.drop_eq_nil_of_le (by omega)]; rfl
      have HRt := Lib.hid hRt
      clear hRt
      go_wp2_with fail
      go_ret
      exact ⟨by rw [HRt.out]; rfl, HBw.out⟩
    obtain ⟨x, hx⟩ : ∃ x, x = xs.getD q 0 := ⟨_, rfl⟩
    have hcx := HCS.out q hq5
    rw [← hx] at hcx
    have HRx : Hid ((if x < 0 ∨ 127 < x ∨ needed D q ≠ decide (0 < x) ∨ (0 < x ∧ x ∈ xs.take q) then false else mayG D (q + 1) (xs.drop (q + 1)) (xs.take q ++ [x])) = mayG D 0 xs []) := Lib.hid (by rw [← HR.out, List.drop_eq_getElem_cons (show q < xs.length by omega), hx, List.getD_eq_getElem?_getD, List.getElem?_eq_getElem (show q < xs.length by omega)]; rfl)
    have HTK : Hid (xs.take (q + 1) = xs.take q ++ [x]) := Lib.hid (by rw [List.take_add_one, List.getElem?_eq_getElem (by omega), hx, List.getD_eq_getElem?_getD, List.getElem?_eq_getElem (by omega)]; rfl)
    clear hx HR
    have hq' : (q : Int) < 5 := by omega
    by_cases hxr : 0 ≤ x ∧ x ≤ 127
    rotate_left
    · have hRf : mayG D 0 xs [] = false := by rw [← HRx.out, if_pos (by rcases Int.lt_or_le x 0 with h | h; exact .inl h; exact .inr (.inl (by omega)))]
      have HRf := Lib.hid hRf
      clear HRx HTK hRf
      go_wp2_with fail
      all_goals (go_ret; exact ⟨by rw [HRf.out]; rfl, HBw.out⟩)
    obtain ⟨mb, hmb⟩ : ∃ b, b = M.getD x.toNat false := ⟨_, rfl⟩
    have hmc := HM.out.cellN x.toNat (by omega)
    have hmf := HM.out.free x.toNat
    rw [← hmb] at hmc
    have HMB : Hid (mb = decide (x ∈ xs.take q)) := Lib.hid (by rw [hmb, HMs.out x.toNat (by omega), show ((x.toNat : Nat) : Int) = x from by omega])
    clear hmb
    have HF : Hid ((¬ (((q : Int) < D ∧ (q : Int) < 4) ∨ ((q : Int) = 4 ∧ 4 < D)) ∧ 0 < x) ∨ ((((q : Int) < D ∧ (q : Int) < 4) ∨ ((q : Int) = 4 ∧ 4 < D)) ∧ ¬ 0 < x) ∨ (0 < x ∧ mb = true) → mayG D 0 xs [] = false) := Lib.hid (fun hC => by
      rw [← HRx.out, if_pos]
      rcases hC with h | h | h
      · exact .inr (.inr (.inl (by rw [needed_eq, decide_eq_false h.1, decide_eq_true h.2]; decide)))
      · exact .inr (.inr (.inl (by rw [needed_eq, decide_eq_true h.1, decide_eq_false h.2]; decide)))
      · exact .inr (.inr (.inr ⟨h.1, of_decide_eq_true (by rw [← HMB.out]; exact h.2)⟩)))
    have HT : Hid (((((q : Int) < D ∧ (q : Int) < 4) ∨ ((q : Int) = 4 ∧ 4 < D)) ↔ 0 < x) → ¬ (0 < x ∧ mb = true) → mayG D (q + 1) (xs.drop (q + 1)) (xs.take (q + 1)) = mayG D 0 xs []) := Lib.hid (fun h1 h2 => by
      rw [← HRx.out, if_neg, HTK.out]
      rintro (h | h | h | h)
      · omega
      · omega
      · exact h (by rw [needed_eq]; exact decide_eq_decide.2 h1)
      · exact h2 ⟨h.1, by rw [HMB.out]; exact decide_eq_true h.2⟩)
    have HMB2 := Lib.hid (set_mem M hMl _ HMs.out x hxr)
    rw [← HTK.out] at HMB2
    have HCS2 := Lib.hid (show ∀ j, j < 5 → (wr.setCell ⟨gm, x.toNat, none⟩ (.bool true)).cell? ⟨b5, o5 + j, none⟩ = some (.int .i64 (xs.getD j 0)) from fun j hj => by rw [World.cell?_setCell_other _ _ _ _ (fun e => by injection e with e1; exact hne5 e1)]; exact HCS.out j hj)
    have HPUT := Lib.hid (HM.out.put x.toNat true)
    have HB2 := Lib.hid (HBw.out.setCell (p := ⟨gm, x.toNat, none⟩) hgm (.bool true))
    have hsl : (M.set x.toNat true).length = 128 := by rw [List.length_set]; exact hMl
    clear HMs HRx HTK HMB HM HCS
    cases mb
    all_goals go_wp2_with fail
    all_goals first
      | (go_ret; exact ⟨by rw [HF.out (by first | omega | (simp; omega))]; rfl, HBw.out⟩)
      | (refine ⟨⟨q + 1, by first | rfl | (congr 1; omega), by omega, M.set x.toNat true, HPUT.out, hsl, HMB2.out, HB2.out, HCS2.out, HT.out (by omega) (by first | omega | (simp; omega) | simp)⟩, by simp [intOf]; omega⟩)
      | (trace_state; sorry)
  · go_wp2_with fail
    refine (inode_data.calls B D _ hD).mono ?_
    rintro en w1 ⟨rfl, hDr⟩
    have HA1 := Lib.hid ((Arr.new w .i64 52 [2, B, a, b, c, d, e]).next hDr)
    have HB1 := Lib.hid (below_next (below_alloc (Below.refl _ _) _) hDr)
    clear hDr
    go_wp2_with (first
      | ((with_reducible refine gate_dst (N := 4) rfl ?_); refine alloc_bools rfl 137 rfl (List.replicate 128 false) (by first | (go_simp; done) | (go_simp; rfl)) ?_; intro w2 hM2 hB2; have HM2 := Lib.hid hM2; have HA2 := Lib.hid (HA1.out.next hB2); have HB2 := Lib.hid (below_next HB1.out hB2); clear hM2 hB2)
      | fail)
    have hgm0 : w.heap.size ≤ w1.heap.size := HB1.out.size
    generalize w1.heap.size = gm at *
    generalize hg0 : w.heap.size = g at HA1 HA2 ⊢
    refine s_region (fun u => Below w2.drew.heap.size w2.drew u) (by kernel_rfl) 7 (by kernel_rfl) (Below.refl _ _) (fun hS => ?_)
    have HAd := Lib.hid HA2.out.drew
    have HMd := Lib.hid HM2.out.drew
    have HBd := Lib.hid (below_drew HB2.out)
    generalize w2.drew = wd at *
    clear HA1 HB1 HA2 HM2 HB2
    refine s_take 0 (.pointer (some ⟨g, 2, none⟩)) hS rfl (by kernel_rfl) (by kernel_rfl) (by kernel_rfl) (fun _ _ _ h => h) rfl (fun w' hw' => by (unfold execOp; simp [go_sem, Act.put, Act.eval])) ?_
    simp only [Act.put, List.setIfInBounds_toArray, List.set_cons_zero, List.set_cons_succ]
    refine s_take 1 (.slice (some ⟨g, 2, none⟩) 4 4) hS rfl (by kernel_rfl) (by kernel_rfl) (by kernel_rfl) (fun _ _ _ h => h) rfl (fun w' hw' => by (unfold execOp; simp [go_sem, Act.put, Act.eval])) ?_
    simp only [Act.put, List.setIfInBounds_toArray, List.set_cons_zero, List.set_cons_succ]
    refine s_take 2 (.pointer (some ⟨g, 6, none⟩)) hS rfl (by kernel_rfl) (by kernel_rfl) (by kernel_rfl) (fun _ _ _ h => h) rfl (fun w' hw' => by (unfold execOp; simp [go_sem, Act.put, Act.eval])) ?_
    simp only [Act.put, List.setIfInBounds_toArray, List.set_cons_zero, List.set_cons_succ]
    refine s_take 3 (.int .i64 e) hS rfl (by kernel_rfl) (by kernel_rfl) (by kernel_rfl) (fun _ _ _ h => h) rfl (fun w' hw' => by (have hc0 := (HAd.out.next hw').cellN 6 (by simp); unfold execOp; simp [go_sem, Act.put, Act.eval, hc0])) ?_
    simp only [Act.put, List.setIfInBounds_toArray, List.set_cons_zero, List.set_cons_succ]
    have hSA := below_alloc hS (.cells #[.int .i64 e] 3)
    refine s_event 4 (.slice (some ⟨wd.heap.size, 0, none⟩) 1 1) ((wd.alloc (.cells #[.int .i64 e] 3))) rfl (by kernel_rfl) rfl (by (unfold execOp; simp [go_sem, Act.put, Act.eval])) (hSA) (fun hS => ?_)
    simp only [Act.put, List.setIfInBounds_toArray, List.set_cons_zero, List.set_cons_succ]
    have hNew : (wd.alloc (.cells #[.int .i64 e] 3)).cell? ⟨wd.heap.size, 0, none⟩ = some (.int .i64 e) := (Arr.new wd .i64 3 [e]).cellN 0 (by simp)
    have HA5 := HAd.out.alloc (.cells #[.int .i64 e] 3)
    obtain ⟨i0, hi, hz0, hz1, hz2⟩ := info_parts info3
    obtain ⟨v5, w5, hrun5, hown5, hgr5⟩ := run_append_arg_grows (P := Try.prog) (wd.alloc (.cells #[.int .i64 e] 3)) 37 37 3 i0 (.int .i64 0) 1 8 Try.underlying37 hi hz0 hz1 hz2 rfl (by decide) ⟨g, 2, none⟩ 4 4 [.int .i64 a, .int .i64 b, .int .i64 c, .int .i64 d] rfl
      (by intro j u hu; have hj : j < 4 := (List.getElem?_eq_some_iff.1 hu).1; have h := HA5.cellN (2 + j) (by simp; omega); obtain rfl | rfl | rfl | rfl : j = 0 ∨ j = 1 ∨ j = 2 ∨ j = 3 := by omega
          all_goals (obtain rfl := Option.some.inj hu; exact h))
      ⟨wd.heap.size, 0, none⟩ 1 1 [.int .i64 e] rfl (by intro j u hu; have hj : j < 1 := (List.getElem?_eq_some_iff.1 hu).1; obtain rfl : j = 0 := by omega
                                                        obtain rfl := Option.some.inj hu; exact hNew) (by decide) (by decide) (by decide)
    have hB5 : Below (wd.alloc (.cells #[.int .i64 e] 3)).heap.size (wd.alloc (.cells #[.int .i64 e] 3)) w5 := (Below.refl _ _).grown hgr5 (Nat.le_refl _) (fun k e => by cases e)
    have hS5 := below_next hSA hB5
    have hown5' : w5.ownsRow (wd.alloc (.cells #[.int .i64 e] 3)).heap.size 3 1 v5 5 (nums .i64 xs) := by rw [HXS.out]; exact hown5
    obtain ⟨A5, c5, rfl, hrd⟩ := own_reads hown5'
    obtain ⟨b5, o5, rfl, hc5⟩ := C_cells (Kd.C_of_reads (d := (0 : Int)) (h1 := fun _ => rfl) hrd) (by decide)
    refine s_event 5 (.slice (some ⟨b5, o5, none⟩) 5 c5) (w5) rfl (by kernel_rfl) rfl (run_appn _ _ _ rfl _ _ rfl rfl hrun5) (hS5) (fun hS => ?_)
    simp only [Act.put, List.setIfInBounds_toArray, List.set_cons_zero, List.set_cons_succ]
    refine s_take 6 (.slice (some ⟨b5, o5, none⟩) 5 c5) hS rfl (by kernel_rfl) (by kernel_rfl) (by kernel_rfl) (fun _ _ _ h => h) rfl (fun w' hw' => by (unfold execOp; simp [go_sem, Act.put, Act.eval])) ?_
    simp only [Act.put, List.setIfInBounds_toArray, List.set_cons_zero, List.set_cons_succ]
    refine s_done (by kernel_rfl) ?_
    have hne5 : gm ≠ b5 := by have h1 := own_base hown5 b5 rfl; have h2 := HMd.out.lt; rw [World.size_alloc] at h1; omega
    have HC5 := Lib.hid hc5
    have HM5 := Lib.hid (HMd.out.next hS5)
    have HB5 := Lib.hid (below_next HBd.out hS5)
    have hgm : w.heap.size ≤ gm := hgm0
    clear hrd hc5 hown5 hown5' hgr5 hrun5 hS hSA hNew HA5 hi hz0 hz1 hz2 hB5 hS5 HAd HMd HBd
    have hxl : xs.length = 5 := by rw [HXS.out]; rfl
    go_wp2_with fail
    go_loopw [44] (fun iv wr => ∃ q : Nat, iv = .int .i64 q ∧ q ≤ 5 ∧ ∃ M, BArr 137 wr gm M ∧ M.length = 128 ∧ (∀ j : Nat, j < 128 → M.getD j false = decide ((j : Int) ∈ xs.take q)) ∧ Below w.heap.size w wr ∧ (∀ j, j < 5 → wr.cell? ⟨b5, o5 + j, none⟩ = some (.int .i64 (xs.getD j 0))) ∧ mayG D q (xs.drop q) (xs.take q) = mayG D 0 xs []) (fun iv _ => 5 - (intOf iv).toNat)
    case atStart => exact ⟨0, rfl, by omega, _, HM5.out, by simp, (by intro j hj; have e2 : (List.replicate 128 false).getD j false = false := (by rw [List.getD_eq_getElem?_getD, List.getElem?_replicate]; split <;> rfl); rw [e2]; simp), HB5.out, HC5.out, rfl⟩
    obtain ⟨q, rfl, hq, M, hM, hMl, hMs, hBw, hcs, hR⟩ := hrel
    have HM := Lib.hid hM
    have HMs := Lib.hid hMs
    have HBw := Lib.hid hBw
    have HR := Lib.hid hR
    have HCS := Lib.hid hcs
    clear hM hMs hBw hR hcs
    by_cases hq5 : q < 5
    rotate_left
    · obtain rfl : q = 5 := by omega
      have hRt : mayG D 0 xs [] = true := by rw [← HR.out, List.drop_eq_nil_of_le (by omega)]; rfl
      have HRt := Lib.hid hRt
      clear hRt
      go_wp2_with fail
      go_ret
      exact ⟨by rw [HRt.out]; rfl, HBw.out⟩
    obtain ⟨x, hx⟩ : ∃ x, x = xs.getD q 0 := ⟨_, rfl⟩
    have hcx := HCS.out q hq5
    rw [← hx] at hcx
    have HRx : Hid ((if x < 0 ∨ 127 < x ∨ needed D q ≠ decide (0 < x) ∨ (0 < x ∧ x ∈ xs.take q) then false else mayG D (q + 1) (xs.drop (q + 1)) (xs.take q ++ [x])) = mayG D 0 xs []) := Lib.hid (by rw [← HR.out, List.drop_eq_getElem_cons (show q < xs.length by omega), hx, List.getD_eq_getElem?_getD, List.getElem?_eq_getElem (show q < xs.length by omega)]; rfl)
    have HTK : Hid (xs.take (q + 1) = xs.take q ++ [x]) := Lib.hid (by rw [List.take_add_one, List.getElem?_eq_getElem (by omega), hx, List.getD_eq_getElem?_getD, List.getElem?_eq_getElem (by omega)]; rfl)
    clear hx HR
    have hq' : (q : Int) < 5 := by omega
    by_cases hxr : 0 ≤ x ∧ x ≤ 127
    rotate_left
    · have hRf : mayG D 0 xs [] = false := by rw [← HRx.out, if_pos (by rcases Int.lt_or_le x 0 with h | h; exact .inl h; exact .inr (.inl (by omega)))]
      have HRf := Lib.hid hRf
      clear HRx HTK hRf
      go_wp2_with fail
      all_goals (go_ret; exact ⟨by rw [HRf.out]; rfl, HBw.out⟩)
    obtain ⟨mb, hmb⟩ : ∃ b, b = M.getD x.toNat false := ⟨_, rfl⟩
    have hmc := HM.out.cellN x.toNat (by omega)
    have hmf := HM.out.free x.toNat
    rw [← hmb] at hmc
    have HMB : Hid (mb = decide (x ∈ xs.take q)) := Lib.hid (by rw [hmb, HMs.out x.toNat (by omega), show ((x.toNat : Nat) : Int) = x from by omega])
    clear hmb
    have HF : Hid ((¬ (((q : Int) < D ∧ (q : Int) < 4) ∨ ((q : Int) = 4 ∧ 4 < D)) ∧ 0 < x) ∨ ((((q : Int) < D ∧ (q : Int) < 4) ∨ ((q : Int) = 4 ∧ 4 < D)) ∧ ¬ 0 < x) ∨ (0 < x ∧ mb = true) → mayG D 0 xs [] = false) := Lib.hid (fun hC => by
      rw [← HRx.out, if_pos]
      rcases hC with h | h | h
      · exact .inr (.inr (.inl (by rw [needed_eq, decide_eq_false h.1, decide_eq_true h.2]; decide)))
      · exact .inr (.inr (.inl (by rw [needed_eq, decide_eq_true h.1, decide_eq_false h.2]; decide)))
      · exact .inr (.inr (.inr ⟨h.1, of_decide_eq_true (by rw [← HMB.out]; exact h.2)⟩)))
    have HT : Hid (((((q : Int) < D ∧ (q : Int) < 4) ∨ ((q : Int) = 4 ∧ 4 < D)) ↔ 0 < x) → ¬ (0 < x ∧ mb = true) → mayG D (q + 1) (xs.drop (q + 1)) (xs.take (q + 1)) = mayG D 0 xs []) := Lib.hid (fun h1 h2 => by
      rw [← HRx.out, if_neg, HTK.out]
      rintro (h | h | h | h)
      · omega
      · omega
      · exact h (by rw [needed_eq]; exact decide_eq_decide.2 h1)
      · exact h2 ⟨h.1, by rw [HMB.out]; exact decide_eq_true h.2⟩)
    have HMB2 := Lib.hid (set_mem M hMl _ HMs.out x hxr)
    rw [← HTK.out] at HMB2
    have HCS2 := Lib.hid (show ∀ j, j < 5 → (wr.setCell ⟨gm, x.toNat, none⟩ (.bool true)).cell? ⟨b5, o5 + j, none⟩ = some (.int .i64 (xs.getD j 0)) from fun j hj => by rw [World.cell?_setCell_other _ _ _ _ (fun e => by injection e with e1; exact hne5 e1)]; exact HCS.out j hj)
    have HPUT := Lib.hid (HM.out.put x.toNat true)
    have HB2 := Lib.hid (HBw.out.setCell (p := ⟨gm, x.toNat, none⟩) hgm (.bool true))
    have hsl : (M.set x.toNat true).length = 128 := by rw [List.length_set]; exact hMl
    clear HMs HRx HTK HMB HM HCS
    cases mb
    all_goals go_wp2_with fail
    all_goals first
      | (go_ret; exact ⟨by rw [HF.out (by first | omega | (simp; omega))]; rfl, HBw.out⟩)
      | (refine ⟨⟨q + 1, by first | rfl | (congr 1; omega), by omega, M.set x.toNat true, HPUT.out, hsl, HMB2.out, HB2.out, HCS2.out, HT.out (by omega) (by first | omega | (simp; omega) | simp)⟩, by simp [intOf]; omega⟩)
      | (trace_state; sorry)
def mayF (K B a b c d e : Int) : Bool := if K = 0 then (B == 0 && (decide (a = 0) && (decide (b = 0) && (decide (c = 0) && decide (d = 0))) && e == 0)) else if (K ≠ 1 ∧ K ≠ 2) ∨ B < 0 ∨ 2304 < B then false else mayG (dataF B) 0 [a, b, c, d, e] []
theorem may_any (K B a b c d e : Int) (w : World) : Calls Try.prog 29 #[ino K B a b c d e] w (Tells (mayF K B a b c d e) w) := by
  unfold mayF
  by_cases hK : K = 0
  · subst hK
    rw [if_pos rfl]
    exact may_zero B a b c d e w
  · rw [if_neg hK]
    by_cases h : (K ≠ 1 ∧ K ≠ 2) ∨ B < 0 ∨ 2304 < B
    · rw [if_pos h]
      exact may_bad K B a b c d e w (by simpa using hK) h
    · rw [if_neg h]
      exact may_loop K B a b c d e (dataF B) _ rfl w (by omega) (by omega) (by omega) (data_tells B (by omega) (by omega))
end Go.Proofs.Ytoiiacbbfhlocaa.HIa
