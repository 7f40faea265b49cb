/- Layer 6: a disk's Read and Write. -/
import Derived.Test.YtoiiacbbfhlocaaHDb
import Derived.Test.YtoiiacbbfhlocaaRngIn
import Derived.Laws.Cover3
set_option linter.unusedVariables false
set_option linter.unusedSimpArgs false
namespace Go.Proofs.Ytoiiacbbfhlocaa.HDa
open Go.RowKit Go.Proofs.YtoiiacbbfhlocaaW.PrintWords Go.Proofs.YtoiiacbbfhlocaaW.PrintLast Go.Proofs.YtoiiacbbfhlocaaW.PrintMore Go.Proofs.Ytoiiacbbfhlocaa.Kit
section
variable {P : Program} {o : Oper} {a : Act} {w : World}
theorem run_load_mid (ty : TypeId) (x : Operand) (ho : o.op = .load ty x) (b off : Nat) (hx : a.eval x = .pointer (some ⟨b, off, none⟩)) (cs : List Value) (d : TypeDesc) (hc : w.rangeAt b off cs)
    (hu : P.underlying ty = some d) (hd : d.isRow = true) (hi : (P.info? ty).map (·.size) = some cs.length) : (execOp a.eval o).run P w = .ok (.value (.agg cs.toArray)) w := by
  unfold execOp
  simp only [ho, hx, Instr.loadAt, Instr.sureAddr, Sem.run_bind, Sem.run_pure, Result.andThen_ok, run_loadVar_mid w b off ty cs d hc hu hd hi]
theorem run_store_mid (ty : TypeId) (x y : Operand) (ho : o.op = .store ty x y) (b off : Nat) (cells : Array Value) (hx : a.eval x = .pointer (some ⟨b, off, none⟩)) (hy : a.eval y = .agg cells)
    (ht : w.there b off cells.size) (hi : (P.info? ty).map (·.size) = some cells.size) (h1 : cells.all (·.oneCell') = true) : (execOp a.eval o).run P w = .ok .skip (w.setCells b off cells.toList) := by
  unfold execOp
  simp only [ho, hx, hy, Instr.storeAt, Instr.sureAddr, Sem.run_bind, Sem.run_pure, Result.andThen_ok, run_storeVar_mid w b off ty cells ht hi h1]
end
/-- what is read: bytes of a new block, or nothing -/
def ReadOut (xs : List Int) (w : World) (e : Ending) (w' : World) : Prop := ∃ gx, e = .returned (.tuple #[.slice (some ⟨gx, 0, none⟩) 72 72, .int .i64 0]) ∧ w.heap.size ≤ gx ∧ Arr .u8 160 w' gx xs ∧ Below w.heap.size w w'
theorem read_out {base : Nat} {w : World} {g r : Nat} {L : List Blk} (h : DTab base w g r L) (i : Int) (hi : ¬ (0 ≤ i ∧ i < L.length)) : Calls Try.prog 54 #[.pointer (some ⟨g, 0, none⟩), .int .i64 i] w fun e w' => e = .returned (.tuple #[.slice none 0 0, .int .i64 1]) ∧ Below w.heap.size w w' := by
  have hat := at_out h i hi
  clear h hi
  go_enter Try.func54, Try.ntmps54
  go_wp2_with (go_at_call 103; refine hat.mono ?_; rintro e w1 ⟨rfl, hb1⟩)
  go_ret2
  exact ⟨rfl, hb1⟩
set_option maxRecDepth 100000 in
theorem read_in {base : Nat} {w : World} {g r : Nat} {L : List Blk} (h : DTab base w g r L) (i : Nat) (b : Blk) (hbi : L[i]? = some b) (hm : L.length ≤ 1000) : Calls Try.prog 54 #[.pointer (some ⟨g, 0, none⟩), .int .i64 i] w (ReadOut b.now w) := by
  have hat := at_in h i (List.getElem?_eq_some_iff.1 hbi).1 hm
  have HT := Lib.hid h
  clear h
  obtain ⟨xs, hxs⟩ : ∃ xs, xs = b.now := ⟨_, rfl⟩
  have hl : xs.length = 72 := by rw [hxs]; exact (HT.out.blk i b hbi).2.now_len
  obtain ⟨o, ho, hR⟩ : ∃ o, o = (if b.q then i * 217 + 72 else i * 217) ∧ ∀ W, Below w.heap.size w W → W.rangeAt r o (nums .u8 xs) := by
    refine ⟨_, rfl, fun W hW => ?_⟩
    obtain ⟨h1, -⟩ := (HT.out.next hW).blk i b hbi
    rw [hxs]
    unfold Blk.now
    split
    · exact h1.f
    · exact h1.d
  have hnow : ∀ W, Below w.heap.size w W → Calls Try.prog 104 #[.pointer (some ⟨r, i * 217, none⟩)] W (TellsP (.pointer (some ⟨r, o, none⟩)) W) := fun W hW => by
    rw [ho]
    exact now_any ((HT.out.next hW).blk i b hbi).1.q
  rw [← hxs]
  have HR := Lib.hid hR
  have HL := Lib.hid hl
  have HN := Lib.hid hnow
  clear hR hl hnow ho hxs hbi HT
  go_enter Try.func54, Try.ntmps54
  go_wp2_with (first
    | (go_at_call 103; refine hat.mono ?_; rintro e w1 ⟨rfl, hb1⟩; have HB1 := Lib.hid hb1; clear hb1)
    | (go_at_call 104; refine (HN.out _ HB1.out).mono ?_; rintro e w2 ⟨rfl, hb2⟩; have HB2 := Lib.hid (below_next HB1.out hb2); clear hb2)
    | ((with_reducible refine gate_dst (N := 16) rfl ?_); refine wpList_load_mid rfl 160 _ rfl r o rfl (nums .u8 xs) _ (HR.out _ HB2.out) Try.underlying160 rfl (by rw [nums_len, HL.out]; kernel_rfl) ?_)
    | ((with_reducible refine gate_dst (N := 7) rfl ?_); refine alloc_arr rfl 160 rfl .u8 (List.replicate 72 0) (fun w => Try.zeroValue160 w) (by first | (go_simp; done) | (go_simp; rfl)) ?_; intro w3 hA3 hB3)
    | ((with_reducible refine gate_store (t := 160) (p := 7) rfl ?_); refine store_arr rfl 160 _ _ rfl w2.heap.size .u8 xs rfl rfl 160 _ hA3 (by rw [HL.out]; rfl) (by rw [HL.out]; kernel_rfl) ?_; intro w4 hA4 hw4; have hB4 := below_setRow hB3 w2.heap.size (Nat.le_refl _) (nums .u8 xs).toArray; rw [← hw4] at hB4; have HA4 := Lib.hid hA4; have HB4 := Lib.hid (below_next HB2.out hB4); clear hw4 hA4 hB3 hA3 hB4))
  go_ret2
  exact ⟨_, rfl, HB2.out.size, HA4.out, HB4.out⟩
def WriteOut (base g r : Nat) (code : Int) (L : List Blk) (w : World) (e : Ending) (w' : World) : Prop := e = .returned (.int .i64 code) ∧ DTab base w' g r L ∧ KeepB [r] w w' ∧ Below base w w'
theorem write_bad {base : Nat} {w : World} {g r : Nat} {L : List Blk} (h : DTab base w g r L) (i : Int) (A : Option Addr) (n c : Nat) (hm : L.length ≤ 1000) (hi : ¬ ((0 ≤ i ∧ i < L.length) ∧ n = 72)) : Calls Try.prog 50 #[.pointer (some ⟨g, 0, none⟩), .int .i64 i, .slice A n c] w (WriteOut base g r 1 L w) := by
  have HT := Lib.hid h
  by_cases h1 : 0 ≤ i ∧ i < L.length
  · obtain ⟨k, rfl⟩ := Int.eq_ofNat_of_zero_le h1.1
    have hat := at_in h k (by omega) hm
    have h2 : ¬ (n : Int) = 72 := by omega
    clear h hi h1
    go_enter Try.func50, Try.ntmps50
    go_wp2_with (go_at_call 103; refine hat.mono ?_; rintro e w1 ⟨rfl, hb1⟩)
    go_ret
    exact ⟨rfl, HT.out.next hb1, .of_below _ hb1, hb1.mono HT.out.le⟩
  · have hat := at_out h i h1
    clear h hi h1
    go_enter Try.func50, Try.ntmps50
    go_wp2_with (go_at_call 103; refine hat.mono ?_; rintro e w1 ⟨rfl, hb1⟩)
    go_ret
    exact ⟨rfl, HT.out.next hb1, .of_below _ hb1, hb1.mono HT.out.le⟩
set_option maxRecDepth 100000 in
set_option maxHeartbeats 4000000 in
theorem write_in {base : Nat} {w : World} {g r : Nat} {L : List Blk} (h : DTab base w g r L) (i : Nat) (b : Blk) (hbi : L[i]? = some b) (A : Option Addr) (c : Nat) (xs : List Int) (hm : L.length ≤ 1000) (hC : Kd.C (Kd.int .u8) w A 72 xs) (hcap : 72 ≤ c) (hxb : Bytes xs) (hfar : ∀ p, A = some p → p.block ≠ r) :
    Calls Try.prog 50 #[.pointer (some ⟨g, 0, none⟩), .int .i64 i, .slice A 72 c] w (WriteOut base g r 0 (L.set i { b with f := xs, p := b.now, q := true }) w) := by
  have hat := at_in h i (List.getElem?_eq_some_iff.1 hbi).1 hm
  have HT := Lib.hid h
  clear h
  obtain ⟨bl, ol, rfl, hcell⟩ := C_cells hC (by omega)
  have hne : bl ≠ r := hfar _ rfl
  have hxl : xs.length = 72 := Kd.C_len hC
  have hR : w.rangeAt bl ol (nums .u8 xs) := fun j v hv => by
    have hj : j < 72 := by have := (List.getElem?_eq_some_iff.1 hv).1; rw [nums_len, hxl] at this; exact this
    rw [hcell j hj, ← hv]
    simp [nums, hxl, hj]
  have HR := Lib.hid hR
  clear hR hcell hfar hC
  obtain ⟨bd, bf, bp, q⟩ := b
  cases q
  · go_enter Try.func50, Try.ntmps50
    go_wp2_with (go_at_call 103; refine hat.mono ?_; rintro e w1 ⟨rfl, hb1⟩; have HT1 := Lib.hid (HT.out.next hb1); have HRl := Lib.hid (show w1.rangeAt bl ol (nums .u8 xs) from fun j v hv => (hb1.cell (p := ⟨bl, ol + j, none⟩) (World.block_lt_of_cell? _ _ (HR.out j v hv))).trans (HR.out j v hv)); have HKB := Lib.hid (KeepB.of_below [r] hb1); replace hb1 := Below.mono hb1 HT.out.le)
    clear hat HT HR
    refine s_region (fun u => u.rangeAt bl ol (nums .u8 xs)) (by kernel_rfl) 19 (by kernel_rfl) ((World.rangeAt_drew _ _ _ _).2 (HRl.out)) (fun hS => ?_)
    have HTd := Lib.hid (HT1.out.next (below_drew (Below.refl w1.heap.size w1)))
    have HB1 := Lib.hid (below_drew hb1)
    have HKd := Lib.hid (HKB.out.next (below_drew (Below.refl w1.heap.size w1)))
    generalize hwd : w1.drew = wd at *
    clear hwd HT1 HRl hb1 HKB
    have HK := Lib.hid (HTd.out.blk i _ hbi)
    refine s_take 0 (_) hS rfl (by kernel_rfl) (by kernel_rfl) (by kernel_rfl) (fun _ _ _ h => h) rfl (fun w' hw' => run_move_at _ rfl w') ?_
    simp only [Act.put, List.setIfInBounds_toArray, List.set_cons_zero, List.set_cons_succ]
    refine s_take 1 (_) hS rfl (by kernel_rfl) (by kernel_rfl) (by kernel_rfl) (fun _ _ _ h => h) rfl (fun w' hw' => run_move_at _ rfl w') ?_
    simp only [Act.put, List.setIfInBounds_toArray, List.set_cons_zero, List.set_cons_succ]
    refine s_take 2 (_) hS rfl (by kernel_rfl) (by kernel_rfl) (by kernel_rfl) (fun _ _ _ h => h) rfl (fun w' hw' => run_move_at _ rfl w') ?_
    simp only [Act.put, List.setIfInBounds_toArray, List.set_cons_zero, List.set_cons_succ]
    refine s_take 3 (_) hS rfl (by kernel_rfl) (by kernel_rfl) (by kernel_rfl) (fun _ _ _ h => h) rfl (fun w' hw' => run_move_at _ rfl w') ?_
    simp only [Act.put, List.setIfInBounds_toArray, List.set_cons_zero, List.set_cons_succ]
    refine s_take 7 (_) hS rfl (by kernel_rfl) (by kernel_rfl) (by kernel_rfl) (fun _ _ _ h => h) rfl (fun w' hw' => run_move_at _ rfl w') ?_
    simp only [Act.put, List.setIfInBounds_toArray, List.set_cons_zero, List.set_cons_succ]
    refine s_take 8 (.pointer (some ⟨bl, ol, none⟩)) hS rfl (by kernel_rfl) (by kernel_rfl) (by kernel_rfl) (fun _ _ _ h => h) rfl (fun w' hw' => by (have hc0 := run_arrayAt (P := Try.prog) w' 160 _ 72 (some ⟨bl, ol, none⟩) 72 c Try.underlying160 (by omega); unfold execOp; simp [go_sem, Act.put, Act.eval, hc0])) ?_
    simp only [Act.put, List.setIfInBounds_toArray, List.set_cons_zero, List.set_cons_succ]
    refine s_take 9 (.agg (nums .u8 xs).toArray) hS rfl (by kernel_rfl) (by kernel_rfl) (by kernel_rfl) (fun _ _ _ h => h) rfl (fun w' hw' => run_load_mid 160 _ rfl bl ol rfl (nums .u8 xs) _ hw' Try.underlying160 rfl (by rw [nums_len, hxl]; kernel_rfl)) ?_
    simp only [Act.put, List.setIfInBounds_toArray, List.set_cons_zero, List.set_cons_succ]
    have hnow := now_any (W := wd) (r := r) (o := i * 217) HK.out.1.q
    simp only [if_pos, if_neg, Bool.false_eq_true, if_false, if_true] at hnow
    refine s_call 4 rfl (by kernel_rfl) rfl 104 _ _ Try.func104 (by kernel_rfl) rfl _ _ #[.pointer (some ⟨r, i * 217, none⟩)] rfl (by simp [Act.put, Act.eval]) (hnow) ?_
    rintro e w2 ⟨rfl, hb2⟩
    have HT2 := Lib.hid (HTd.out.next hb2)
    have HK2 := Lib.hid (HKd.out.next hb2)
    have HB2 := Lib.hid (HB1.out.trans (hb2.mono HTd.out.le))
    have hS2 : w2.rangeAt bl ol (nums .u8 xs) := fun j v hv => (hb2.cell (p := ⟨bl, ol + j, none⟩) (World.block_lt_of_cell? _ _ (hS j v hv))).trans (hS j v hv)
    clear HTd HK hnow hb2 HB1
    have hS := hS2
    refine ⟨_, rfl, hS, ?_⟩
    simp only [Act.put, List.setIfInBounds_toArray, List.set_cons_zero, List.set_cons_succ]
    refine s_take 5 (.pointer (some ⟨r, i * 217, none⟩)) hS rfl (by kernel_rfl) (by kernel_rfl) (by kernel_rfl) (fun _ _ _ h => h) rfl (fun w' hw' => by (unfold execOp; simp [go_sem, Act.put, Act.eval])) ?_
    simp only [Act.put, List.setIfInBounds_toArray, List.set_cons_zero, List.set_cons_succ]
    obtain ⟨K2, F2⟩ := HT2.out.blk i _ hbi
    refine s_one 6 rfl (by kernel_rfl) ?_
    refine g_event (.agg (nums .u8 bd).toArray) w2 rfl (run_load_mid 160 _ rfl r (i * 217) rfl (nums .u8 bd) _ K2.d Try.underlying160 rfl (by rw [nums_len, show bd.length = 72 from F2.ld]; kernel_rfl)) hS (fun hS => ?_)
    simp only [Act.put, List.setIfInBounds_toArray, List.set_cons_zero, List.set_cons_succ]
    refine s_take 10 (.pointer (some ⟨r, i * 217, none⟩)) hS rfl (by kernel_rfl) (by kernel_rfl) (by kernel_rfl) (fun _ _ _ h => h) rfl (fun w' hw' => by (unfold execOp; simp [go_sem, Act.put, Act.eval])) ?_
    simp only [Act.put, List.setIfInBounds_toArray, List.set_cons_zero, List.set_cons_succ]
    refine s_take 11 (.pointer (some ⟨r, i * 217 + 144, none⟩)) hS rfl (by kernel_rfl) (by kernel_rfl) (by kernel_rfl) (fun _ _ _ h => h) rfl (fun w' hw' => by (unfold execOp; simp [go_sem, Act.put, Act.eval])) ?_
    simp only [Act.put, List.setIfInBounds_toArray, List.set_cons_zero, List.set_cons_succ]
    have hlt := at_lt hbi
    obtain ⟨T3, K3, B3⟩ := HT2.out.setP hbi bd F2.ld F2.bd
    refine s_one 12 rfl (by kernel_rfl) ?_
    refine g_skip (w2.setCells r (i * 217 + 144) (nums .u8 bd)) rfl (run_store_mid 160 _ _ rfl r (i * 217 + 144) (nums .u8 bd).toArray rfl rfl (HT2.out.there _ _ (by rw [List.size_toArray, nums_len, show bd.length = 72 from F2.ld]; omega)) (by rw [List.size_toArray, nums_len, show bd.length = 72 from F2.ld]; kernel_rfl) (nums_one .u8 bd)) (World.rangeAt_setCells_apart hS r _ _ (.inl hne)) (fun hS => ?_)
    simp only [Act.put, List.setIfInBounds_toArray, List.set_cons_zero, List.set_cons_succ]
    have B3' := HB2.out.trans B3
    have HX3 := Lib.hid (And.intro T3 (And.intro K3 B3'))
    clear T3 K3 B3 B3' K2 HT2 HB2
    generalize hw3 : w2.setCells r (i * 217 + 144) (nums .u8 bd) = w3 at *
    clear hw3
    have hbi3 := List.getElem?_set_self (a := ({ d := bd, f := bf, p := bd, q := false } : Blk)) (List.getElem?_eq_some_iff.1 hbi).1
    refine s_take 13 (.pointer (some ⟨r, i * 217, none⟩)) hS rfl (by kernel_rfl) (by kernel_rfl) (by kernel_rfl) (fun _ _ _ h => h) rfl (fun w' hw' => by (unfold execOp; simp [go_sem, Act.put, Act.eval])) ?_
    simp only [Act.put, List.setIfInBounds_toArray, List.set_cons_zero, List.set_cons_succ]
    refine s_take 14 (.pointer (some ⟨r, i * 217 + 72, none⟩)) hS rfl (by kernel_rfl) (by kernel_rfl) (by kernel_rfl) (fun _ _ _ h => h) rfl (fun w' hw' => by (unfold execOp; simp [go_sem, Act.put, Act.eval])) ?_
    simp only [Act.put, List.setIfInBounds_toArray, List.set_cons_zero, List.set_cons_succ]
    obtain ⟨T4, K4, B4⟩ := HX3.out.1.setF hbi3 xs hxl hxb
    refine s_one 15 rfl (by kernel_rfl) ?_
    refine g_skip (w3.setCells r (i * 217 + 72) (nums .u8 xs)) rfl (run_store_mid 160 _ _ rfl r (i * 217 + 72) (nums .u8 xs).toArray rfl rfl (HX3.out.1.there _ _ (by rw [List.size_toArray, nums_len, hxl, List.length_set]; omega)) (by rw [List.size_toArray, nums_len, hxl]; kernel_rfl) (nums_one .u8 xs)) (World.rangeAt_setCells_apart hS r _ _ (.inl hne)) (fun hS => ?_)
    simp only [Act.put, List.setIfInBounds_toArray, List.set_cons_zero, List.set_cons_succ]
    have B4' := HX3.out.2.2.trans B4
    have HX4 := Lib.hid (And.intro T4 (And.intro (HX3.out.2.1.trans K4) B4'))
    clear T4 K4 B4 B4' HX3
    generalize hw4 : w3.setCells r (i * 217 + 72) (nums .u8 xs) = w4 at *
    clear hw4
    rw [List.set_set] at HX4
    have hbi4 := List.getElem?_set_self (a := ({ d := bd, f := xs, p := bd, q := false } : Blk)) (List.getElem?_eq_some_iff.1 hbi).1
    refine s_take 16 (.pointer (some ⟨r, i * 217, none⟩)) hS rfl (by kernel_rfl) (by kernel_rfl) (by kernel_rfl) (fun _ _ _ h => h) rfl (fun w' hw' => by (unfold execOp; simp [go_sem, Act.put, Act.eval])) ?_
    simp only [Act.put, List.setIfInBounds_toArray, List.set_cons_zero, List.set_cons_succ]
    refine s_take 17 (.pointer (some ⟨r, i * 217 + 216, none⟩)) hS rfl (by kernel_rfl) (by kernel_rfl) (by kernel_rfl) (fun _ _ _ h => h) rfl (fun w' hw' => by (unfold execOp; simp [go_sem, Act.put, Act.eval])) ?_
    simp only [Act.put, List.setIfInBounds_toArray, List.set_cons_zero, List.set_cons_succ]
    obtain ⟨T5, K5, B5⟩ := HX4.out.1.setQ hbi4 true
    have hm1 := (HX4.out.1.blk i _ hbi4).1.q
    have hm2 := HX4.out.1.free (i * 217 + 216)
    refine s_one 18 rfl (by kernel_rfl) ?_
    refine g_skip (w4.setCell ⟨r, i * 217 + 216, none⟩ (.bool true)) rfl (by (have hc0 := hm1; have hc1 := hm2; unfold execOp; simp [go_sem, Act.put, Act.eval, hc0, hc1])) (World.rangeAt_setCells_apart hS r _ [.bool true] (.inl hne)) (fun hS => ?_)
    simp only [Act.put, List.setIfInBounds_toArray, List.set_cons_zero, List.set_cons_succ]
    refine s_done (by kernel_rfl) ?_
    rw [List.set_set] at T5
    have HX5 := Lib.hid (And.intro T5 (And.intro (HX4.out.2.1.trans K5) (HX4.out.2.2.trans B5)))
    clear T5 K5 B5 HX4 hm1 hm2 hS
    generalize hw5 : w4.setCell ⟨r, i * 217 + 216, none⟩ (.bool true) = w5 at *
    clear hw5
    go_wp2
    go_ret
    exact ⟨rfl, HX5.out.1, HK2.out.trans HX5.out.2.1, HX5.out.2.2⟩
  · go_enter Try.func50, Try.ntmps50
    go_wp2_with (go_at_call 103; refine hat.mono ?_; rintro e w1 ⟨rfl, hb1⟩; have HT1 := Lib.hid (HT.out.next hb1); have HRl := Lib.hid (show w1.rangeAt bl ol (nums .u8 xs) from fun j v hv => (hb1.cell (p := ⟨bl, ol + j, none⟩) (World.block_lt_of_cell? _ _ (HR.out j v hv))).trans (HR.out j v hv)); have HKB := Lib.hid (KeepB.of_below [r] hb1); replace hb1 := Below.mono hb1 HT.out.le)
    clear hat HT HR
    refine s_region (fun u => u.rangeAt bl ol (nums .u8 xs)) (by kernel_rfl) 19 (by kernel_rfl) ((World.rangeAt_drew _ _ _ _).2 (HRl.out)) (fun hS => ?_)
    have HTd := Lib.hid (HT1.out.next (below_drew (Below.refl w1.heap.size w1)))
    have HB1 := Lib.hid (below_drew hb1)
    have HKd := Lib.hid (HKB.out.next (below_drew (Below.refl w1.heap.size w1)))
    generalize hwd : w1.drew = wd at *
    clear hwd HT1 HRl hb1 HKB
    have HK := Lib.hid (HTd.out.blk i _ hbi)
    refine s_take 0 (_) hS rfl (by kernel_rfl) (by kernel_rfl) (by kernel_rfl) (fun _ _ _ h => h) rfl (fun w' hw' => run_move_at _ rfl w') ?_
    simp only [Act.put, List.setIfInBounds_toArray, List.set_cons_zero, List.set_cons_succ]
    refine s_take 1 (_) hS rfl (by kernel_rfl) (by kernel_rfl) (by kernel_rfl) (fun _ _ _ h => h) rfl (fun w' hw' => run_move_at _ rfl w') ?_
    simp only [Act.put, List.setIfInBounds_toArray, List.set_cons_zero, List.set_cons_succ]
    refine s_take 2 (_) hS rfl (by kernel_rfl) (by kernel_rfl) (by kernel_rfl) (fun _ _ _ h => h) rfl (fun w' hw' => run_move_at _ rfl w') ?_
    simp only [Act.put, List.setIfInBounds_toArray, List.set_cons_zero, List.set_cons_succ]
    refine s_take 3 (_) hS rfl (by kernel_rfl) (by kernel_rfl) (by kernel_rfl) (fun _ _ _ h => h) rfl (fun w' hw' => run_move_at _ rfl w') ?_
    simp only [Act.put, List.setIfInBounds_toArray, List.set_cons_zero, List.set_cons_succ]
    refine s_take 7 (_) hS rfl (by kernel_rfl) (by kernel_rfl) (by kernel_rfl) (fun _ _ _ h => h) rfl (fun w' hw' => run_move_at _ rfl w') ?_
    simp only [Act.put, List.setIfInBounds_toArray, List.set_cons_zero, List.set_cons_succ]
    refine s_take 8 (.pointer (some ⟨bl, ol, none⟩)) hS rfl (by kernel_rfl) (by kernel_rfl) (by kernel_rfl) (fun _ _ _ h => h) rfl (fun w' hw' => by (have hc0 := run_arrayAt (P := Try.prog) w' 160 _ 72 (some ⟨bl, ol, none⟩) 72 c Try.underlying160 (by omega); unfold execOp; simp [go_sem, Act.put, Act.eval, hc0])) ?_
    simp only [Act.put, List.setIfInBounds_toArray, List.set_cons_zero, List.set_cons_succ]
    refine s_take 9 (.agg (nums .u8 xs).toArray) hS rfl (by kernel_rfl) (by kernel_rfl) (by kernel_rfl) (fun _ _ _ h => h) rfl (fun w' hw' => run_load_mid 160 _ rfl bl ol rfl (nums .u8 xs) _ hw' Try.underlying160 rfl (by rw [nums_len, hxl]; kernel_rfl)) ?_
    simp only [Act.put, List.setIfInBounds_toArray, List.set_cons_zero, List.set_cons_succ]
    have hnow := now_any (W := wd) (r := r) (o := i * 217) HK.out.1.q
    simp only [if_pos, if_neg, Bool.false_eq_true, if_false, if_true] at hnow
    refine s_call 4 rfl (by kernel_rfl) rfl 104 _ _ Try.func104 (by kernel_rfl) rfl _ _ #[.pointer (some ⟨r, i * 217, none⟩)] rfl (by simp [Act.put, Act.eval]) (hnow) ?_
    rintro e w2 ⟨rfl, hb2⟩
    have HT2 := Lib.hid (HTd.out.next hb2)
    have HK2 := Lib.hid (HKd.out.next hb2)
    have HB2 := Lib.hid (HB1.out.trans (hb2.mono HTd.out.le))
    have hS2 : w2.rangeAt bl ol (nums .u8 xs) := fun j v hv => (hb2.cell (p := ⟨bl, ol + j, none⟩) (World.block_lt_of_cell? _ _ (hS j v hv))).trans (hS j v hv)
    clear HTd HK hnow hb2 HB1
    have hS := hS2
    refine ⟨_, rfl, hS, ?_⟩
    simp only [Act.put, List.setIfInBounds_toArray, List.set_cons_zero, List.set_cons_succ]
    refine s_take 5 (.pointer (some ⟨r, i * 217 + 72, none⟩)) hS rfl (by kernel_rfl) (by kernel_rfl) (by kernel_rfl) (fun _ _ _ h => h) rfl (fun w' hw' => by (unfold execOp; simp [go_sem, Act.put, Act.eval])) ?_
    simp only [Act.put, List.setIfInBounds_toArray, List.set_cons_zero, List.set_cons_succ]
    obtain ⟨K2, F2⟩ := HT2.out.blk i _ hbi
    refine s_one 6 rfl (by kernel_rfl) ?_
    refine g_event (.agg (nums .u8 bf).toArray) w2 rfl (run_load_mid 160 _ rfl r (i * 217 + 72) rfl (nums .u8 bf) _ K2.f Try.underlying160 rfl (by rw [nums_len, show bf.length = 72 from F2.lf]; kernel_rfl)) hS (fun hS => ?_)
    simp only [Act.put, List.setIfInBounds_toArray, List.set_cons_zero, List.set_cons_succ]
    refine s_take 10 (.pointer (some ⟨r, i * 217, none⟩)) hS rfl (by kernel_rfl) (by kernel_rfl) (by kernel_rfl) (fun _ _ _ h => h) rfl (fun w' hw' => by (unfold execOp; simp [go_sem, Act.put, Act.eval])) ?_
    simp only [Act.put, List.setIfInBounds_toArray, List.set_cons_zero, List.set_cons_succ]
    refine s_take 11 (.pointer (some ⟨r, i * 217 + 144, none⟩)) hS rfl (by kernel_rfl) (by kernel_rfl) (by kernel_rfl) (fun _ _ _ h => h) rfl (fun w' hw' => by (unfold execOp; simp [go_sem, Act.put, Act.eval])) ?_
    simp only [Act.put, List.setIfInBounds_toArray, List.set_cons_zero, List.set_cons_succ]
    have hlt := at_lt hbi
    obtain ⟨T3, K3, B3⟩ := HT2.out.setP hbi bf F2.lf F2.bf
    refine s_one 12 rfl (by kernel_rfl) ?_
    refine g_skip (w2.setCells r (i * 217 + 144) (nums .u8 bf)) rfl (run_store_mid 160 _ _ rfl r (i * 217 + 144) (nums .u8 bf).toArray rfl rfl (HT2.out.there _ _ (by rw [List.size_toArray, nums_len, show bf.length = 72 from F2.lf]; omega)) (by rw [List.size_toArray, nums_len, show bf.length = 72 from F2.lf]; kernel_rfl) (nums_one .u8 bf)) (World.rangeAt_setCells_apart hS r _ _ (.inl hne)) (fun hS => ?_)
    simp only [Act.put, List.setIfInBounds_toArray, List.set_cons_zero, List.set_cons_succ]
    have B3' := HB2.out.trans B3
    have HX3 := Lib.hid (And.intro T3 (And.intro K3 B3'))
    clear T3 K3 B3 B3' K2 HT2 HB2
    generalize hw3 : w2.setCells r (i * 217 + 144) (nums .u8 bf) = w3 at *
    clear hw3
    have hbi3 := List.getElem?_set_self (a := ({ d := bd, f := bf, p := bf, q := true } : Blk)) (List.getElem?_eq_some_iff.1 hbi).1
    refine s_take 13 (.pointer (some ⟨r, i * 217, none⟩)) hS rfl (by kernel_rfl) (by kernel_rfl) (by kernel_rfl) (fun _ _ _ h => h) rfl (fun w' hw' => by (unfold execOp; simp [go_sem, Act.put, Act.eval])) ?_
    simp only [Act.put, List.setIfInBounds_toArray, List.set_cons_zero, List.set_cons_succ]
    refine s_take 14 (.pointer (some ⟨r, i * 217 + 72, none⟩)) hS rfl (by kernel_rfl) (by kernel_rfl) (by kernel_rfl) (fun _ _ _ h => h) rfl (fun w' hw' => by (unfold execOp; simp [go_sem, Act.put, Act.eval])) ?_
    simp only [Act.put, List.setIfInBounds_toArray, List.set_cons_zero, List.set_cons_succ]
    obtain ⟨T4, K4, B4⟩ := HX3.out.1.setF hbi3 xs hxl hxb
    refine s_one 15 rfl (by kernel_rfl) ?_
    refine g_skip (w3.setCells r (i * 217 + 72) (nums .u8 xs)) rfl (run_store_mid 160 _ _ rfl r (i * 217 + 72) (nums .u8 xs).toArray rfl rfl (HX3.out.1.there _ _ (by rw [List.size_toArray, nums_len, hxl, List.length_set]; omega)) (by rw [List.size_toArray, nums_len, hxl]; kernel_rfl) (nums_one .u8 xs)) (World.rangeAt_setCells_apart hS r _ _ (.inl hne)) (fun hS => ?_)
    simp only [Act.put, List.setIfInBounds_toArray, List.set_cons_zero, List.set_cons_succ]
    have B4' := HX3.out.2.2.trans B4
    have HX4 := Lib.hid (And.intro T4 (And.intro (HX3.out.2.1.trans K4) B4'))
    clear T4 K4 B4 B4' HX3
    generalize hw4 : w3.setCells r (i * 217 + 72) (nums .u8 xs) = w4 at *
    clear hw4
    rw [List.set_set] at HX4
    have hbi4 := List.getElem?_set_self (a := ({ d := bd, f := xs, p := bf, q := true } : Blk)) (List.getElem?_eq_some_iff.1 hbi).1
    refine s_take 16 (.pointer (some ⟨r, i * 217, none⟩)) hS rfl (by kernel_rfl) (by kernel_rfl) (by kernel_rfl) (fun _ _ _ h => h) rfl (fun w' hw' => by (unfold execOp; simp [go_sem, Act.put, Act.eval])) ?_
    simp only [Act.put, List.setIfInBounds_toArray, List.set_cons_zero, List.set_cons_succ]
    refine s_take 17 (.pointer (some ⟨r, i * 217 + 216, none⟩)) hS rfl (by kernel_rfl) (by kernel_rfl) (by kernel_rfl) (fun _ _ _ h => h) rfl (fun w' hw' => by (unfold execOp; simp [go_sem, Act.put, Act.eval])) ?_
    simp only [Act.put, List.setIfInBounds_toArray, List.set_cons_zero, List.set_cons_succ]
    obtain ⟨T5, K5, B5⟩ := HX4.out.1.setQ hbi4 true
    have hm1 := (HX4.out.1.blk i _ hbi4).1.q
    have hm2 := HX4.out.1.free (i * 217 + 216)
    refine s_one 18 rfl (by kernel_rfl) ?_
    refine g_skip (w4.setCell ⟨r, i * 217 + 216, none⟩ (.bool true)) rfl (by (have hc0 := hm1; have hc1 := hm2; unfold execOp; simp [go_sem, Act.put, Act.eval, hc0, hc1])) (World.rangeAt_setCells_apart hS r _ [.bool true] (.inl hne)) (fun hS => ?_)
    simp only [Act.put, List.setIfInBounds_toArray, List.set_cons_zero, List.set_cons_succ]
    refine s_done (by kernel_rfl) ?_
    rw [List.set_set] at T5
    have HX5 := Lib.hid (And.intro T5 (And.intro (HX4.out.2.1.trans K5) (HX4.out.2.2.trans B5)))
    clear T5 K5 B5 HX4 hm1 hm2 hS
    generalize hw5 : w4.setCell ⟨r, i * 217 + 216, none⟩ (.bool true) = w5 at *
    clear hw5
    go_wp2
    go_ret
    exact ⟨rfl, HX5.out.1, HK2.out.trans HX5.out.2.1, HX5.out.2.2⟩
end Go.Proofs.Ytoiiacbbfhlocaa.HDa
