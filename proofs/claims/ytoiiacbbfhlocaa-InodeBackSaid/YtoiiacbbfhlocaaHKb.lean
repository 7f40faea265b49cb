/- Layer 5: codec.Put's walk. -/
import Derived.Test.YtoiiacbbfhlocaaHKa
import Derived.Test.YtoiiacbbfhlocaaRngIn
import Derived.Test.YtoiiacbbfhlocaaPKa
import Derived.Test.YtoiiacbbfhlocaaCom
import Derived.BigQuiet
set_option linter.unusedVariables false
set_option linter.unusedSimpArgs false
namespace Go.Proofs.Ytoiiacbbfhlocaa.HKa
open Go.RowKit Go.Shelf Go.Proofs.YtoiiacbbfhlocaaW.PrintWords Go.Proofs.YtoiiacbbfhlocaaW.PrintLast Go.Proofs.YtoiiacbbfhlocaaW.PrintMore Go.Proofs.Ytoiiacbbfhlocaa.Kit Go.Proofs.Ytoiiacbbfhlocaa.Rc
attribute [local go_sem] Oper.semAt_some
/-- the world between two rounds -/
def PutAt (w : World) (gb : Nat) (ws l : List Int) (i : Nat) (PP : Option (List Int)) (out : List Int) (Ds : List Nat) (W : World) : Prop :=
  (∃ v, Boxed W gb 29 v ∧ W.ownsRow w.heap.size 5 1 v out.length (nums .u8 out)) ∧ Marks Ds W ∧ (∀ D ∈ Ds, w.heap.size ≤ D) ∧ Below w.heap.size w W ∧ out.length ≤ 8 * i ∧ i ≤ ws.length ∧ putG (ws.drop i) (l.drop i) out = PP
def putP (o : Option (List Int)) : List Int × Int := match o with
  | some x => (x, 0)
  | none => ([], 1)
theorem own_put {w : World} {base D n : Nat} {e : TypeId} {size : Nat} {v : Value} {xs : List Value} (h : w.ownsRow base e size v n xs) (hD : w.heap[D]? = some (.deferred (some []))) (o : Obj) : (w.putObj D o).ownsRow base e size v n xs := by
  refine own_move h (fun k hk => ?_)
  obtain ⟨cells, hc⟩ := own_typed h k hk
  have hne : k ≠ D := fun e => by rw [e, hD] at hc; cases hc
  exact (grownBy_putObj' w D o).block k (own_lt h k hk) (fun e => hne (by injection e))
theorem cell_lt {w : World} {a : Addr} {v : Value} (h : w.cell? a = some v) : a.block < w.heap.size := by
  rcases Nat.lt_or_ge a.block w.heap.size with hl | hl
  · exact hl
  · have hn : w.heap[a.block]? = none := Array.getElem?_eq_none_iff.2 hl
    unfold World.cell? at h
    rw [hn] at h
    cases h
/-- the bytes that have come -/
def fb (n : Int) (pre : List Sh) : List Int := pre.map fun s => n / 2 ^ s.1.toNat % 256
theorem fb_all : ∀ (m : Nat) (n : Int) (xs : List Sh), xs.map (·.1) = shN m m → fb n xs = bg n m
  | m, n, xs, h => by
    have h1 : fb n xs = (xs.map (·.1)).map fun s => n / 2 ^ s.toNat % 256 := by
      unfold fb
      rw [List.map_map]
      rfl
    rw [h1, h]
    clear h h1 xs
    induction m generalizing n with
    | zero => rfl
    | succ m ih =>
      rw [shN_succ, List.map_append]
      unfold bg
      rw [← ih (n / 256)]
      congr 1
      · unfold shN
        rw [List.map_map, List.map_map]
        apply List.map_congr_left
        intro j hj
        have hj := List.mem_range.1 hj
        simp only [Function.comp]
        have e1 : (8 * (((m + 1 : Nat) : Int) - 1 - (j : Int))).toNat = 8 + (8 * ((m : Int) - 1 - (j : Int))).toNat := by omega
        rw [e1, Int.pow_add, show (2 : Int) ^ 8 = 256 from rfl, Int.ediv_ediv_of_nonneg (by omega)]
      · simp
theorem below_drewN' (W : World) (n : Nat) : Below W.heap.size W (W.drewN n) := by exact (Drawn0.mk ⟨n, rfl⟩ : Drawn0 W (W.drewN n)).below
def PutOut (x : List Int × Int) (w : World) (e : Ending) (w' : World) : Prop :=
  ∃ v0_ : Value, e = .returned (.tuple #[v0_, .int .i64 x.2]) ∧ Kd.R (Kd.int .u8) 5 w' w.heap.size (fun _ => True) v0_ x.1 ∧ Below w.heap.size w w'
theorem put_neg (A0 : Option Addr) (c0 : Nat) (ws : List Int) (A1 : Option Addr) (c1 : Nat) (l : List Int) (w : World) (hr0 : Kd.C (Kd.int .i64) w A0 ws.length ws) (hc0 : ws.length ≤ c0) (hl : ws.length ≤ 1000) (hneg : wideG ws 0 < 0) :
    Calls Try.prog 19 #[.slice A0 ws.length c0, .slice A1 l.length c1] w (PutOut ([], 1) w) := by
  have hneg1 := wideG_neg ws 0 (by omega) hneg
  have hW := wide_tells ws hl 0
  rw [hneg1] at hW
  refine calls_of_marks Try.func19 rfl ?_
  simp only [Try.ntmps19, List.size_toArray, List.length_cons, List.length_nil, Nat.reduceAdd, Nat.reduceSub, Array.replicate_succ, Array.replicate_zero, List.push_toArray, List.append_toArray, List.nil_append, List.cons_append]
  go_wp2_with fail
  refine (codec_Wide.calls _ A0 c0 ws _ w hr0 hc0 hW).mono ?_
  rintro e w1 ⟨rfl, hD⟩
  have hB := hD.below
  clear hD
  go_wp2_with fail
  refine marks_ret [] w.heap.size (fun W => Below w.heap.size w W) rfl (fun _ => results_tmp2 rfl _ _ _) (Marks.nil _) (by simp) hB (by intro W D h h1 h2; exact h.trans (belowK_b (w := w) (Nat.le_refl _) W D _ _ h1 h2 rfl rfl)) ?_
  intro W hW
  exact ⟨_, rfl, Kd.R_nil _ _ _ _ _, hW⟩
theorem put_len (A0 : Option Addr) (c0 : Nat) (ws : List Int) (A1 : Option Addr) (c1 : Nat) (l : List Int) (w : World) (hr0 : Kd.C (Kd.int .i64) w A0 ws.length ws) (hc0 : ws.length ≤ c0) (hl : ws.length ≤ 1000) (hneg : 0 ≤ wideG ws 0) (hlen : l.length ≠ ws.length) :
    Calls Try.prog 19 #[.slice A0 ws.length c0, .slice A1 l.length c1] w (PutOut ([], 1) w) := by
  have hW := wide_tells ws hl 0
  have hlen' : ((l.length : Int) != (ws.length : Int)) = true := by simp; omega
  have hneg' : ¬ (wideG ws 0 < 0) := by omega
  refine calls_of_marks Try.func19 rfl ?_
  simp only [Try.ntmps19, List.size_toArray, List.length_cons, List.length_nil, Nat.reduceAdd, Nat.reduceSub, Array.replicate_succ, Array.replicate_zero, List.push_toArray, List.append_toArray, List.nil_append, List.cons_append]
  go_wp2_with fail
  refine (codec_Wide.calls _ A0 c0 ws _ w hr0 hc0 hW).mono ?_
  rintro e w1 ⟨rfl, hD⟩
  have hB := hD.below
  clear hD
  go_wp2_with fail
  refine marks_ret [] w.heap.size (fun W => Below w.heap.size w W) rfl (fun _ => results_tmp2 rfl _ _ _) (Marks.nil _) (by simp) hB (by intro W D h h1 h2; exact h.trans (belowK_b (w := w) (Nat.le_refl _) W D _ _ h1 h2 rfl rfl)) ?_
  intro W hW
  exact ⟨_, rfl, Kd.R_nil _ _ _ _ _, hW⟩
set_option maxHeartbeats 1000000 in
set_option maxRecDepth 100000 in
theorem put_go (PP : Option (List Int)) (A0 : Option Addr) (c0 : Nat) (ws : List Int) (A1 : Option Addr) (c1 : Nat) (l : List Int) (w : World) (hr0 : Kd.C (Kd.int .i64) w A0 ws.length ws) (hc0 : ws.length ≤ c0) (hr1 : Kd.C (Kd.int .u64) w A1 l.length l) (hc1 : l.length ≤ c1) (hl : ws.length ≤ 1000) (hn : ∀ n ∈ l, 0 ≤ n ∧ n < 18446744073709551616) (hneg : 0 ≤ wideG ws 0) (hlen : l.length = ws.length) (hPP : PP = putG ws l []) :
    Calls Try.prog 19 #[.slice A0 ws.length c0, .slice A1 l.length c1] w (PutOut (putP PP) w) := by
  have hW := wide_tells ws hl 0
  have hlen' : ((l.length : Int) != (ws.length : Int)) = false := by simp; omega
  have hneg' : ¬ (wideG ws 0 < 0) := by omega
  have HN := Lib.hid hn
  have HM := Lib.hid (wideG_all ws 0 (by omega) hneg)
  clear hn
  refine calls_of_marks Try.func19 rfl ?_
  simp only [Try.ntmps19, List.size_toArray, List.length_cons, List.length_nil, Nat.reduceAdd, Nat.reduceSub, Array.replicate_succ, Array.replicate_zero, List.push_toArray, List.append_toArray, List.nil_append, List.cons_append]
  go_wp2_with fail
  refine (codec_Wide.calls _ A0 c0 ws _ w hr0 hc0 hW).mono ?_
  rintro e w1 ⟨rfl, hD⟩
  have HB1 := Lib.hid hD.below
  have HR0 := Lib.hid hr0
  have HR1 := Lib.hid hr1
  clear hD hr0 hr1
  go_wp2_with fail
  refine wp_loop (fun a W => ∃ (i : Nat) (out : List Int) (Ds : List Nat) (u7 u8 u23 u24 u25 u26 u27 u28 u29 u30 u31 u32 u33 u34 u35 u36 u37 u38 u39 u40 u41 u50 : Value), PutAt w w1.heap.size ws l i PP out Ds W ∧ a = { tmps := #[.slice A0 ws.length c0, .slice A1 ws.length c1, undef, undef, .slice none 0 0, .int .i64 0, .pointer (some ⟨w1.heap.size, 0, none⟩), u7, u8, undef, .slice A0 ws.length c0, .int .i64 (wideG ws 0), .bool (decide (wideG ws 0 < 0)), .bool (decide (wideG ws 0 < 0)), .slice A1 ws.length c1, .int .i64 ws.length, .slice A0 ws.length c0, .int .i64 ws.length, .bool false, .bool (decide (wideG ws 0 < 0)), .slice A1 ws.length c1, .int .i64 ws.length, .int .i64 (i : Nat), u23, u24, u25, u26, u27, u28, u29, u30, u31, u32, u33, u34, u35, u36, u37, u38, u39, u40, u41, undef, undef, undef, undef, undef, undef, undef, undef, u50, undef], defers := Ds.map mark1 })
    (fun a _ => ws.length - (intOf (a.tmps.getD 22 undef)).toNat) ?_ ?_
  · exact ⟨0, [], [], undef, undef, undef, undef, undef, undef, undef, undef, undef, undef, undef, undef, undef, undef, undef, undef, undef, undef, undef, undef, undef, undef, ⟨⟨_, Boxed.new w1 _ _, own_nil _ _ _ _⟩, Marks.nil _, by simp, HB1.out.alloc HB1.out.size _, by simp, by omega, hPP.symm⟩, rfl⟩
  clear hPP
  rintro _ W ⟨i, out, Ds, u7, u8, u23, u24, u25, u26, u27, u28, u29, u30, u31, u32, u33, u34, u35, u36, u37, u38, u39, u40, u41, u50, ⟨⟨v, hbx, hown⟩, hM, hDs, hBW, ho, hi, hput⟩, rfl⟩
  have HP := Lib.hid hput
  have HBW := Lib.hid hBW
  have HMk := Lib.hid hM
  have HDs := Lib.hid hDs
  have HO := Lib.hid hown
  clear hput hBW hM hDs hown
  by_cases hii : i < ws.length
  rotate_left
  · have hie : i = ws.length := by omega
    subst hie
    have hcell := hbx.cell
    rw [List.drop_length, show l.drop ws.length = [] from by rw [← hlen]; exact List.drop_length] at HP
    rw [← HP.out]
    go_wp2_with fail
    refine marks_ret Ds w.heap.size (fun W => Below w.heap.size w W ∧ W.ownsRow w.heap.size 5 1 v out.length (nums .u8 out)) rfl (fun _ => results_tmp2 rfl _ _ _) HMk.out HDs.out ⟨HBW.out, HO.out⟩ ?_ ?_
    · intro W D h h1 h2
      exact ⟨h.1.trans (belowK_b (w := w) (Nat.le_refl _) W D _ _ h1 h2 rfl rfl), own_put h.2 h2 _⟩
    · intro W hW
      refine ⟨v, ?_, ?_, hW.1⟩
      · rw [← HP.out]; rfl
      · rw [← HP.out]; exact Kd.R_of_own hW.2 (fun _ _ => trivial)
  obtain ⟨n, hn⟩ : ∃ n, n = l.getD i 0 := ⟨_, rfl⟩
  obtain ⟨m, hm⟩ : ∃ m : Nat, (m : Int) = ws.getD i 0 := ⟨(ws.getD i 0).toNat, by
    have h := HM.out (ws.getD i 0) (by rw [List.getD_eq_getElem?_getD, List.getElem?_eq_getElem hii]; exact List.getElem_mem hii)
    omega⟩
  have hmr : 1 ≤ m ∧ m ≤ 8 := by
    have h := HM.out (ws.getD i 0) (by rw [List.getD_eq_getElem?_getD, List.getElem?_eq_getElem hii]; exact List.getElem_mem hii)
    omega
  have hnr : 0 ≤ n ∧ n < 18446744073709551616 := by
    rw [hn]
    exact HN.out (l.getD i 0) (by rw [List.getD_eq_getElem?_getD, List.getElem?_eq_getElem (by omega)]; exact List.getElem_mem _)
  have HPs := Lib.hid (show putG (m :: ws.drop (i + 1)) (n :: l.drop (i + 1)) out = PP by
    rw [← HP.out, List.drop_eq_getElem_cons hii, List.drop_eq_getElem_cons (show i < l.length by omega), hm, hn, List.getD_eq_getElem?_getD, List.getD_eq_getElem?_getD, List.getElem?_eq_getElem hii, List.getElem?_eq_getElem (show i < l.length by omega)]
    rfl)
  obtain ⟨b0, o0, rfl, hc0'⟩ := C_cells (Kd.C_below HR0.out HBW.out) (by omega)
  obtain ⟨b1, o1, rfl, hc1'⟩ := C_cells (Kd.C_below HR1.out HBW.out) (by omega)
  have hcl := hc1' i (by omega)
  have hcw := hc0' i (by omega)
  rw [← hn] at hcl
  rw [← hm] at hcw
  clear hn hm hc0' hc1'
  have hii' : (i : Int) < ws.length := by omega
  go_wp2_with fail
  have hbn := Boxed.new W 27 (.int .u64 n)
  have hBa : Below W.heap.size W (W.alloc (.cells #[.int .u64 n] 27)) := (Below.refl _ W).alloc (Nat.le_refl _) _
  have hbx2 := hbx.alloc (.cells #[.int .u64 n] 27)
  have hcw2 : (W.alloc (.cells #[.int .u64 n] 27)).cell? ⟨b0, o0 + i, none⟩ = some (.int .i64 m) := by
    have hlt : b0 < W.heap.size := cell_lt hcw
    exact (hBa.cell (p := ⟨b0, o0 + i, none⟩) hlt).trans hcw
  have hgb : w1.heap.size < W.heap.size := hbx.lt
  obtain ⟨gn, hgn⟩ : ∃ g, g = W.heap.size := ⟨_, rfl⟩
  obtain ⟨W2, hW2⟩ : ∃ W2, W2 = W.alloc (.cells #[.int .u64 n] 27) := ⟨_, rfl⟩
  rw [← hW2] at hbn hBa hbx2 hcw2 ⊢
  have HBx := Lib.hid hbx2
  have HBn := Lib.hid hbn
  have HO2 := Lib.hid (show W2.ownsRow w.heap.size 5 1 v out.length (nums .u8 out) from pw_own_below HO.out hBa)
  have HB2 := Lib.hid (below_next HBW.out hBa)
  have HM2 := Lib.hid (HMk.out.below hBa)
  have hcn := hbn.cell
  rw [← hgn] at hgb hcn HBn ⊢
  clear hW2 hBa hbx hbx2 hbn HO HMk HBW HR0 HR1 hcl hcw HP
  have HPW : Hid (n / 2 / 2 ^ (8 * m - 1) = n / 256 ^ m) := Lib.hid (by
    have h2 : (256 : Int) ^ m = 2 * 2 ^ (8 * m - 1) := by
      rw [show (256 : Int) = 2 ^ 8 from rfl, ← Int.pow_mul, ← Int.pow_succ', show 8 * m - 1 + 1 = 8 * m from by omega]
    rw [h2, Int.ediv_ediv_of_nonneg (by omega)])
  clear hgn
  go_quiet (fail)
  by_cases hz : n / 256 ^ m = 0
  rotate_left
  · have hzb : (n / 2 / 2 ^ (8 * m - 1) != 0) = true := by rw [HPW.out]; simpa using hz
    have hPn : PP = none := by
      rw [← HPs.out]
      unfold putG
      rw [if_neg (by simpa using hz)]
    subst hPn
    clear HPW hz
    go_wp2_with fail
    refine marks_ret Ds w.heap.size (fun W => Below w.heap.size w W) rfl (fun _ => results_tmp2 rfl _ _ _) (HM2.out.below (by exact below_drewN' _ _)) HDs.out (by exact below_next HB2.out (below_drewN' _ _)) ?_ ?_
    · intro W D h h1 h2
      exact h.trans (belowK_b (w := w) (Nat.le_refl _) W D _ _ h1 h2 rfl rfl)
    · intro W hW
      exact ⟨_, rfl, Kd.R_nil _ _ _ _ _, hW⟩
  have hzb : (n / 2 / 2 ^ (8 * m - 1) != 0) = false := by rw [HPW.out]; simpa using hz
  have HPz := Lib.hid (show putG (ws.drop (i + 1)) (l.drop (i + 1)) (out ++ bg n m) = PP by
    have h := HPs.out
    unfold putG at h
    rw [if_pos (by simpa using hz)] at h
    simpa using h)
  clear HPW hz HPs
  go_wp2_with fail
  refine ((callsIn_wide (n := 9)).1 (shifts_in Fence.wide 9 trivial rfl m (W2.drewN nq))).mono ?_
  rintro e W3 ⟨rfl, hW3⟩
  have hB23 : Below W2.heap.size W2 W3 := by
    rw [hW3]
    exact (below_drewN' _ _).alloc (by simp) _
  have hbs := Boxed.new (W2.drewN nq) 3 (.int .i64 m)
  rw [← hW3] at hbs
  have hg3 : (W2.drewN nq).heap.size = W2.heap.size := by simp
  rw [hg3] at hbs ⊢
  have HBx3 := Lib.hid (show Boxed W3 w1.heap.size 29 v from (hB23.block _ HBx.out.lt).trans HBx.out)
  have HBn3 := Lib.hid (show Boxed W3 gn 27 (.int .u64 n) from (hB23.block _ HBn.out.lt).trans HBn.out)
  have HO3 := Lib.hid (pw_own_below HO2.out hB23)
  have HM3 := Lib.hid (HM2.out.below hB23)
  have HB3 := Lib.hid (below_next HB2.out hB23)
  have hs3 : W2.heap.size ≤ W3.heap.size := hB23.size
  have hDl : ∀ D ∈ Ds, D < W3.heap.size := fun D hD => HM3.out.lt hD
  clear hW3 hB23 hcn hcw2 HBx HBn HO2 HM2 HB2
  go_wp2_with fail
  refine (wpIn_wide (n := 9)).1 ?_
  apply wpIn_rangeFunc_ownF (F := Fence.wide) (n := 9) rfl (by decide) (gf := 119) (lb := #[.pointer (some ⟨W2.heap.size, 0, none⟩)]) rfl trivial (enters_of Try.func119 (by kernel_rfl) rfl)
    (shifts_stops Fence.wide 8 trivial rfl (by decide) W2.heap.size m W3 hbs.lt hbs.cell hmr.2) walksK_t walksK_b (Below.refl _ _) (fun _ => rfl)
    (fun pre W => (((∃ v, Boxed W w1.heap.size 29 v ∧ W.ownsRow w.heap.size 5 1 v (out ++ fb n pre).length (nums .u8 (out ++ fb n pre)) ∧ True) ∧ Boxed W gn 27 (.int .u64 n)) ∧ Marks Ds W) ∧ Below w.heap.size w W)
    (fun _ _ _ => False)
    (OwnFrom.and (OwnFrom.and (OwnFrom.and (Own.from (holdsRow_own w.heap.size w1.heap.size 29 5 1 (fun pre => (out ++ fb n pre).length) (fun pre => nums .u8 (out ++ fb n pre)) (fun _ _ => True)) _) (Own.from (boxed_own gn 27 (fun _ => .int .u64 n)) _)) (marks_own _ Ds hDl)) (ownFrom_below (Nat.le_refl _) HB3.out.size))
    (fun _ _ _ _ _ hs _ _ => hs)
    ⟨⟨⟨⟨v, HBx3.out, by simpa [fb] using HO3.out, trivial⟩, HBn3.out⟩, HM3.out⟩, HB3.out⟩
  · intro l x W K hK
    gi_wp2
    exact hK
  · rintro lp pre x W ⟨⟨⟨⟨v, hv, hrow, -⟩, hbn⟩, hMM⟩, hBB⟩ hlt
    obtain ⟨x, hx0, hx1⟩ := x
    have HX := Lib.hid (show (0:Int) ≤ x ∧ x < 64 from ⟨hx0, hx1⟩)
    have hnq : ¬ LetsOut (Exit.inBlock 3 (ownPostK KeepsWalks (fun (pre : List Sh) W => (((∃ v, Boxed W w1.heap.size 29 v ∧ W.ownsRow w.heap.size 5 1 v (out ++ fb n pre).length (nums .u8 (out ++ fb n pre)) ∧ True) ∧ Boxed W gn 27 (.int .u64 n)) ∧ Marks Ds W) ∧ Below w.heap.size w W) (fun _ _ _ => False) (pre ++ [⟨x, hx0, hx1⟩]) W)) := fun ⟨_, _, h⟩ => h
    obtain ⟨y, hy⟩ : ∃ y, y = n / 2 ^ x.toNat % 256 := ⟨_, rfl⟩
    have HY := Lib.hid hy
    have hpre : (fb n pre).length < 8 := by unfold fb; rw [List.length_map]; omega
    have hbd := Below.drew (Below.refl W.heap.size W)
    have HVd := Lib.hid (show Boxed W.drew w1.heap.size 29 v from (hbd.block _ hv.lt).trans hv)
    have HNd := Lib.hid (show Boxed W.drew gn 27 (.int .u64 n) from (hbd.block _ hbn.lt).trans hbn)
    have HBd := Lib.hid (below_next hBB hbd)
    have HMd := Lib.hid (hMM.below hbd)
    have HRd := Lib.hid (pw_own_below hrow hbd)
    have HKd := Lib.hid (KeepsOthers.drew W)
    clear hBB hMM hrow hv hbn hy hbd
    refine wpIn_block ?_
    refine s_region_in lp _ (fun u => Boxed u gn 27 (.int .u64 n)) (by kernel_rfl) (by kernel_rfl) hnq 8 (by kernel_rfl) HNd.out (fun hS => ?_)
    clear hnq
    obtain ⟨Wd, hWd⟩ : ∃ Wd, Wd = W.drew := ⟨_, rfl⟩
    rw [← hWd] at HVd HNd HBd HMd HRd HKd hS ⊢
    clear hWd
    refine s_take 1 (.int .u64 n) hS rfl (by kernel_rfl) (by kernel_rfl) (by kernel_rfl) (fun _ _ _ h => h) rfl (fun w' hw' => by (have hc0 := Boxed.cell hw'; unfold execOp; simp [go_sem, Act.put, Act.eval, hc0])) ?_
    simp only [Act.put, List.setIfInBounds_toArray, List.set_cons_zero, List.set_cons_succ]
    refine s_take 2 (_) hS rfl (by kernel_rfl) (by kernel_rfl) (by kernel_rfl) (fun _ _ _ h => h) rfl (fun w' hw' => run_move_at _ rfl w') ?_
    simp only [Act.put, List.setIfInBounds_toArray, List.set_cons_zero, List.set_cons_succ]
    refine s_take 3 (.int .u64 (n / 2 ^ x.toNat)) hS rfl (by kernel_rfl) (by kernel_rfl) (by kernel_rfl) (fun _ _ _ h => h) rfl (fun w' hw' => by (have hc0 := HX.out.1; have hc1 := HX.out.2; have hc2 := hnr.1; have hc3 := hnr.2; unfold execOp; simp [go_sem, Act.put, Act.eval, hc0, hc1, hc2, hc3])) ?_
    simp only [Act.put, List.setIfInBounds_toArray, List.set_cons_zero, List.set_cons_succ]
    refine s_take 4 (.int .u8 y) hS rfl (by kernel_rfl) (by kernel_rfl) (by kernel_rfl) (fun _ _ _ h => h) rfl (fun w' hw' => by (have hc0 := HY.out; unfold execOp; simp [go_sem, Act.put, Act.eval, IntKind.wrap_u8, hc0])) ?_
    simp only [Act.put, List.setIfInBounds_toArray, List.set_cons_zero, List.set_cons_succ]
    have hA5 : Boxed (Wd.alloc (.cells #[.int .u8 y] 5)) gn 27 (.int .u64 n) := HNd.out.alloc _
    have hV5a : Boxed (Wd.alloc (.cells #[.int .u8 y] 5)) w1.heap.size 29 v := HVd.out.alloc _
    refine s_two 0 5 rfl rfl (by kernel_rfl) ?_ ?_
    · refine g_event v Wd rfl (by (have hc0 := Boxed.cell HVd.out; unfold execOp; simp [go_sem, Act.put, Act.eval, hc0])) hS (fun hS => ?_)
      simp only [Act.put, List.setIfInBounds_toArray, List.set_cons_zero, List.set_cons_succ]
      refine s_event 5 (.slice (some ⟨Wd.heap.size, 0, none⟩) 1 1) ((Wd.alloc (.cells #[.int .u8 y] 5))) rfl (by kernel_rfl) rfl (by (unfold execOp; simp [go_sem, Act.put, Act.eval])) (hA5) (fun hS => ?_)
      simp only [Act.put, List.setIfInBounds_toArray, List.set_cons_zero, List.set_cons_succ]
      refine s_one 6 rfl (by kernel_rfl) ?_
      intro K' hK'
      refine Kd.R_append_step (Kd.int .u8) (w0 := w) (W := Wd) w.heap.size (by rfl) (.tmp 43) (.tmp 48) 29 5 (.int .u8 0) 1 (by rfl) Try.underlying29 Go.Proofs.Ytoiiacbbfhlocaa.Com.info5 rfl (by decide) (by decide) v (out ++ fb n pre) y [.int .u8 y] (fun _ => True) (fun _ => False) (by rfl) (by rfl) (by rfl) (fun _ h => h.elim) (fun _ _ => trivial) (Kd.R_of_own HRd.out (fun _ _ => trivial)) HBd.out HBd.out.size (by rw [List.length_append]; omega) ?_
      intro v1 w5 ho5 hb5 hg5 hat5
      have hov := Kd.own_of_R ho5
      rw [List.length_append, List.length_singleton] at hov
      obtain ⟨g5, c5, rfl⟩ := ownsRow_succ hov
      have hV5 : Boxed w5 w1.heap.size 29 v := HVd.out.kept hg5 (HVd.out.not_row (by decide) HRd.out)
      have hN5 : Boxed w5 gn 27 (.int .u64 n) := HNd.out.kept hg5 (HNd.out.not_row (by decide) HRd.out)
      have hK5 : KeepsOthers Wd w5 := KeepsOthers.of_grownBy hg5 (fun j o ej hj => by obtain ⟨cells, hc⟩ := own_typed HRd.out j ej; rw [hc] at hj; cases hj; rfl)
      have hN6 := hN5.other (Nat.ne_of_gt hgb) (.slice (some ⟨g5, 0, none⟩) ((out ++ fb n pre).length + 1) c5)
      refine hK'.out _ _ hN5 ?_
      simp only [Act.put, List.setIfInBounds_toArray, List.set_cons_zero, List.set_cons_succ]
      refine s_one 7 rfl (by kernel_rfl) ?_
      refine g_skip (w5.setCell ⟨w1.heap.size, 0, none⟩ (.slice (some ⟨g5, 0, none⟩) ((out ++ fb n pre).length + 1) c5)) rfl (by (have hc0 := hV5.cell; have hc1 := hV5.frozen; unfold execOp; simp [go_sem, Act.put, Act.eval, hc0, hc1])) hN6 (fun hS => ?_)
      simp only [Act.put, List.setIfInBounds_toArray, List.set_cons_zero, List.set_cons_succ]
      refine s_done (by kernel_rfl) ?_
      have hsz : w.heap.size ≤ w1.heap.size := HB1.out.size
      have hKK : KeepsOthers W (w5.setCell ⟨w1.heap.size, 0, none⟩ (.slice (some ⟨g5, 0, none⟩) ((out ++ fb n pre).length + 1) c5)) := (HKd.out.trans hK5).trans (KeepsOthers.setCell _ _ _)
      refine ⟨hKK, hKK.walks, ⟨⟨⟨_, hV5.set _, ?_, trivial⟩, hN6⟩, HMd.out.keep (hK5.trans (KeepsOthers.setCell _ _ _))⟩, hb5.setCell (p := ⟨w1.heap.size, 0, none⟩) hsz _⟩
      have hfb : fb n (pre ++ [⟨x, hx0, hx1⟩]) = fb n pre ++ [y] := by rw [HY.out]; simp [fb]
      have e5 : ((out ++ fb n pre) ++ [y]).length = (out ++ fb n pre).length + 1 := by rw [List.length_append, List.length_singleton]
      rw [hfb, ← List.append_assoc, e5]
      exact hov.kept (grownBy_setCell' w5 w1.heap.size _) (.inr (hV5.not_row (by decide) hov).symm)
    · refine g_event (.slice (some ⟨Wd.heap.size, 0, none⟩) 1 1) (Wd.alloc (.cells #[.int .u8 y] 5)) rfl (by (unfold execOp; simp [go_sem, Act.put, Act.eval])) hA5 (fun hS => ?_)
      simp only [Act.put, List.setIfInBounds_toArray, List.set_cons_zero, List.set_cons_succ]
      refine s_event 0 (v) ((Wd.alloc (.cells #[.int .u8 y] 5))) rfl (by kernel_rfl) rfl (by (have hc0 := Boxed.cell hV5a; unfold execOp; simp [go_sem, Act.put, Act.eval, hc0])) (hA5) (fun hS => ?_)
      simp only [Act.put, List.setIfInBounds_toArray, List.set_cons_zero, List.set_cons_succ]
      refine s_one 6 rfl (by kernel_rfl) ?_
      intro K' hK'
      refine Kd.R_append_step (Kd.int .u8) (w0 := w) (W := Wd) w.heap.size (by rfl) (.tmp 43) (.tmp 48) 29 5 (.int .u8 0) 1 (by rfl) Try.underlying29 Go.Proofs.Ytoiiacbbfhlocaa.Com.info5 rfl (by decide) (by decide) v (out ++ fb n pre) y [.int .u8 y] (fun _ => True) (fun _ => False) (by rfl) (by rfl) (by rfl) (fun _ h => h.elim) (fun _ _ => trivial) (Kd.R_of_own HRd.out (fun _ _ => trivial)) HBd.out HBd.out.size (by rw [List.length_append]; omega) ?_
      intro v1 w5 ho5 hb5 hg5 hat5
      have hov := Kd.own_of_R ho5
      rw [List.length_append, List.length_singleton] at hov
      obtain ⟨g5, c5, rfl⟩ := ownsRow_succ hov
      have hV5 : Boxed w5 w1.heap.size 29 v := HVd.out.kept hg5 (HVd.out.not_row (by decide) HRd.out)
      have hN5 : Boxed w5 gn 27 (.int .u64 n) := HNd.out.kept hg5 (HNd.out.not_row (by decide) HRd.out)
      have hK5 : KeepsOthers Wd w5 := KeepsOthers.of_grownBy hg5 (fun j o ej hj => by obtain ⟨cells, hc⟩ := own_typed HRd.out j ej; rw [hc] at hj; cases hj; rfl)
      have hN6 := hN5.other (Nat.ne_of_gt hgb) (.slice (some ⟨g5, 0, none⟩) ((out ++ fb n pre).length + 1) c5)
      refine hK'.out _ _ hN5 ?_
      simp only [Act.put, List.setIfInBounds_toArray, List.set_cons_zero, List.set_cons_succ]
      refine s_one 7 rfl (by kernel_rfl) ?_
      refine g_skip (w5.setCell ⟨w1.heap.size, 0, none⟩ (.slice (some ⟨g5, 0, none⟩) ((out ++ fb n pre).length + 1) c5)) rfl (by (have hc0 := hV5.cell; have hc1 := hV5.frozen; unfold execOp; simp [go_sem, Act.put, Act.eval, hc0, hc1])) hN6 (fun hS => ?_)
      simp only [Act.put, List.setIfInBounds_toArray, List.set_cons_zero, List.set_cons_succ]
      refine s_done (by kernel_rfl) ?_
      have hsz : w.heap.size ≤ w1.heap.size := HB1.out.size
      have hKK : KeepsOthers W (w5.setCell ⟨w1.heap.size, 0, none⟩ (.slice (some ⟨g5, 0, none⟩) ((out ++ fb n pre).length + 1) c5)) := (HKd.out.trans hK5).trans (KeepsOthers.setCell _ _ _)
      refine ⟨hKK, hKK.walks, ⟨⟨⟨_, hV5.set _, ?_, trivial⟩, hN6⟩, HMd.out.keep (hK5.trans (KeepsOthers.setCell _ _ _))⟩, hb5.setCell (p := ⟨w1.heap.size, 0, none⟩) hsz _⟩
      have hfb : fb n (pre ++ [⟨x, hx0, hx1⟩]) = fb n pre ++ [y] := by rw [HY.out]; simp [fb]
      have e5 : ((out ++ fb n pre) ++ [y]).length = (out ++ fb n pre).length + 1 := by rw [List.length_append, List.length_singleton]
      rw [hfb, ← List.append_assoc, e5]
      exact hov.kept (grownBy_setCell' w5 w1.heap.size _) (.inr (hV5.not_row (by decide) hov).symm)
  · rintro D xs W hD hS ⟨⟨⟨⟨v, hv, hrow, -⟩, hbn⟩, hMM⟩, hBB⟩ hK
    have HMD := Lib.hid (hMM.cons hK (fun E hE => Nat.lt_of_lt_of_le (hDl E hE) hD))
    have HBB := Lib.hid hBB
    have HV := Lib.hid hv
    have HRW := Lib.hid hrow
    have HS := Lib.hid hS
    have HD := Lib.hid hD
    clear hMM hBB hv hrow hS hD hK hbn
    simp only [Exit.inBlock, Exit.then]
    go_wp2_with fail
    have hfa := fb_all m n xs HS.out
    rw [hfa] at HRW
    refine ⟨⟨i + 1, out ++ bg n m, D :: Ds, _, _, _, _, _, _, _, _, _, _, _, _, _, _, _, _, _, _, _, _, _, _, ⟨⟨v, HV.out, HRW.out⟩, HMD.out, ?_, HBB.out, ?_, ?_, HPz.out⟩, rfl⟩, ?_⟩
    · intro E hE
      rcases List.mem_cons.1 hE with rfl | hE
      · exact Nat.le_trans HB3.out.size HD.out
      · exact HDs.out E hE
    · rw [List.length_append, bg_length]; omega
    · omega
    · simp [intOf]; omega
  · rintro D c pre W hD hS h hK
    exact h.elim
theorem put_any (A0 : Option Addr) (c0 : Nat) (ws : List Int) (A1 : Option Addr) (c1 : Nat) (l : List Int) (w : World) (hr0 : Kd.C (Kd.int .i64) w A0 ws.length ws) (hc0 : ws.length ≤ c0) (hr1 : Kd.C (Kd.int .u64) w A1 l.length l) (hc1 : l.length ≤ c1) (hl : ws.length ≤ 1000) (hn : ∀ n ∈ l, 0 ≤ n ∧ n < 18446744073709551616) :
    Calls Try.prog 19 #[.slice A0 ws.length c0, .slice A1 l.length c1] w (PutOut (putF ws l) w) := by
  unfold putF
  by_cases h0 : wideG ws 0 < 0
  · rw [if_pos (.inl h0)]
    exact put_neg A0 c0 ws A1 c1 l w hr0 hc0 hl h0
  · by_cases hlen : l.length = ws.length
    · rw [if_neg (by simp only [not_or, Decidable.not_not]; exact ⟨h0, hlen⟩)]
      exact put_go (putG ws l []) A0 c0 ws A1 c1 l w hr0 hc0 hr1 hc1 hl hn (by omega) hlen rfl
    · rw [if_pos (.inr hlen)]
      exact put_len A0 c0 ws A1 c1 l w hr0 hc0 hl (by omega) hlen
end Go.Proofs.Ytoiiacbbfhlocaa.HKa
