/- Layer 19: the walk of LockApart. -/
import Derived.Test.YtoiiacbbfhlocaaHLo
import Derived.Test.YtoiiacbbfhlocaaRowD
set_option linter.unusedVariables false
set_option linter.unusedSimpArgs false
namespace Go.Proofs.Ytoiiacbbfhlocaa.HLa
open Go.RowKit Go.Proofs.YtoiiacbbfhlocaaW.PrintWords Go.Proofs.YtoiiacbbfhlocaaW.PrintLast Go.Proofs.YtoiiacbbfhlocaaW.PrintMore Go.Proofs.Ytoiiacbbfhlocaa.Kit
theorem infoB : (Try.prog.info? 4).map (fun i => (i.zero, i.size, i.bytes)) = some (some (.bool false), 1, 1) := by kernel_rfl
theorem WRow.free {W : World} {gw : Nat} {wr : List Bool} (h : WRow W gw wr) (i : Nat) : W.frozen? ⟨gw, i, none⟩ = false := frozen_of_row W gw i _ _ h
theorem deed_cells {w : World} {z : List Deed4} {a : Option Addr} (hz : ∀ (i : Nat) (x : Deed4), z[i]? = some x → (∃ ad, a = some ad ∧ ∀ (j : Nat) (v : Value), (d4C x)[j]? = some v → w.cell? (ad.add (i * 4 + j)) = some v) ∧ (Lit.int .i64 x.2.1).wf = true ∧ (Lit.int .i64 x.2.2.1).wf = true) (i : Nat) (dr wv : Bool) (I C : Int) (h : z[i]? = some (dr, I, C, wv)) :
    ∃ ad : Addr, a = some ad ∧ ∀ W, Below w.heap.size w W → W.cell? (ad.add (i * 4)) = some (.bool dr) ∧ W.cell? ⟨(ad.add (i * 4)).block, (ad.add (i * 4)).off + 2, none⟩ = some (.int .i64 C) ∧ W.cell? ⟨(ad.add (i * 4)).block, (ad.add (i * 4)).off + 3, none⟩ = some (.bool wv) := by
  obtain ⟨⟨ad, ha, hc⟩, -, -⟩ := hz i _ h
  have key : ∀ (W : World), Below w.heap.size w W → ∀ (j : Nat) (v : Value), (d4C (dr, I, C, wv))[j]? = some v → W.cell? (ad.add (i * 4 + j)) = some v := fun W hb j v hv => pw_cell_below hb (hc j v hv)
  exact ⟨ad, ha, fun W hb => ⟨key W hb 0 _ rfl, by rw [← add_field _ _ 2 (by omega)]; exact key W hb 2 _ rfl, by rw [← add_field _ _ 3 (by omega)]; exact key W hb 3 _ rfl⟩⟩
theorem okC_true (c : Int) : okC c = true ↔ (0 ≤ c ∧ c < 64) := by simp [okC]
theorem ask_cases (l : List (Int × Bool)) (c : Int) (b : Bool) : (∃ cn : Nat, c = (cn : Int) ∧ cn < 64 ∧ atF l c < 0 ∧ askA l c b = (0, l ++ [(c, b)])) ∨ ∃ x : Int, askA l c b = (x, l) ∧ (x == 0) = false := by
  unfold askA
  by_cases hc : okC c = true
  · rw [if_pos hc]
    by_cases ha : 0 ≤ atF l c
    · rw [if_pos ha]
      exact .inr ⟨3, rfl, rfl⟩
    · rw [if_neg ha]
      obtain ⟨h0, h1⟩ := of_decide_eq_true hc
      obtain ⟨cn, rfl⟩ := Int.eq_ofNat_of_zero_le h0
      exact .inl ⟨cn, rfl, by omega, by omega, rfl⟩
  · rw [if_neg hc]
    exact .inr ⟨1, rfl, rfl⟩
/-- behind a deed -/
structure Mid (base : Nat) (w W : World) (g r gw : Nat) (l : List (Int × Bool)) (wb : List Bool) (bG : Nat) (v8 : Value) (gs : List Int) (dr : Bool) (C : Int) (kk : Nat) : Prop where
  one : One base W g r l
  wrow : WRow W gw wb
  inv : Inv1 l wb
  gs_ : Kd.R (Kd.int .i64) 3 W bG (fun _ => True) v8 gs
  below : Below base w W
  gr : ∀ c ∈ gs, grF l c = true ∨ (dr = true ∧ C = c)
  len : l.length ≤ kk + 1
/-- how many of the first k are granted, and whether one is to write -/
def Nw (l : List (Int × Bool)) (k n : Nat) (wt : Bool) : Prop := n ≤ k ∧ (0 < k → 1 ≤ n) ∧ ∀ x, l[0]? = some x → (x.2 = true → n ≤ 1) ∧ (x.2 = false → wt = false)
theorem first_granted {l : List (Int × Bool)} {x : Int × Bool} (h : l[0]? = some x) : grF l x.1 = true := by
  cases l with
  | nil => cases h
  | cons a t =>
    simp only [List.getElem?_cons_zero, Option.some.injEq] at h
    subst h
    exact gr_first
theorem Nw.skip {l : List (Int × Bool)} {wb : List Bool} (hi : Inv1 l wb) {k n : Nat} {wt : Bool} (h : Nw l k n wt) (a : Int × Bool) (ha : l[k]? = some a) (hg : grF l a.1 = false) : Nw l (k + 1) n wt := by
  refine ⟨by have := h.1; omega, fun _ => ?_, h.2.2⟩
  rcases Nat.eq_zero_or_pos k with rfl | hk
  · rw [first_granted ha] at hg; cases hg
  · exact h.2.1 hk
theorem Nw.take {l : List (Int × Bool)} {wb : List Bool} (hi : Inv1 l wb) {k n : Nat} {wt : Bool} (h : Nw l k n wt) (a : Int × Bool) (ha : l[k]? = some a) (hg : grF l a.1 = true) : Nw l (k + 1) (n + 1) (wt || a.2) := by
  refine ⟨by have := h.1; omega, fun _ => by omega, fun x hx => ⟨fun hw => ?_, fun hw => ?_⟩⟩
  · have h1 := (gr_head hi x hx k a ha).1 hw
    rw [hg] at h1
    have hk : k = 0 := of_decide_eq_true h1.symm
    have := h.1
    omega
  · rw [(h.2.2 x hx).2 hw, (gr_head hi x hx k a ha).2 hw hg]
    rfl
theorem whoF_at (l : List (Int × Bool)) (k : Nat) (hk : k < (whoF l).length) : ∃ b, l[k]? = some ((whoF l).getD k 0, b) := by
  unfold whoF at hk ⊢
  rw [List.length_map] at hk
  refine ⟨(l[k]).2, ?_⟩
  rw [List.getD_eq_getElem?_getD, List.getElem?_map, List.getElem?_eq_getElem hk]
  rfl
set_option maxRecDepth 100000 in
set_option maxHeartbeats 16000000 in
theorem lockApart_walk (a : Option Addr) (len cap : Nat) (z : List Deed4) (w : World) (hzl : z.length = len) (hzc : len ≤ cap)
    (hz : ∀ (i : Nat) (x : Deed4), z[i]? = some x → (∃ ad, a = some ad ∧ ∀ (j : Nat) (v : Value), (d4C x)[j]? = some v → w.cell? (ad.add (i * 4 + j)) = some v) ∧ (Lit.int .i64 x.2.1).wf = true ∧ (Lit.int .i64 x.2.2.1).wf = true) :
    Calls Try.prog 9 #[.slice a len cap] w fun e w' => e = .returned (.bool true) ∧ Below w.heap.size w w' := by
  have hkn : ∀ W, Calls Try.prog 35 #[] W (TellsL true W) := knows19_any
  by_cases hbig : (len : Int) > 80
  · have hz' := Lib.hid hz
    clear hz
    go_enter Try.func9, Try.ntmps9
    go_wp2_with (go_at_call 35; refine (hkn _).mono ?_; rintro e w1 ⟨rfl, hb1⟩)
    go_ret
    exact ⟨rfl, hb1⟩
  · have hlen : len ≤ 80 := by omega
    have hnew : Calls Try.prog 36 #[.int .i64 1] w (NewOut 1 w) := new_any 1 w (by omega) (by omega)
    have HMK := Lib.hid (fun W => run_make_row' 82 4 (.bool false) 1 Try.underlying82 infoB rfl .i64 .i64 64 (by omega) (by omega) W)
    have HZ := Lib.hid hz
    have HZL := Lib.hid hzl
    clear hz hzl
    go_enter Try.func9, Try.ntmps9
    go_wp2_with (go_at_call 36; refine hnew.mono ?_; rintro e w1 ⟨g, r, vs1, rfl, hT1, hB1⟩; have hmk := HMK.out w1; rw [made_rep, show ((64 : Nat) : Int) = 64 from rfl] at hmk; have HT1 := Lib.hid hT1; have HB1 := Lib.hid hB1; clear hT1 hB1)
    obtain ⟨gw, hgw0⟩ : ∃ gw, gw = w1.heap.size := ⟨_, rfl⟩
    have HG := Lib.hid hgw0
    have hgw : w.heap.size ≤ gw := by rw [hgw0]; exact HB1.out.size
    have HOw := Lib.hid (show One w.heap.size (w1.alloc (.cells (List.replicate 64 (Value.bool false)).toArray 4)) g r [] from ⟨⟨vs1, HT1.out.next (below_alloc (Below.refl _ _) _)⟩, (below_alloc HB1.out _).size⟩)
    have HWw := Lib.hid (show WRow (w1.alloc (.cells (List.replicate 64 (Value.bool false)).toArray 4)) gw (List.replicate 64 false) from by rw [hgw0]; exact heap_alloc_new w1 _)
    have HBw := Lib.hid (below_alloc HB1.out (.cells (List.replicate 64 (Value.bool false)).toArray 4))
    rw [← hgw0]
    clear HT1 HB1 hgw0 hmk HMK HG
    try simp only [List.toArray_replicate] at HOw HWw HBw
    go_loopg [6] len (fun gg s6 wr => ∃ (kk : Nat) (l : List (Int × Bool)) (wb : List Bool), kk ≤ len ∧ len - kk ≤ gg ∧ s6 = .int .i64 kk ∧ Aside0 (One w.heap.size wr g r l) ∧ Aside0 (WRow wr gw wb) ∧ Aside0 (Inv1 l wb) ∧ l.length ≤ kk ∧ Aside0 (Below w.heap.size w wr))
    case atStart => exact ⟨0, [], _, Nat.zero_le _, by omega, rfl, ⟨HOw.out⟩, ⟨HWw.out⟩, ⟨.nil rfl⟩, Nat.le_refl _, ⟨HBw.out⟩⟩
    case round =>
      obtain ⟨kk, l, wb, hkk, hg, rfl, HO, HW, HI, hlk, HB⟩ := hrel
      by_cases hlt : kk < len
      · have hltz : (kk : Int) < (len : Int) := by omega
        have hk4 : ¬ (kk : Int) < 0 := by omega
        have hk5 : kk ≤ 9223372036854775807 := by omega
        obtain ⟨⟨dr, I, C, wv⟩, hx⟩ : ∃ x, z[kk]? = some x := ⟨_, List.getElem?_eq_getElem (by rw [HZL.out]; exact hlt)⟩
        obtain ⟨ad, rfl, hdc⟩ := deed_cells HZ.out kk dr wv I C hx
        have HDC := Lib.hid hdc
        have hml : l.length ≤ 100000 := by omega
        obtain ⟨xs, hxs⟩ : ∃ xs, xs = whoF l := ⟨_, rfl⟩
        have hxl : xs.length = l.length := by rw [hxs]; unfold whoF; exact List.length_map ..
        have hrow : Calls Try.prog 44 #[.pointer (some ⟨g, 0, none⟩), .int .i64 0] wr (GivesI xs wr) := by rw [hxs]; exact o_row HO.out hml
        clear hdc hx hxs
        have HXL := Lib.hid hxl
        have hxl2 : xs.length ≤ 80 := by omega
        clear hxl
        go_wp2_with (go_at_call 44; refine hrow.mono ?_; rintro e w7 ⟨v7, rfl, ho7, hb7⟩; obtain ⟨A7, c7, e7, hc7, hr7⟩ := Kd.R_reads ho7; subst e7; have HR7 := Lib.hid hr7; have HO7 := Lib.hid (HO.out.next hb7); have HW7 := Lib.hid (HW.out.next hb7); have HB7 := Lib.hid (below_next HB.out hb7); clear ho7 hr7 hb7 HO HW HB)
        clear hrow
        go_loopg [8, 9] xs.length (fun gg v8 s9 wr => ∃ (k : Nat) (gs : List Int), k ≤ xs.length ∧ xs.length - k ≤ gg ∧ s9 = .int .i64 k ∧ gs.length ≤ k ∧ Aside0 (∀ c ∈ gs, grF l c = true) ∧ Aside0 (Below w7.heap.size w7 wr) ∧ Aside0 (Kd.R (Kd.int .i64) 3 wr w7.heap.size (fun _ => True) v8 gs))
        case atStart => exact ⟨0, [], Nat.zero_le _, by omega, rfl, Nat.le_refl _, ⟨fun c hc => by cases hc⟩, ⟨Below.refl _ _⟩, ⟨Kd.R_nil _ _ _ _ _⟩⟩
        case round =>
          obtain ⟨k, gs, hkn2, hg2, rfl, hgl, HGS, BW, HGR⟩ := hrel
          by_cases hlt2 : k < xs.length
          · have hj3 : (k : Int) < (xs.length : Int) := by omega
            have hj4 : ¬ (k : Int) < 0 := by omega
            have hj5 : k ≤ 9223372036854775807 := by omega
            obtain ⟨b, o, e9, hcell⟩ := C_cells (Kd.C_below HR7.out BW.out) (by omega)
            subst e9
            have hcj := hcell k hlt2
            clear hcell
            obtain ⟨c, hcd⟩ : ∃ c, c = xs.getD k 0 := ⟨_, rfl⟩
            rw [← hcd] at hcj
            clear hcd
            have HOk := Lib.hid (HO7.out.next BW.out)
            by_cases hgr : grF l c = true
            · have hG : Calls Try.prog 42 #[.pointer (some ⟨g, 0, none⟩), .int .i64 0, .int .i64 c] wr (TellsL true wr) := by have h := o_granted (c := c) HOk.out hml; rw [hgr] at h; exact h
              have HGRR := Lib.hid hgr
              clear hgr
              go_wp2_with (first
                | (go_at_call 42; refine hG.mono ?_; rintro e w9 ⟨rfl, hb9⟩; have hcj9 := (hb9.cell (p := ⟨b, o + k, none⟩) (World.block_lt_of_cell? _ _ hcj)).trans hcj; have HB9 := Lib.hid hb9; clear hb9)
                | ((with_reducible refine gate_builtin (b := .append) (xs := #[.tmp 52, .tmp 57]) rfl ?_); at_builtin; refine blk ?_))
              refine ⟨?_⟩
              refine Kd.R_append (Kd.int .i64) (w0 := w7) w7.heap.size rfl (.tmp 52) (.tmp 57) 37 3 (.int .i64 0) 8 rfl Try.underlying37 infoI rfl (by decide) (by decide) u8 gs c [.int .i64 c] (fun _ => True) (fun _ => False) rfl rfl rfl (fun _ hk => hk.elim) (fun _ _ => trivial) ?aO ?aB ?aS ?aL ?_
              (case aO => exact Kd.R_below HGR.out HB9.out)
              (case aB => exact below_next BW.out HB9.out)
              (case aS => exact (below_next BW.out HB9.out).size)
              (case aL => exact (by omega))
              intro v1 w10 ho hb hg hat; have HO10 := Lib.hid ho; have HB10 := Lib.hid hb; clear ho hb hg hat
              go_wp2
              go_roundg (xs.length - (k + 1))
              case measure => omega
              case rel => exact ⟨k + 1, gs ++ [c], by omega, by omega, by go_num, by rw [List.length_append, List.length_singleton]; omega, ⟨fun c' hc' => by rcases List.mem_append.1 hc' with h | h; exact HGS.out c' h; rw [List.mem_singleton.1 h]; exact HGRR.out⟩, ⟨HB10.out⟩, ⟨HO10.out⟩⟩
            · have hG : Calls Try.prog 42 #[.pointer (some ⟨g, 0, none⟩), .int .i64 0, .int .i64 c] wr (TellsL false wr) := by have h := o_granted (c := c) HOk.out hml; rw [Bool.eq_false_iff.2 hgr] at h; exact h
              clear hgr
              go_wp2_with (go_at_call 42; refine hG.mono ?_; rintro e w9 ⟨rfl, hb9⟩; have HB9 := Lib.hid hb9; clear hb9)
              go_roundg (xs.length - (k + 1))
              case measure => omega
              case rel => exact ⟨k + 1, gs, by omega, by omega, by go_num, by omega, ⟨HGS.out⟩, ⟨below_next BW.out HB9.out⟩, ⟨Kd.R_below HGR.out HB9.out⟩⟩
          · have hltz2 : ¬ (k : Int) < (xs.length : Int) := by omega
            obtain ⟨wp, hwp⟩ : ∃ wp : World, wp = wr := ⟨_, rfl⟩
            subst hwp
            have HOp := Lib.hid (HO7.out.next BW.out)
            have HWp := Lib.hid (HW7.out.next BW.out)
            have HBp := Lib.hid (below_next HB7.out BW.out)
            have HRp := Lib.hid HGR.out
            have hgl2 : gs.length ≤ 80 := by omega
            clear HO7 HW7 HB7 HGR
            have c0 := (HDC.out _ HBp.out).1
            have c2 := (HDC.out _ HBp.out).2.1
            cases dr
            · rcases ask_cases l C wv with ⟨cn, rfl, hcn, hat, hak⟩ | ⟨x, hak, hcode⟩
              · have HAK := Lib.hid (show ∀ W, One w.heap.size W g r l → Calls Try.prog 39 #[.pointer (some ⟨g, 0, none⟩), .int .i64 0, .int .i64 cn, .bool wv] W (OneOut w.heap.size g r 0 (l ++ [((cn : Int), wv)]) W) from fun W h => by have h' := o_ask (c := (cn : Int)) (b := wv) h hml; rw [hak] at h'; exact h')
                have HAT := Lib.hid hat
                have hc1 : ¬ (cn : Int) < 0 := by omega
                have hc2 : ¬ (cn : Int) > 63 := by omega
                have hc4' : cn < 64 := hcn
                have hcode : (0 : Int) = 0 := rfl
                clear hak hat
                go_wp2
                refine s_region (fun u => Below w.heap.size w u) (by kernel_rfl) 13 (by kernel_rfl) (below_drew HBp.out) (fun hS => ?_)
                have HO4 := Lib.hid (HOp.out.next (below_drew (Below.refl wp.heap.size wp)))
                have HW4 := Lib.hid (HWp.out.next (below_drew (Below.refl wp.heap.size wp)))
                have HR4 := Lib.hid (Kd.R_below HRp.out (below_drew (Below.refl wp.heap.size wp)))
                generalize hwd : wp.drew = wd at *
                clear hwd HOp HWp HRp HBp
                refine s_take 0 (_) hS rfl (by kernel_rfl) (by kernel_rfl) (by kernel_rfl) (fun _ _ _ h => h) rfl (fun w' hw' => run_move_at _ rfl w') ?_
                simp only [Act.put, List.setIfInBounds_toArray, List.set_cons_zero, List.set_cons_succ]
                refine s_take 1 (_) hS rfl (by kernel_rfl) (by kernel_rfl) (by kernel_rfl) (fun _ _ _ h => h) rfl (fun w' hw' => run_move_at _ rfl w') ?_
                simp only [Act.put, List.setIfInBounds_toArray, List.set_cons_zero, List.set_cons_succ]
                refine s_take 2 (_) hS rfl (by kernel_rfl) (by kernel_rfl) (by kernel_rfl) (fun _ _ _ h => h) rfl (fun w' hw' => run_move_at _ rfl w') ?_
                simp only [Act.put, List.setIfInBounds_toArray, List.set_cons_zero, List.set_cons_succ]
                refine s_take 3 (.pointer (some (ad.add (kk * 4)))) hS rfl (by kernel_rfl) (by kernel_rfl) (by kernel_rfl) (fun _ _ _ h => h) rfl (fun w' hw' => by (have hc0 := hltz; have hc1 := hk4; have hc2 := hk5; unfold execOp; simp [go_sem, Act.put, Act.eval, hc0, hc1, hc2])) ?_
                simp only [Act.put, List.setIfInBounds_toArray, List.set_cons_zero, List.set_cons_succ]
                refine s_take 4 (.pointer (some ⟨(ad.add (kk * 4)).block, (ad.add (kk * 4)).off + 2, none⟩)) hS rfl (by kernel_rfl) (by kernel_rfl) (by kernel_rfl) (fun _ _ _ h => h) rfl (fun w' hw' => by (unfold execOp; simp [go_sem, Act.put, Act.eval])) ?_
                simp only [Act.put, List.setIfInBounds_toArray, List.set_cons_zero, List.set_cons_succ]
                refine s_take 5 (.int .i64 cn) hS rfl (by kernel_rfl) (by kernel_rfl) (by kernel_rfl) (fun _ _ _ h => h) rfl (fun w' hw' => by (have hc0 := (HDC.out w' hw').2.1; unfold execOp; simp [go_sem, Act.put, Act.eval, hc0])) ?_
                simp only [Act.put, List.setIfInBounds_toArray, List.set_cons_zero, List.set_cons_succ]
                refine s_take 6 (_) hS rfl (by kernel_rfl) (by kernel_rfl) (by kernel_rfl) (fun _ _ _ h => h) rfl (fun w' hw' => run_move_at _ rfl w') ?_
                simp only [Act.put, List.setIfInBounds_toArray, List.set_cons_zero, List.set_cons_succ]
                refine s_take 7 (_) hS rfl (by kernel_rfl) (by kernel_rfl) (by kernel_rfl) (fun _ _ _ h => h) rfl (fun w' hw' => run_move_at _ rfl w') ?_
                simp only [Act.put, List.setIfInBounds_toArray, List.set_cons_zero, List.set_cons_succ]
                refine s_take 8 (.pointer (some (ad.add (kk * 4)))) hS rfl (by kernel_rfl) (by kernel_rfl) (by kernel_rfl) (fun _ _ _ h => h) rfl (fun w' hw' => by (have hc0 := hltz; have hc1 := hk4; have hc2 := hk5; unfold execOp; simp [go_sem, Act.put, Act.eval, hc0, hc1, hc2])) ?_
                simp only [Act.put, List.setIfInBounds_toArray, List.set_cons_zero, List.set_cons_succ]
                refine s_take 9 (.pointer (some ⟨(ad.add (kk * 4)).block, (ad.add (kk * 4)).off + 3, none⟩)) hS rfl (by kernel_rfl) (by kernel_rfl) (by kernel_rfl) (fun _ _ _ h => h) rfl (fun w' hw' => by (unfold execOp; simp [go_sem, Act.put, Act.eval])) ?_
                simp only [Act.put, List.setIfInBounds_toArray, List.set_cons_zero, List.set_cons_succ]
                refine s_take 10 (.bool wv) hS rfl (by kernel_rfl) (by kernel_rfl) (by kernel_rfl) (fun _ _ _ h => h) rfl (fun w' hw' => by (have hc0 := (HDC.out w' hw').2.2; unfold execOp; simp [go_sem, Act.put, Act.eval, hc0])) ?_
                simp only [Act.put, List.setIfInBounds_toArray, List.set_cons_zero, List.set_cons_succ]
                refine s_call 11 rfl (by kernel_rfl) rfl 39 _ _ Try.func39 (by kernel_rfl) rfl _ _ #[.pointer (some ⟨g, 0, none⟩), .int .i64 0, .int .i64 cn, .bool wv] rfl (by simp [Act.put, Act.eval]) (HAK.out _ HO4.out) ?_
                rintro e w5 ⟨rfl, hO5, hK5, hB5⟩
                have HO5 := Lib.hid hO5
                have HW5 := Lib.hid (HW4.out.keepT hK5 (by decide))
                have HR5 := Lib.hid (R_keepT HR4.out hK5 (by decide))
                have HB5 := Lib.hid (hS.trans hB5)
                clear hO5 hK5 HO4 HW4 HR4
                have hS := HB5.out
                refine ⟨_, rfl, hS, ?_⟩
                simp only [Act.put, List.setIfInBounds_toArray, List.set_cons_zero, List.set_cons_succ]
                refine s_take 12 (.bool true) hS rfl (by kernel_rfl) (by kernel_rfl) (by kernel_rfl) (fun _ _ _ h => h) rfl (fun w' hw' => by (have hc0 := hcode; unfold execOp; simp [go_sem, Act.put, Act.eval, hc0])) ?_
                simp only [Act.put, List.setIfInBounds_toArray, List.set_cons_zero, List.set_cons_succ]
                refine s_done (by kernel_rfl) ?_
                clear hS hB5 HAK
                have c5 := (HDC.out _ HB5.out).2.1
                go_wp2
                have hc3 : (cn : Int) < 64 := by omega
                have hc4 : cn < 64 := hcn
                have hc5 : cn ≤ 9223372036854775807 := by omega
                clear c5 c0 c2
                refine s_region (fun u => Below w.heap.size w u) (by kernel_rfl) 13 (by kernel_rfl) (below_drew HB5.out) (fun hS => ?_)
                have HO6 := Lib.hid (HO5.out.next (below_drew (Below.refl w5.heap.size w5)))
                have HW6 := Lib.hid (HW5.out.next (below_drew (Below.refl w5.heap.size w5)))
                have HR6 := Lib.hid (Kd.R_below HR5.out (below_drew (Below.refl w5.heap.size w5)))
                generalize hwe : w5.drew = we at *
                clear hwe HO5 HW5 HR5 HB5
                refine s_take 0 (_) hS rfl (by kernel_rfl) (by kernel_rfl) (by kernel_rfl) (fun _ _ _ h => h) rfl (fun w' hw' => run_move_at _ rfl w') ?_
                simp only [Act.put, List.setIfInBounds_toArray, List.set_cons_zero, List.set_cons_succ]
                refine s_take 1 (_) hS rfl (by kernel_rfl) (by kernel_rfl) (by kernel_rfl) (fun _ _ _ h => h) rfl (fun w' hw' => run_move_at _ rfl w') ?_
                simp only [Act.put, List.setIfInBounds_toArray, List.set_cons_zero, List.set_cons_succ]
                refine s_take 2 (_) hS rfl (by kernel_rfl) (by kernel_rfl) (by kernel_rfl) (fun _ _ _ h => h) rfl (fun w' hw' => run_move_at _ rfl w') ?_
                simp only [Act.put, List.setIfInBounds_toArray, List.set_cons_zero, List.set_cons_succ]
                refine s_take 3 (.pointer (some (ad.add (kk * 4)))) hS rfl (by kernel_rfl) (by kernel_rfl) (by kernel_rfl) (fun _ _ _ h => h) rfl (fun w' hw' => by (have hc0 := hltz; have hc1 := hk4; have hc2 := hk5; unfold execOp; simp [go_sem, Act.put, Act.eval, hc0, hc1, hc2])) ?_
                simp only [Act.put, List.setIfInBounds_toArray, List.set_cons_zero, List.set_cons_succ]
                refine s_take 4 (.pointer (some ⟨(ad.add (kk * 4)).block, (ad.add (kk * 4)).off + 2, none⟩)) hS rfl (by kernel_rfl) (by kernel_rfl) (by kernel_rfl) (fun _ _ _ h => h) rfl (fun w' hw' => by (unfold execOp; simp [go_sem, Act.put, Act.eval])) ?_
                simp only [Act.put, List.setIfInBounds_toArray, List.set_cons_zero, List.set_cons_succ]
                refine s_take 5 (.int .i64 cn) hS rfl (by kernel_rfl) (by kernel_rfl) (by kernel_rfl) (fun _ _ _ h => h) rfl (fun w' hw' => by (have hc0 := (HDC.out w' hw').2.1; unfold execOp; simp [go_sem, Act.put, Act.eval, hc0])) ?_
                simp only [Act.put, List.setIfInBounds_toArray, List.set_cons_zero, List.set_cons_succ]
                refine s_take 6 (_) hS rfl (by kernel_rfl) (by kernel_rfl) (by kernel_rfl) (fun _ _ _ h => h) rfl (fun w' hw' => run_move_at _ rfl w') ?_
                simp only [Act.put, List.setIfInBounds_toArray, List.set_cons_zero, List.set_cons_succ]
                refine s_take 7 (_) hS rfl (by kernel_rfl) (by kernel_rfl) (by kernel_rfl) (fun _ _ _ h => h) rfl (fun w' hw' => run_move_at _ rfl w') ?_
                simp only [Act.put, List.setIfInBounds_toArray, List.set_cons_zero, List.set_cons_succ]
                refine s_take 8 (.pointer (some (ad.add (kk * 4)))) hS rfl (by kernel_rfl) (by kernel_rfl) (by kernel_rfl) (fun _ _ _ h => h) rfl (fun w' hw' => by (have hc0 := hltz; have hc1 := hk4; have hc2 := hk5; unfold execOp; simp [go_sem, Act.put, Act.eval, hc0, hc1, hc2])) ?_
                simp only [Act.put, List.setIfInBounds_toArray, List.set_cons_zero, List.set_cons_succ]
                refine s_take 9 (.pointer (some ⟨(ad.add (kk * 4)).block, (ad.add (kk * 4)).off + 3, none⟩)) hS rfl (by kernel_rfl) (by kernel_rfl) (by kernel_rfl) (fun _ _ _ h => h) rfl (fun w' hw' => by (unfold execOp; simp [go_sem, Act.put, Act.eval])) ?_
                simp only [Act.put, List.setIfInBounds_toArray, List.set_cons_zero, List.set_cons_succ]
                refine s_take 10 (.bool wv) hS rfl (by kernel_rfl) (by kernel_rfl) (by kernel_rfl) (fun _ _ _ h => h) rfl (fun w' hw' => by (have hc0 := (HDC.out w' hw').2.2; unfold execOp; simp [go_sem, Act.put, Act.eval, hc0])) ?_
                simp only [Act.put, List.setIfInBounds_toArray, List.set_cons_zero, List.set_cons_succ]
                refine s_take 11 (.pointer (some ⟨gw, cn, none⟩)) hS rfl (by kernel_rfl) (by kernel_rfl) (by kernel_rfl) (fun _ _ _ h => h) rfl (fun w' hw' => by (have hc0 := hc3; have hc1 := hc4; have hc2 := hc5; unfold execOp; simp [go_sem, Act.put, Act.eval, hc0, hc1, hc2])) ?_
                simp only [Act.put, List.setIfInBounds_toArray, List.set_cons_zero, List.set_cons_succ]
                have hS2 := HW6.out.set cn wv
                have HB7 := Lib.hid (hS.setCell (p := ⟨gw, cn, none⟩) hgw (.bool wv))
                have hm1 := HW6.out.cell cn _ (List.getElem?_eq_getElem (by rw [HI.out.len]; exact hc4'))
                have hm2 := HW6.out.free cn
                refine s_one 12 rfl (by kernel_rfl) ?_
                refine g_skip (we.setCell ⟨gw, cn, none⟩ (.bool wv)) rfl (by (have hc0 := hm1; have hc1 := hm2; unfold execOp; simp [go_sem, Act.put, Act.eval, hc0, hc1])) HB7.out (fun _ => ?_)
                simp only [Act.put, List.setIfInBounds_toArray, List.set_cons_zero, List.set_cons_succ]
                refine s_done (by kernel_rfl) ?_
                have HO8 := Lib.hid (HO6.out.keepT hS2.2 (by decide) (by decide) (by decide))
                have HR8 := Lib.hid (R_keepT HR6.out hS2.2 (by decide))
                have HW8 := Lib.hid hS2.1
                clear hS hm1 hm2 hS2 HO6 HW6 HR6
                generalize hw5 : we.setCell ⟨gw, cn, none⟩ (.bool wv) = w8 at *
                clear hw5
                go_wp2
                obtain ⟨w5', hw5'⟩ : ∃ w5' : World, w5' = w8 := ⟨_, rfl⟩
                subst hw5'
                obtain ⟨l2, wb2, HM⟩ : ∃ l2 wb2, Hid (Mid w.heap.size w w5' g r gw l2 wb2 w7.heap.size u8 gs false (cn : Int) kk) := ⟨l ++ [((cn : Int), wv)], wb.set cn wv, Lib.hid ⟨HO8.out, HW8.out, HI.out.snoc cn wv (by omega) (by omega) HAT.out, HR8.out, HB7.out, fun c hc => .inl (gr_snoc _ (HGS.out c hc)), by rw [List.length_append, List.length_singleton]; omega⟩⟩
                clear HO8 HW8 HR8 HB7 HAT hcode
                as_aux_lemma =>
                  obtain ⟨A8, c8, e8, hc8, hr8⟩ := Kd.R_reads HM.out.gs_
                  subst e8
                  have HGC := Lib.hid hr8
                  have hml2 : l2.length ≤ 100000 := by have := HM.out.len; omega
                  clear hr8
                  go_loopg [10] gs.length (fun gg s10 wr => ∃ k : Nat, k ≤ gs.length ∧ gs.length - k ≤ gg ∧ s10 = .int .i64 k ∧ Aside0 (Below w5'.heap.size w5' wr))
                  case atStart => exact ⟨0, Nat.zero_le _, by omega, rfl, ⟨Below.refl _ _⟩⟩
                  case round =>
                    obtain ⟨k, hkn2, hg2, rfl, HBq⟩ := hrel
                    by_cases hlt2 : k < gs.length
                    · have hj3 : (k : Int) < (gs.length : Int) := by omega
                      have hj4 : ¬ (k : Int) < 0 := by omega
                      have hj5 : k ≤ 9223372036854775807 := by omega
                      obtain ⟨wq, hwq⟩ : ∃ wq : World, wq = wr := ⟨_, rfl⟩
                      subst hwq
                      have hmem : gs.getD k 0 ∈ gs := by rw [List.getD_eq_getElem?_getD, List.getElem?_eq_getElem hlt2]; exact List.getElem_mem hlt2
                      have hor := HM.out.gr _ hmem
                      clear hmem
                      by_cases hgr : grF l2 (gs.getD k 0) = true
                      · clear hor
                        go_wp2
                        refine s_region (fun u => Below wq.drew.heap.size wq.drew u) (by kernel_rfl) 27 (by kernel_rfl) (Below.refl _ _) (fun hS => ?_)
                        have HBd := Lib.hid (below_drew (Below.refl wq.heap.size wq))
                        have HOq := Lib.hid ((HM.out.one.next HBq.out).next HBd.out)
                        have HCq := Lib.hid (Kd.C_below HGC.out (below_next HBq.out HBd.out))
                        have hBw : ∀ u, Below wq.drew.heap.size wq.drew u → Below w.heap.size w u := fun u hu => below_next (below_next (below_next HM.out.below HBq.out) HBd.out) hu
                        have HBw := Lib.hid hBw
                        clear hBw
                        have HBe := Lib.hid (below_next HBq.out HBd.out)
                        generalize hwd : wq.drew = wd at *
                        clear hwd HBd HBq
                        obtain ⟨b, o, e9, hcell⟩ := C_cells HCq.out (by omega)
                        subst e9
                        have hcj := hcell k hlt2
                        clear hcell
                        refine s_take 0 (_) hS rfl (by kernel_rfl) (by kernel_rfl) (by kernel_rfl) (fun _ _ _ h => h) rfl (fun w' hw' => run_move_at _ rfl w') ?_
                        simp only [Act.put, List.setIfInBounds_toArray, List.set_cons_zero, List.set_cons_succ]
                        refine s_take 1 (_) hS rfl (by kernel_rfl) (by kernel_rfl) (by kernel_rfl) (fun _ _ _ h => h) rfl (fun w' hw' => run_move_at _ rfl w') ?_
                        simp only [Act.put, List.setIfInBounds_toArray, List.set_cons_zero, List.set_cons_succ]
                        refine s_take 2 (_) hS rfl (by kernel_rfl) (by kernel_rfl) (by kernel_rfl) (fun _ _ _ h => h) rfl (fun w' hw' => run_move_at _ rfl w') ?_
                        simp only [Act.put, List.setIfInBounds_toArray, List.set_cons_zero, List.set_cons_succ]
                        refine s_take 3 (.pointer (some ⟨b, o + k, none⟩)) hS rfl (by kernel_rfl) (by kernel_rfl) (by kernel_rfl) (fun _ _ _ h => h) rfl (fun w' hw' => by (have hc0 := hj3; have hc1 := hj4; have hc2 := hj5; unfold execOp; simp [go_sem, Act.put, Act.eval, hc0, hc1, hc2])) ?_
                        simp only [Act.put, List.setIfInBounds_toArray, List.set_cons_zero, List.set_cons_succ]
                        refine s_take 4 (.int .i64 (gs.getD k 0)) hS rfl (by kernel_rfl) (by kernel_rfl) (by kernel_rfl) (fun _ _ _ h => h) rfl (fun w' hw' => by (have hc0 := (hw'.cell (p := ⟨b, o + k, none⟩) (World.block_lt_of_cell? _ _ hcj)).trans hcj; unfold execOp; simp [go_sem, Act.put, Act.eval, hc0])) ?_
                        simp only [Act.put, List.setIfInBounds_toArray, List.set_cons_zero, List.set_cons_succ]
                        refine s_call 5 rfl (by kernel_rfl) rfl 42 _ _ Try.func42 (by kernel_rfl) rfl _ _ #[.pointer (some ⟨g, 0, none⟩), .int .i64 0, .int .i64 (gs.getD k 0)] rfl (by simp [Act.put, Act.eval]) ((by have h := o_granted (c := gs.getD k 0) HOq.out hml2; rw [hgr] at h; exact h)) ?_
                        rintro e we ⟨rfl, hbe⟩
                        have hS := hbe
                        refine ⟨_, rfl, hS, ?_⟩
                        simp only [Act.put, List.setIfInBounds_toArray, List.set_cons_zero, List.set_cons_succ]
                        refine s_take 6 (.bool false) hS rfl (by kernel_rfl) (by kernel_rfl) (by kernel_rfl) (fun _ _ _ h => h) rfl (fun w' hw' => by (unfold execOp; simp [go_sem, Act.put, Act.eval])) ?_
                        simp only [Act.put, List.setIfInBounds_toArray, List.set_cons_zero, List.set_cons_succ]
                        refine s_take 7 (_) hS rfl (by kernel_rfl) (by kernel_rfl) (by kernel_rfl) (fun _ _ _ h => h) rfl (fun w' hw' => run_move_at _ rfl w') ?_
                        simp only [Act.put, List.setIfInBounds_toArray, List.set_cons_zero, List.set_cons_succ]
                        refine s_skip 8 hS rfl (by kernel_rfl) (by kernel_rfl) (by kernel_rfl) (fun _ _ _ h => h) rfl ?_
                        simp only [Act.put, List.setIfInBounds_toArray, List.set_cons_zero, List.set_cons_succ]
                        refine s_skip 9 hS rfl (by kernel_rfl) (by kernel_rfl) (by kernel_rfl) (fun _ _ _ h => h) rfl ?_
                        simp only [Act.put, List.setIfInBounds_toArray, List.set_cons_zero, List.set_cons_succ]
                        refine s_skip 10 hS rfl (by kernel_rfl) (by kernel_rfl) (by kernel_rfl) (fun _ _ _ h => h) rfl ?_
                        simp only [Act.put, List.setIfInBounds_toArray, List.set_cons_zero, List.set_cons_succ]
                        refine s_skip 11 hS rfl (by kernel_rfl) (by kernel_rfl) (by kernel_rfl) (fun _ _ _ h => h) rfl ?_
                        simp only [Act.put, List.setIfInBounds_toArray, List.set_cons_zero, List.set_cons_succ]
                        refine s_skip 12 hS rfl (by kernel_rfl) (by kernel_rfl) (by kernel_rfl) (fun _ _ _ h => h) rfl ?_
                        simp only [Act.put, List.setIfInBounds_toArray, List.set_cons_zero, List.set_cons_succ]
                        refine s_skip 13 hS rfl (by kernel_rfl) (by kernel_rfl) (by kernel_rfl) (fun _ _ _ h => h) rfl ?_
                        simp only [Act.put, List.setIfInBounds_toArray, List.set_cons_zero, List.set_cons_succ]
                        refine s_skip 14 hS rfl (by kernel_rfl) (by kernel_rfl) (by kernel_rfl) (fun _ _ _ h => h) rfl ?_
                        simp only [Act.put, List.setIfInBounds_toArray, List.set_cons_zero, List.set_cons_succ]
                        refine s_skip 15 hS rfl (by kernel_rfl) (by kernel_rfl) (by kernel_rfl) (fun _ _ _ h => h) rfl ?_
                        simp only [Act.put, List.setIfInBounds_toArray, List.set_cons_zero, List.set_cons_succ]
                        refine s_skip 16 hS rfl (by kernel_rfl) (by kernel_rfl) (by kernel_rfl) (fun _ _ _ h => h) rfl ?_
                        simp only [Act.put, List.setIfInBounds_toArray, List.set_cons_zero, List.set_cons_succ]
                        refine s_skip 17 hS rfl (by kernel_rfl) (by kernel_rfl) (by kernel_rfl) (fun _ _ _ h => h) rfl ?_
                        simp only [Act.put, List.setIfInBounds_toArray, List.set_cons_zero, List.set_cons_succ]
                        refine s_skip 18 hS rfl (by kernel_rfl) (by kernel_rfl) (by kernel_rfl) (fun _ _ _ h => h) rfl ?_
                        simp only [Act.put, List.setIfInBounds_toArray, List.set_cons_zero, List.set_cons_succ]
                        refine s_skip 19 hS rfl (by kernel_rfl) (by kernel_rfl) (by kernel_rfl) (fun _ _ _ h => h) rfl ?_
                        simp only [Act.put, List.setIfInBounds_toArray, List.set_cons_zero, List.set_cons_succ]
                        refine s_skip 20 hS rfl (by kernel_rfl) (by kernel_rfl) (by kernel_rfl) (fun _ _ _ h => h) rfl ?_
                        simp only [Act.put, List.setIfInBounds_toArray, List.set_cons_zero, List.set_cons_succ]
                        refine s_skip 21 hS rfl (by kernel_rfl) (by kernel_rfl) (by kernel_rfl) (fun _ _ _ h => h) rfl ?_
                        simp only [Act.put, List.setIfInBounds_toArray, List.set_cons_zero, List.set_cons_succ]
                        refine s_skip 22 hS rfl (by kernel_rfl) (by kernel_rfl) (by kernel_rfl) (fun _ _ _ h => h) rfl ?_
                        simp only [Act.put, List.setIfInBounds_toArray, List.set_cons_zero, List.set_cons_succ]
                        refine s_skip 23 hS rfl (by kernel_rfl) (by kernel_rfl) (by kernel_rfl) (fun _ _ _ h => h) rfl ?_
                        simp only [Act.put, List.setIfInBounds_toArray, List.set_cons_zero, List.set_cons_succ]
                        refine s_skip 24 hS rfl (by kernel_rfl) (by kernel_rfl) (by kernel_rfl) (fun _ _ _ h => h) rfl ?_
                        simp only [Act.put, List.setIfInBounds_toArray, List.set_cons_zero, List.set_cons_succ]
                        refine s_skip 25 hS rfl (by kernel_rfl) (by kernel_rfl) (by kernel_rfl) (fun _ _ _ h => h) rfl ?_
                        simp only [Act.put, List.setIfInBounds_toArray, List.set_cons_zero, List.set_cons_succ]
                        refine s_take 26 (.bool false) hS rfl (by kernel_rfl) (by kernel_rfl) (by kernel_rfl) (fun _ _ _ h => h) rfl (fun w' hw' => by (unfold execOp; simp [go_sem, Act.put, Act.eval])) ?_
                        simp only [Act.put, List.setIfInBounds_toArray, List.set_cons_zero, List.set_cons_succ]
                        refine s_done (by kernel_rfl) ?_
                        have HBf := Lib.hid (below_next HBe.out hbe)
                        clear hS hbe HBe HOq HCq HBw hcj
                        go_wp2
                        go_roundg (gs.length - (k + 1))
                        case measure => omega
                        case rel => exact ⟨k + 1, by omega, by omega, by go_num, ⟨HBf.out⟩⟩
                      · rw [Bool.not_eq_true] at hgr
                        rcases hor with hor | ⟨hd, hC⟩
                        · rw [hgr] at hor; cases hor
                        · first
                          | exact absurd hd (by decide)
                          | (have HCC := Lib.hid hC
                             clear hd hC
                             go_wp2
                             refine s_region (fun u => Below wq.drew.heap.size wq.drew u) (by kernel_rfl) 27 (by kernel_rfl) (Below.refl _ _) (fun hS => ?_)
                             have HBd := Lib.hid (below_drew (Below.refl wq.heap.size wq))
                             have HOq := Lib.hid ((HM.out.one.next HBq.out).next HBd.out)
                             have HCq := Lib.hid (Kd.C_below HGC.out (below_next HBq.out HBd.out))
                             have hBw : ∀ u, Below wq.drew.heap.size wq.drew u → Below w.heap.size w u := fun u hu => below_next (below_next (below_next HM.out.below HBq.out) HBd.out) hu
                             have HBw := Lib.hid hBw
                             clear hBw
                             have HBe := Lib.hid (below_next HBq.out HBd.out)
                             generalize hwd : wq.drew = wd at *
                             clear hwd HBd HBq
                             obtain ⟨b, o, e9, hcell⟩ := C_cells HCq.out (by omega)
                             subst e9
                             have hcj := hcell k hlt2
                             clear hcell
                             refine s_take 0 (_) hS rfl (by kernel_rfl) (by kernel_rfl) (by kernel_rfl) (fun _ _ _ h => h) rfl (fun w' hw' => run_move_at _ rfl w') ?_
                             simp only [Act.put, List.setIfInBounds_toArray, List.set_cons_zero, List.set_cons_succ]
                             refine s_take 1 (_) hS rfl (by kernel_rfl) (by kernel_rfl) (by kernel_rfl) (fun _ _ _ h => h) rfl (fun w' hw' => run_move_at _ rfl w') ?_
                             simp only [Act.put, List.setIfInBounds_toArray, List.set_cons_zero, List.set_cons_succ]
                             refine s_take 2 (_) hS rfl (by kernel_rfl) (by kernel_rfl) (by kernel_rfl) (fun _ _ _ h => h) rfl (fun w' hw' => run_move_at _ rfl w') ?_
                             simp only [Act.put, List.setIfInBounds_toArray, List.set_cons_zero, List.set_cons_succ]
                             refine s_take 3 (.pointer (some ⟨b, o + k, none⟩)) hS rfl (by kernel_rfl) (by kernel_rfl) (by kernel_rfl) (fun _ _ _ h => h) rfl (fun w' hw' => by (have hc0 := hj3; have hc1 := hj4; have hc2 := hj5; unfold execOp; simp [go_sem, Act.put, Act.eval, hc0, hc1, hc2])) ?_
                             simp only [Act.put, List.setIfInBounds_toArray, List.set_cons_zero, List.set_cons_succ]
                             refine s_take 4 (.int .i64 (gs.getD k 0)) hS rfl (by kernel_rfl) (by kernel_rfl) (by kernel_rfl) (fun _ _ _ h => h) rfl (fun w' hw' => by (have hc0 := (hw'.cell (p := ⟨b, o + k, none⟩) (World.block_lt_of_cell? _ _ hcj)).trans hcj; unfold execOp; simp [go_sem, Act.put, Act.eval, hc0])) ?_
                             simp only [Act.put, List.setIfInBounds_toArray, List.set_cons_zero, List.set_cons_succ]
                             refine s_call 5 rfl (by kernel_rfl) rfl 42 _ _ Try.func42 (by kernel_rfl) rfl _ _ #[.pointer (some ⟨g, 0, none⟩), .int .i64 0, .int .i64 (gs.getD k 0)] rfl (by simp [Act.put, Act.eval]) ((by have h := o_granted (c := gs.getD k 0) HOq.out hml2; rw [hgr] at h; exact h)) ?_
                             rintro e we ⟨rfl, hbe⟩
                             have hS := hbe
                             refine ⟨_, rfl, hS, ?_⟩
                             simp only [Act.put, List.setIfInBounds_toArray, List.set_cons_zero, List.set_cons_succ]
                             refine s_take 6 (.bool true) hS rfl (by kernel_rfl) (by kernel_rfl) (by kernel_rfl) (fun _ _ _ h => h) rfl (fun w' hw' => by (unfold execOp; simp [go_sem, Act.put, Act.eval])) ?_
                             simp only [Act.put, List.setIfInBounds_toArray, List.set_cons_zero, List.set_cons_succ]
                             refine s_take 7 (_) hS rfl (by kernel_rfl) (by kernel_rfl) (by kernel_rfl) (fun _ _ _ h => h) rfl (fun w' hw' => run_move_at _ rfl w') ?_
                             simp only [Act.put, List.setIfInBounds_toArray, List.set_cons_zero, List.set_cons_succ]
                             refine s_take 8 (_) hS rfl (by kernel_rfl) (by kernel_rfl) (by kernel_rfl) (fun _ _ _ h => h) rfl (fun w' hw' => run_move_at _ rfl w') ?_
                             simp only [Act.put, List.setIfInBounds_toArray, List.set_cons_zero, List.set_cons_succ]
                             refine s_take 9 (_) hS rfl (by kernel_rfl) (by kernel_rfl) (by kernel_rfl) (fun _ _ _ h => h) rfl (fun w' hw' => run_move_at _ rfl w') ?_
                             simp only [Act.put, List.setIfInBounds_toArray, List.set_cons_zero, List.set_cons_succ]
                             refine s_take 10 (.pointer (some (ad.add (kk * 4)))) hS rfl (by kernel_rfl) (by kernel_rfl) (by kernel_rfl) (fun _ _ _ h => h) rfl (fun w' hw' => by (have hc0 := hltz; have hc1 := hk4; have hc2 := hk5; unfold execOp; simp [go_sem, Act.put, Act.eval, hc0, hc1, hc2])) ?_
                             simp only [Act.put, List.setIfInBounds_toArray, List.set_cons_zero, List.set_cons_succ]
                             refine s_take 11 (.pointer (some (ad.add (kk * 4)))) hS rfl (by kernel_rfl) (by kernel_rfl) (by kernel_rfl) (fun _ _ _ h => h) rfl (fun w' hw' => by (unfold execOp; simp [go_sem, Act.put, Act.eval])) ?_
                             simp only [Act.put, List.setIfInBounds_toArray, List.set_cons_zero, List.set_cons_succ]
                             refine s_take 12 (.bool true) hS rfl (by kernel_rfl) (by kernel_rfl) (by kernel_rfl) (fun _ _ _ h => h) rfl (fun w' hw' => by (have hc0 := (HDC.out w' (HBw.out w' hw')).1; unfold execOp; simp [go_sem, Act.put, Act.eval, hc0])) ?_
                             simp only [Act.put, List.setIfInBounds_toArray, List.set_cons_zero, List.set_cons_succ]
                             refine s_take 13 (_) hS rfl (by kernel_rfl) (by kernel_rfl) (by kernel_rfl) (fun _ _ _ h => h) rfl (fun w' hw' => run_move_at _ rfl w') ?_
                             simp only [Act.put, List.setIfInBounds_toArray, List.set_cons_zero, List.set_cons_succ]
                             refine s_take 14 (_) hS rfl (by kernel_rfl) (by kernel_rfl) (by kernel_rfl) (fun _ _ _ h => h) rfl (fun w' hw' => run_move_at _ rfl w') ?_
                             simp only [Act.put, List.setIfInBounds_toArray, List.set_cons_zero, List.set_cons_succ]
                             refine s_take 15 (_) hS rfl (by kernel_rfl) (by kernel_rfl) (by kernel_rfl) (fun _ _ _ h => h) rfl (fun w' hw' => run_move_at _ rfl w') ?_
                             simp only [Act.put, List.setIfInBounds_toArray, List.set_cons_zero, List.set_cons_succ]
                             refine s_take 16 (.pointer (some (ad.add (kk * 4)))) hS rfl (by kernel_rfl) (by kernel_rfl) (by kernel_rfl) (fun _ _ _ h => h) rfl (fun w' hw' => by (have hc0 := hltz; have hc1 := hk4; have hc2 := hk5; unfold execOp; simp [go_sem, Act.put, Act.eval, hc0, hc1, hc2])) ?_
                             simp only [Act.put, List.setIfInBounds_toArray, List.set_cons_zero, List.set_cons_succ]
                             refine s_take 17 (.pointer (some ⟨(ad.add (kk * 4)).block, (ad.add (kk * 4)).off + 2, none⟩)) hS rfl (by kernel_rfl) (by kernel_rfl) (by kernel_rfl) (fun _ _ _ h => h) rfl (fun w' hw' => by (unfold execOp; simp [go_sem, Act.put, Act.eval])) ?_
                             simp only [Act.put, List.setIfInBounds_toArray, List.set_cons_zero, List.set_cons_succ]
                             refine s_take 18 (.int .i64 C) hS rfl (by kernel_rfl) (by kernel_rfl) (by kernel_rfl) (fun _ _ _ h => h) rfl (fun w' hw' => by (have hc0 := (HDC.out w' (HBw.out w' hw')).2.1; unfold execOp; simp [go_sem, Act.put, Act.eval, hc0])) ?_
                             simp only [Act.put, List.setIfInBounds_toArray, List.set_cons_zero, List.set_cons_succ]
                             refine s_take 19 (_) hS rfl (by kernel_rfl) (by kernel_rfl) (by kernel_rfl) (fun _ _ _ h => h) rfl (fun w' hw' => run_move_at _ rfl w') ?_
                             simp only [Act.put, List.setIfInBounds_toArray, List.set_cons_zero, List.set_cons_succ]
                             refine s_take 20 (_) hS rfl (by kernel_rfl) (by kernel_rfl) (by kernel_rfl) (fun _ _ _ h => h) rfl (fun w' hw' => run_move_at _ rfl w') ?_
                             simp only [Act.put, List.setIfInBounds_toArray, List.set_cons_zero, List.set_cons_succ]
                             refine s_take 21 (.pointer (some ⟨b, o + k, none⟩)) hS rfl (by kernel_rfl) (by kernel_rfl) (by kernel_rfl) (fun _ _ _ h => h) rfl (fun w' hw' => by (have hc0 := hj3; have hc1 := hj4; have hc2 := hj5; unfold execOp; simp [go_sem, Act.put, Act.eval, hc0, hc1, hc2])) ?_
                             simp only [Act.put, List.setIfInBounds_toArray, List.set_cons_zero, List.set_cons_succ]
                             refine s_take 22 (.int .i64 (gs.getD k 0)) hS rfl (by kernel_rfl) (by kernel_rfl) (by kernel_rfl) (fun _ _ _ h => h) rfl (fun w' hw' => by (have hc0 := (hw'.cell (p := ⟨b, o + k, none⟩) (World.block_lt_of_cell? _ _ hcj)).trans hcj; unfold execOp; simp [go_sem, Act.put, Act.eval, hc0])) ?_
                             simp only [Act.put, List.setIfInBounds_toArray, List.set_cons_zero, List.set_cons_succ]
                             refine s_take 23 (.bool true) hS rfl (by kernel_rfl) (by kernel_rfl) (by kernel_rfl) (fun _ _ _ h => h) rfl (fun w' hw' => by (have hc0 := HCC.out; unfold execOp; simp [go_sem, Act.put, Act.eval, hc0])) ?_
                             simp only [Act.put, List.setIfInBounds_toArray, List.set_cons_zero, List.set_cons_succ]
                             refine s_take 24 (.bool true) hS rfl (by kernel_rfl) (by kernel_rfl) (by kernel_rfl) (fun _ _ _ h => h) rfl (fun w' hw' => by (unfold execOp; simp [go_sem, Act.put, Act.eval])) ?_
                             simp only [Act.put, List.setIfInBounds_toArray, List.set_cons_zero, List.set_cons_succ]
                             refine s_take 25 (.bool false) hS rfl (by kernel_rfl) (by kernel_rfl) (by kernel_rfl) (fun _ _ _ h => h) rfl (fun w' hw' => by (unfold execOp; simp [go_sem, Act.put, Act.eval])) ?_
                             simp only [Act.put, List.setIfInBounds_toArray, List.set_cons_zero, List.set_cons_succ]
                             refine s_take 26 (.bool false) hS rfl (by kernel_rfl) (by kernel_rfl) (by kernel_rfl) (fun _ _ _ h => h) rfl (fun w' hw' => by (unfold execOp; simp [go_sem, Act.put, Act.eval])) ?_
                             simp only [Act.put, List.setIfInBounds_toArray, List.set_cons_zero, List.set_cons_succ]
                             refine s_done (by kernel_rfl) ?_
                             have HBf := Lib.hid (below_next HBe.out hbe)
                             clear hS hbe HBe HOq HCq HBw hcj
                             go_wp2
                             go_roundg (gs.length - (k + 1))
                             case measure => omega
                             case rel => exact ⟨k + 1, by omega, by omega, by go_num, ⟨HBf.out⟩⟩)
                    · have hltz2 : ¬ (k : Int) < (gs.length : Int) := by omega
                      obtain ⟨wq, hwq⟩ : ∃ wq : World, wq = wr := ⟨_, rfl⟩
                      subst hwq
                      have HOq := Lib.hid (HM.out.one.next HBq.out)
                      have HWq := Lib.hid (HM.out.wrow.next HBq.out)
                      have HIq := Lib.hid HM.out.inv
                      have HBx := Lib.hid (below_next HM.out.below HBq.out)
                      have hl2 := HM.out.len
                      obtain ⟨ys, hys⟩ : ∃ ys, ys = whoF l2 := ⟨_, rfl⟩
                      have hyl : ys.length = l2.length := by rw [hys]; unfold whoF; exact List.length_map ..
                      have hrow : Calls Try.prog 44 #[.pointer (some ⟨g, 0, none⟩), .int .i64 0] wq (GivesI ys wq) := by rw [hys]; exact o_row HOq.out hml2
                      have HAT2 := Lib.hid (show ∀ k : Nat, k < ys.length → ∃ b, l2[k]? = some (ys.getD k 0, b) from by rw [hys]; exact whoF_at l2)
                      have HL2 := Lib.hid hl2
                      have HYL := Lib.hid hyl
                      have hyl2 : ys.length ≤ 100 := by omega
                      clear hys HM HGC HBq hl2 hyl
                      go_wp2_with (go_at_call 44; refine hrow.mono ?_; rintro e w6 ⟨v9, rfl, ho9, hb9⟩; obtain ⟨A9, c9, e9, hc9, hr9⟩ := Kd.R_reads ho9; subst e9; have HR9 := Lib.hid hr9; have HO9 := Lib.hid (HOq.out.next hb9); have HW9 := Lib.hid (HWq.out.next hb9); have HB9 := Lib.hid (below_next HBx.out hb9); clear ho9 hr9 hb9 HOq HWq HBx)
                      clear hrow
                      go_loopg [12, 13, 14] ys.length (fun gg s12 s13 s14 wr => ∃ (k n : Nat) (wt : Bool), k ≤ ys.length ∧ ys.length - k ≤ gg ∧ s12 = .int .i64 n ∧ s13 = .bool wt ∧ s14 = .int .i64 k ∧ Aside0 (Nw l2 k n wt) ∧ Aside0 (Below w6.heap.size w6 wr))
                      case atStart => exact ⟨0, 0, false, Nat.zero_le _, by omega, rfl, rfl, rfl, ⟨Nat.le_refl _, fun h => absurd h (by omega), fun _ _ => ⟨fun _ => by omega, fun _ => rfl⟩⟩, ⟨Below.refl _ _⟩⟩
                      case round =>
                        obtain ⟨k, n, wt, hkn3, hg3, rfl, rfl, rfl, HN, BW⟩ := hrel
                        by_cases hlt3 : k < ys.length
                        · have hj3 : (k : Int) < (ys.length : Int) := by omega
                          have hj4 : ¬ (k : Int) < 0 := by omega
                          have hj5 : k ≤ 9223372036854775807 := by omega
                          obtain ⟨wq, hwq⟩ : ∃ wq : World, wq = wr := ⟨_, rfl⟩
                          subst hwq
                          have hnk : n ≤ 100 := by have := HN.out.1; omega
                          obtain ⟨b, hlb⟩ := HAT2.out k hlt3
                          obtain ⟨bb, o, e9, hcell⟩ := C_cells (Kd.C_below HR9.out BW.out) (by omega)
                          subst e9
                          have hcj := hcell k hlt3
                          clear hcell
                          obtain ⟨c, hcd⟩ : ∃ c, c = ys.getD k 0 := ⟨_, rfl⟩
                          rw [← hcd] at hcj hlb
                          clear hcd
                          have hok := HIq.out.ok _ (List.mem_of_getElem? hlb)
                          obtain ⟨cn, hcn⟩ := Int.eq_ofNat_of_zero_le hok.1
                          simp only at hcn hok
                          subst hcn
                          have hq1 : ¬ (cn : Int) < 0 := by omega
                          have hq2 : ¬ (cn : Int) > 63 := by omega
                          have hq3 : (cn : Int) < 64 := by omega
                          have hq4 : cn < 64 := by omega
                          have hwc := (HW9.out.next BW.out).cell cn b (by have := HIq.out.wr_ _ (List.mem_of_getElem? hlb); simpa using this)
                          have HOk := Lib.hid (HO9.out.next BW.out)
                          have HLB := Lib.hid hlb
                          clear hok hlb
                          by_cases hgr : grF l2 (cn : Int) = true
                          · have hG : Calls Try.prog 42 #[.pointer (some ⟨g, 0, none⟩), .int .i64 0, .int .i64 cn] wq (TellsL true wq) := by have h := o_granted (c := (cn : Int)) HOk.out hml2; rw [hgr] at h; exact h
                            have HN2 := Lib.hid (HN.out.take HIq.out _ HLB.out hgr)
                            clear hgr
                            cases wt
                            · go_wp2_with (go_at_call 42; refine hG.mono ?_; rintro e w9 ⟨rfl, hb9⟩; have hcj9 := (hb9.cell (p := ⟨bb, o + k, none⟩) (World.block_lt_of_cell? _ _ hcj)).trans hcj; have hwc9 := (hb9.cell (p := ⟨gw, cn, none⟩) (World.block_lt_of_cell? _ _ hwc)).trans hwc; have HB9' := Lib.hid hb9; clear hb9)
                              go_roundg (ys.length - (k + 1))
                              case measure => omega
                              case rel => exact ⟨k + 1, n + 1, false || b, by omega, by omega, by go_num, by cases b <;> rfl, by go_num, ⟨HN2.out⟩, ⟨below_next BW.out HB9'.out⟩⟩
                            · go_wp2_with (go_at_call 42; refine hG.mono ?_; rintro e w9 ⟨rfl, hb9⟩; have hcj9 := (hb9.cell (p := ⟨bb, o + k, none⟩) (World.block_lt_of_cell? _ _ hcj)).trans hcj; have hwc9 := (hb9.cell (p := ⟨gw, cn, none⟩) (World.block_lt_of_cell? _ _ hwc)).trans hwc; have HB9' := Lib.hid hb9; clear hb9)
                              go_roundg (ys.length - (k + 1))
                              case measure => omega
                              case rel => exact ⟨k + 1, n + 1, true || b, by omega, by omega, by go_num, by cases b <;> rfl, by go_num, ⟨HN2.out⟩, ⟨below_next BW.out HB9'.out⟩⟩
                          · have hG : Calls Try.prog 42 #[.pointer (some ⟨g, 0, none⟩), .int .i64 0, .int .i64 cn] wq (TellsL false wq) := by have h := o_granted (c := (cn : Int)) HOk.out hml2; rw [Bool.eq_false_iff.2 hgr] at h; exact h
                            have HN2 := Lib.hid (HN.out.skip HIq.out _ HLB.out (Bool.eq_false_iff.2 hgr))
                            clear hgr hwc
                            go_wp2_with (go_at_call 42; refine hG.mono ?_; rintro e w9 ⟨rfl, hb9⟩; have HB9' := Lib.hid hb9; clear hb9)
                            go_roundg (ys.length - (k + 1))
                            case measure => omega
                            case rel => exact ⟨k + 1, n, wt, by omega, by omega, by go_num, rfl, by go_num, ⟨HN2.out⟩, ⟨below_next BW.out HB9'.out⟩⟩
                        · have hltz3 : ¬ (k : Int) < (ys.length : Int) := by omega
                          have hkl : k = ys.length := by omega
                          have hn1 : wt = true → ¬ (n : Int) > 1 := by
                            intro hw
                            cases hx : l2[0]? with
                            | none =>
                              have : l2.length = 0 := by simpa using hx
                              have := HN.out.1
                              have := HYL.out
                              omega
                            | some x =>
                              have h := HN.out.2.2 x hx
                              cases hb : x.2 with
                              | true => have := h.1 hb; omega
                              | false => rw [h.2 hb] at hw; cases hw
                          have hn2 : n = 0 → ys.length = 0 := fun h => by
                            rcases Nat.eq_zero_or_pos k with h0 | h0
                            · omega
                            · have := HN.out.2.1 h0; omega
                          have HKL := Lib.hid hkl
                          have HREL := Lib.hid (show One w.heap.size wr g r l2 ∧ WRow wr gw wb2 ∧ Below w.heap.size w wr from ⟨HO9.out.next BW.out, HW9.out.next BW.out, below_next HB9.out BW.out⟩)
                          clear hkl
                          by_cases hn0 : n = 0
                          · subst hn0
                            have hz0 : ¬ (ys.length : Int) > 0 := by have := hn2 rfl; omega
                            clear hn1 hn2
                            cases wt
                            · go_wp2
                              go_roundg (len - (kk + 1))
                              case measure => omega
                              case rel => exact ⟨kk + 1, l2, wb2, by omega, by omega, by go_num, ⟨HREL.out.1⟩, ⟨HREL.out.2.1⟩, ⟨HIq.out⟩, HL2.out, ⟨HREL.out.2.2⟩⟩
                            · go_wp2
                              go_roundg (len - (kk + 1))
                              case measure => omega
                              case rel => exact ⟨kk + 1, l2, wb2, by omega, by omega, by go_num, ⟨HREL.out.1⟩, ⟨HREL.out.2.1⟩, ⟨HIq.out⟩, HL2.out, ⟨HREL.out.2.2⟩⟩
                          · have hn3 : ((n : Int) == 0) = false := by simp; omega
                            have hn4 : ¬ (n : Int) = 0 := by omega
                            clear hn2 hn0
                            cases wt
                            · clear hn1
                              go_wp2
                              go_roundg (len - (kk + 1))
                              case measure => omega
                              case rel => exact ⟨kk + 1, l2, wb2, by omega, by omega, by go_num, ⟨HREL.out.1⟩, ⟨HREL.out.2.1⟩, ⟨HIq.out⟩, HL2.out, ⟨HREL.out.2.2⟩⟩
                            · have hn5 := hn1 rfl
                              clear hn1
                              go_wp2
                              go_roundg (len - (kk + 1))
                              case measure => omega
                              case rel => exact ⟨kk + 1, l2, wb2, by omega, by omega, by go_num, ⟨HREL.out.1⟩, ⟨HREL.out.2.1⟩, ⟨HIq.out⟩, HL2.out, ⟨HREL.out.2.2⟩⟩
              · have HAK := Lib.hid (show ∀ W, One w.heap.size W g r l → Calls Try.prog 39 #[.pointer (some ⟨g, 0, none⟩), .int .i64 0, .int .i64 C, .bool wv] W (OneOut w.heap.size g r x l W) from fun W h => by have h' := o_ask (c := C) (b := wv) h hml; rw [hak] at h'; exact h')
                clear hak
                go_wp2
                refine s_region (fun u => Below w.heap.size w u) (by kernel_rfl) 13 (by kernel_rfl) (below_drew HBp.out) (fun hS => ?_)
                have HO4 := Lib.hid (HOp.out.next (below_drew (Below.refl wp.heap.size wp)))
                have HW4 := Lib.hid (HWp.out.next (below_drew (Below.refl wp.heap.size wp)))
                have HR4 := Lib.hid (Kd.R_below HRp.out (below_drew (Below.refl wp.heap.size wp)))
                generalize hwd : wp.drew = wd at *
                clear hwd HOp HWp HRp HBp
                refine s_take 0 (_) hS rfl (by kernel_rfl) (by kernel_rfl) (by kernel_rfl) (fun _ _ _ h => h) rfl (fun w' hw' => run_move_at _ rfl w') ?_
                simp only [Act.put, List.setIfInBounds_toArray, List.set_cons_zero, List.set_cons_succ]
                refine s_take 1 (_) hS rfl (by kernel_rfl) (by kernel_rfl) (by kernel_rfl) (fun _ _ _ h => h) rfl (fun w' hw' => run_move_at _ rfl w') ?_
                simp only [Act.put, List.setIfInBounds_toArray, List.set_cons_zero, List.set_cons_succ]
                refine s_take 2 (_) hS rfl (by kernel_rfl) (by kernel_rfl) (by kernel_rfl) (fun _ _ _ h => h) rfl (fun w' hw' => run_move_at _ rfl w') ?_
                simp only [Act.put, List.setIfInBounds_toArray, List.set_cons_zero, List.set_cons_succ]
                refine s_take 3 (.pointer (some (ad.add (kk * 4)))) hS rfl (by kernel_rfl) (by kernel_rfl) (by kernel_rfl) (fun _ _ _ h => h) rfl (fun w' hw' => by (have hc0 := hltz; have hc1 := hk4; have hc2 := hk5; unfold execOp; simp [go_sem, Act.put, Act.eval, hc0, hc1, hc2])) ?_
                simp only [Act.put, List.setIfInBounds_toArray, List.set_cons_zero, List.set_cons_succ]
                refine s_take 4 (.pointer (some ⟨(ad.add (kk * 4)).block, (ad.add (kk * 4)).off + 2, none⟩)) hS rfl (by kernel_rfl) (by kernel_rfl) (by kernel_rfl) (fun _ _ _ h => h) rfl (fun w' hw' => by (unfold execOp; simp [go_sem, Act.put, Act.eval])) ?_
                simp only [Act.put, List.setIfInBounds_toArray, List.set_cons_zero, List.set_cons_succ]
                refine s_take 5 (.int .i64 C) hS rfl (by kernel_rfl) (by kernel_rfl) (by kernel_rfl) (fun _ _ _ h => h) rfl (fun w' hw' => by (have hc0 := (HDC.out w' hw').2.1; unfold execOp; simp [go_sem, Act.put, Act.eval, hc0])) ?_
                simp only [Act.put, List.setIfInBounds_toArray, List.set_cons_zero, List.set_cons_succ]
                refine s_take 6 (_) hS rfl (by kernel_rfl) (by kernel_rfl) (by kernel_rfl) (fun _ _ _ h => h) rfl (fun w' hw' => run_move_at _ rfl w') ?_
                simp only [Act.put, List.setIfInBounds_toArray, List.set_cons_zero, List.set_cons_succ]
                refine s_take 7 (_) hS rfl (by kernel_rfl) (by kernel_rfl) (by kernel_rfl) (fun _ _ _ h => h) rfl (fun w' hw' => run_move_at _ rfl w') ?_
                simp only [Act.put, List.setIfInBounds_toArray, List.set_cons_zero, List.set_cons_succ]
                refine s_take 8 (.pointer (some (ad.add (kk * 4)))) hS rfl (by kernel_rfl) (by kernel_rfl) (by kernel_rfl) (fun _ _ _ h => h) rfl (fun w' hw' => by (have hc0 := hltz; have hc1 := hk4; have hc2 := hk5; unfold execOp; simp [go_sem, Act.put, Act.eval, hc0, hc1, hc2])) ?_
                simp only [Act.put, List.setIfInBounds_toArray, List.set_cons_zero, List.set_cons_succ]
                refine s_take 9 (.pointer (some ⟨(ad.add (kk * 4)).block, (ad.add (kk * 4)).off + 3, none⟩)) hS rfl (by kernel_rfl) (by kernel_rfl) (by kernel_rfl) (fun _ _ _ h => h) rfl (fun w' hw' => by (unfold execOp; simp [go_sem, Act.put, Act.eval])) ?_
                simp only [Act.put, List.setIfInBounds_toArray, List.set_cons_zero, List.set_cons_succ]
                refine s_take 10 (.bool wv) hS rfl (by kernel_rfl) (by kernel_rfl) (by kernel_rfl) (fun _ _ _ h => h) rfl (fun w' hw' => by (have hc0 := (HDC.out w' hw').2.2; unfold execOp; simp [go_sem, Act.put, Act.eval, hc0])) ?_
                simp only [Act.put, List.setIfInBounds_toArray, List.set_cons_zero, List.set_cons_succ]
                refine s_call 11 rfl (by kernel_rfl) rfl 39 _ _ Try.func39 (by kernel_rfl) rfl _ _ #[.pointer (some ⟨g, 0, none⟩), .int .i64 0, .int .i64 C, .bool wv] rfl (by simp [Act.put, Act.eval]) (HAK.out _ HO4.out) ?_
                rintro e w5 ⟨rfl, hO5, hK5, hB5⟩
                have HO5 := Lib.hid hO5
                have HW5 := Lib.hid (HW4.out.keepT hK5 (by decide))
                have HR5 := Lib.hid (R_keepT HR4.out hK5 (by decide))
                have HB5 := Lib.hid (hS.trans hB5)
                clear hO5 hK5 HO4 HW4 HR4
                have hS := HB5.out
                refine ⟨_, rfl, hS, ?_⟩
                simp only [Act.put, List.setIfInBounds_toArray, List.set_cons_zero, List.set_cons_succ]
                refine s_take 12 (.bool false) hS rfl (by kernel_rfl) (by kernel_rfl) (by kernel_rfl) (fun _ _ _ h => h) rfl (fun w' hw' => by (have hc0 := hcode; unfold execOp; simp [go_sem, Act.put, Act.eval, hc0])) ?_
                simp only [Act.put, List.setIfInBounds_toArray, List.set_cons_zero, List.set_cons_succ]
                refine s_done (by kernel_rfl) ?_
                clear hS hB5 HAK
                go_wp2
                obtain ⟨w5', hw5'⟩ : ∃ w5' : World, w5' = w5 := ⟨_, rfl⟩
                subst hw5'
                obtain ⟨l2, wb2, HM⟩ : ∃ l2 wb2, Hid (Mid w.heap.size w w5' g r gw l2 wb2 w7.heap.size u8 gs false C kk) := ⟨l, wb, Lib.hid ⟨HO5.out, HW5.out, HI.out, HR5.out, HB5.out, fun c hc => .inl (HGS.out c hc), by omega⟩⟩
                clear HO5 HW5 HR5 HB5 c0 c2 hcode
                as_aux_lemma =>
                  obtain ⟨A8, c8, e8, hc8, hr8⟩ := Kd.R_reads HM.out.gs_
                  subst e8
                  have HGC := Lib.hid hr8
                  have hml2 : l2.length ≤ 100000 := by have := HM.out.len; omega
                  clear hr8
                  go_loopg [10] gs.length (fun gg s10 wr => ∃ k : Nat, k ≤ gs.length ∧ gs.length - k ≤ gg ∧ s10 = .int .i64 k ∧ Aside0 (Below w5'.heap.size w5' wr))
                  case atStart => exact ⟨0, Nat.zero_le _, by omega, rfl, ⟨Below.refl _ _⟩⟩
                  case round =>
                    obtain ⟨k, hkn2, hg2, rfl, HBq⟩ := hrel
                    by_cases hlt2 : k < gs.length
                    · have hj3 : (k : Int) < (gs.length : Int) := by omega
                      have hj4 : ¬ (k : Int) < 0 := by omega
                      have hj5 : k ≤ 9223372036854775807 := by omega
                      obtain ⟨wq, hwq⟩ : ∃ wq : World, wq = wr := ⟨_, rfl⟩
                      subst hwq
                      have hmem : gs.getD k 0 ∈ gs := by rw [List.getD_eq_getElem?_getD, List.getElem?_eq_getElem hlt2]; exact List.getElem_mem hlt2
                      have hor := HM.out.gr _ hmem
                      clear hmem
                      by_cases hgr : grF l2 (gs.getD k 0) = true
                      · clear hor
                        go_wp2
                        refine s_region (fun u => Below wq.drew.heap.size wq.drew u) (by kernel_rfl) 27 (by kernel_rfl) (Below.refl _ _) (fun hS => ?_)
                        have HBd := Lib.hid (below_drew (Below.refl wq.heap.size wq))
                        have HOq := Lib.hid ((HM.out.one.next HBq.out).next HBd.out)
                        have HCq := Lib.hid (Kd.C_below HGC.out (below_next HBq.out HBd.out))
                        have hBw : ∀ u, Below wq.drew.heap.size wq.drew u → Below w.heap.size w u := fun u hu => below_next (below_next (below_next HM.out.below HBq.out) HBd.out) hu
                        have HBw := Lib.hid hBw
                        clear hBw
                        have HBe := Lib.hid (below_next HBq.out HBd.out)
                        generalize hwd : wq.drew = wd at *
                        clear hwd HBd HBq
                        obtain ⟨b, o, e9, hcell⟩ := C_cells HCq.out (by omega)
                        subst e9
                        have hcj := hcell k hlt2
                        clear hcell
                        refine s_take 0 (_) hS rfl (by kernel_rfl) (by kernel_rfl) (by kernel_rfl) (fun _ _ _ h => h) rfl (fun w' hw' => run_move_at _ rfl w') ?_
                        simp only [Act.put, List.setIfInBounds_toArray, List.set_cons_zero, List.set_cons_succ]
                        refine s_take 1 (_) hS rfl (by kernel_rfl) (by kernel_rfl) (by kernel_rfl) (fun _ _ _ h => h) rfl (fun w' hw' => run_move_at _ rfl w') ?_
                        simp only [Act.put, List.setIfInBounds_toArray, List.set_cons_zero, List.set_cons_succ]
                        refine s_take 2 (_) hS rfl (by kernel_rfl) (by kernel_rfl) (by kernel_rfl) (fun _ _ _ h => h) rfl (fun w' hw' => run_move_at _ rfl w') ?_
                        simp only [Act.put, List.setIfInBounds_toArray, List.set_cons_zero, List.set_cons_succ]
                        refine s_take 3 (.pointer (some ⟨b, o + k, none⟩)) hS rfl (by kernel_rfl) (by kernel_rfl) (by kernel_rfl) (fun _ _ _ h => h) rfl (fun w' hw' => by (have hc0 := hj3; have hc1 := hj4; have hc2 := hj5; unfold execOp; simp [go_sem, Act.put, Act.eval, hc0, hc1, hc2])) ?_
                        simp only [Act.put, List.setIfInBounds_toArray, List.set_cons_zero, List.set_cons_succ]
                        refine s_take 4 (.int .i64 (gs.getD k 0)) hS rfl (by kernel_rfl) (by kernel_rfl) (by kernel_rfl) (fun _ _ _ h => h) rfl (fun w' hw' => by (have hc0 := (hw'.cell (p := ⟨b, o + k, none⟩) (World.block_lt_of_cell? _ _ hcj)).trans hcj; unfold execOp; simp [go_sem, Act.put, Act.eval, hc0])) ?_
                        simp only [Act.put, List.setIfInBounds_toArray, List.set_cons_zero, List.set_cons_succ]
                        refine s_call 5 rfl (by kernel_rfl) rfl 42 _ _ Try.func42 (by kernel_rfl) rfl _ _ #[.pointer (some ⟨g, 0, none⟩), .int .i64 0, .int .i64 (gs.getD k 0)] rfl (by simp [Act.put, Act.eval]) ((by have h := o_granted (c := gs.getD k 0) HOq.out hml2; rw [hgr] at h; exact h)) ?_
                        rintro e we ⟨rfl, hbe⟩
                        have hS := hbe
                        refine ⟨_, rfl, hS, ?_⟩
                        simp only [Act.put, List.setIfInBounds_toArray, List.set_cons_zero, List.set_cons_succ]
                        refine s_take 6 (.bool false) hS rfl (by kernel_rfl) (by kernel_rfl) (by kernel_rfl) (fun _ _ _ h => h) rfl (fun w' hw' => by (unfold execOp; simp [go_sem, Act.put, Act.eval])) ?_
                        simp only [Act.put, List.setIfInBounds_toArray, List.set_cons_zero, List.set_cons_succ]
                        refine s_take 7 (_) hS rfl (by kernel_rfl) (by kernel_rfl) (by kernel_rfl) (fun _ _ _ h => h) rfl (fun w' hw' => run_move_at _ rfl w') ?_
                        simp only [Act.put, List.setIfInBounds_toArray, List.set_cons_zero, List.set_cons_succ]
                        refine s_skip 8 hS rfl (by kernel_rfl) (by kernel_rfl) (by kernel_rfl) (fun _ _ _ h => h) rfl ?_
                        simp only [Act.put, List.setIfInBounds_toArray, List.set_cons_zero, List.set_cons_succ]
                        refine s_skip 9 hS rfl (by kernel_rfl) (by kernel_rfl) (by kernel_rfl) (fun _ _ _ h => h) rfl ?_
                        simp only [Act.put, List.setIfInBounds_toArray, List.set_cons_zero, List.set_cons_succ]
                        refine s_skip 10 hS rfl (by kernel_rfl) (by kernel_rfl) (by kernel_rfl) (fun _ _ _ h => h) rfl ?_
                        simp only [Act.put, List.setIfInBounds_toArray, List.set_cons_zero, List.set_cons_succ]
                        refine s_skip 11 hS rfl (by kernel_rfl) (by kernel_rfl) (by kernel_rfl) (fun _ _ _ h => h) rfl ?_
                        simp only [Act.put, List.setIfInBounds_toArray, List.set_cons_zero, List.set_cons_succ]
                        refine s_skip 12 hS rfl (by kernel_rfl) (by kernel_rfl) (by kernel_rfl) (fun _ _ _ h => h) rfl ?_
                        simp only [Act.put, List.setIfInBounds_toArray, List.set_cons_zero, List.set_cons_succ]
                        refine s_skip 13 hS rfl (by kernel_rfl) (by kernel_rfl) (by kernel_rfl) (fun _ _ _ h => h) rfl ?_
                        simp only [Act.put, List.setIfInBounds_toArray, List.set_cons_zero, List.set_cons_succ]
                        refine s_skip 14 hS rfl (by kernel_rfl) (by kernel_rfl) (by kernel_rfl) (fun _ _ _ h => h) rfl ?_
                        simp only [Act.put, List.setIfInBounds_toArray, List.set_cons_zero, List.set_cons_succ]
                        refine s_skip 15 hS rfl (by kernel_rfl) (by kernel_rfl) (by kernel_rfl) (fun _ _ _ h => h) rfl ?_
                        simp only [Act.put, List.setIfInBounds_toArray, List.set_cons_zero, List.set_cons_succ]
                        refine s_skip 16 hS rfl (by kernel_rfl) (by kernel_rfl) (by kernel_rfl) (fun _ _ _ h => h) rfl ?_
                        simp only [Act.put, List.setIfInBounds_toArray, List.set_cons_zero, List.set_cons_succ]
                        refine s_skip 17 hS rfl (by kernel_rfl) (by kernel_rfl) (by kernel_rfl) (fun _ _ _ h => h) rfl ?_
                        simp only [Act.put, List.setIfInBounds_toArray, List.set_cons_zero, List.set_cons_succ]
                        refine s_skip 18 hS rfl (by kernel_rfl) (by kernel_rfl) (by kernel_rfl) (fun _ _ _ h => h) rfl ?_
                        simp only [Act.put, List.setIfInBounds_toArray, List.set_cons_zero, List.set_cons_succ]
                        refine s_skip 19 hS rfl (by kernel_rfl) (by kernel_rfl) (by kernel_rfl) (fun _ _ _ h => h) rfl ?_
                        simp only [Act.put, List.setIfInBounds_toArray, List.set_cons_zero, List.set_cons_succ]
                        refine s_skip 20 hS rfl (by kernel_rfl) (by kernel_rfl) (by kernel_rfl) (fun _ _ _ h => h) rfl ?_
                        simp only [Act.put, List.setIfInBounds_toArray, List.set_cons_zero, List.set_cons_succ]
                        refine s_skip 21 hS rfl (by kernel_rfl) (by kernel_rfl) (by kernel_rfl) (fun _ _ _ h => h) rfl ?_
                        simp only [Act.put, List.setIfInBounds_toArray, List.set_cons_zero, List.set_cons_succ]
                        refine s_skip 22 hS rfl (by kernel_rfl) (by kernel_rfl) (by kernel_rfl) (fun _ _ _ h => h) rfl ?_
                        simp only [Act.put, List.setIfInBounds_toArray, List.set_cons_zero, List.set_cons_succ]
                        refine s_skip 23 hS rfl (by kernel_rfl) (by kernel_rfl) (by kernel_rfl) (fun _ _ _ h => h) rfl ?_
                        simp only [Act.put, List.setIfInBounds_toArray, List.set_cons_zero, List.set_cons_succ]
                        refine s_skip 24 hS rfl (by kernel_rfl) (by kernel_rfl) (by kernel_rfl) (fun _ _ _ h => h) rfl ?_
                        simp only [Act.put, List.setIfInBounds_toArray, List.set_cons_zero, List.set_cons_succ]
                        refine s_skip 25 hS rfl (by kernel_rfl) (by kernel_rfl) (by kernel_rfl) (fun _ _ _ h => h) rfl ?_
                        simp only [Act.put, List.setIfInBounds_toArray, List.set_cons_zero, List.set_cons_succ]
                        refine s_take 26 (.bool false) hS rfl (by kernel_rfl) (by kernel_rfl) (by kernel_rfl) (fun _ _ _ h => h) rfl (fun w' hw' => by (unfold execOp; simp [go_sem, Act.put, Act.eval])) ?_
                        simp only [Act.put, List.setIfInBounds_toArray, List.set_cons_zero, List.set_cons_succ]
                        refine s_done (by kernel_rfl) ?_
                        have HBf := Lib.hid (below_next HBe.out hbe)
                        clear hS hbe HBe HOq HCq HBw hcj
                        go_wp2
                        go_roundg (gs.length - (k + 1))
                        case measure => omega
                        case rel => exact ⟨k + 1, by omega, by omega, by go_num, ⟨HBf.out⟩⟩
                      · rw [Bool.not_eq_true] at hgr
                        rcases hor with hor | ⟨hd, hC⟩
                        · rw [hgr] at hor; cases hor
                        · first
                          | exact absurd hd (by decide)
                          | (have HCC := Lib.hid hC
                             clear hd hC
                             go_wp2
                             refine s_region (fun u => Below wq.drew.heap.size wq.drew u) (by kernel_rfl) 27 (by kernel_rfl) (Below.refl _ _) (fun hS => ?_)
                             have HBd := Lib.hid (below_drew (Below.refl wq.heap.size wq))
                             have HOq := Lib.hid ((HM.out.one.next HBq.out).next HBd.out)
                             have HCq := Lib.hid (Kd.C_below HGC.out (below_next HBq.out HBd.out))
                             have hBw : ∀ u, Below wq.drew.heap.size wq.drew u → Below w.heap.size w u := fun u hu => below_next (below_next (below_next HM.out.below HBq.out) HBd.out) hu
                             have HBw := Lib.hid hBw
                             clear hBw
                             have HBe := Lib.hid (below_next HBq.out HBd.out)
                             generalize hwd : wq.drew = wd at *
                             clear hwd HBd HBq
                             obtain ⟨b, o, e9, hcell⟩ := C_cells HCq.out (by omega)
                             subst e9
                             have hcj := hcell k hlt2
                             clear hcell
                             refine s_take 0 (_) hS rfl (by kernel_rfl) (by kernel_rfl) (by kernel_rfl) (fun _ _ _ h => h) rfl (fun w' hw' => run_move_at _ rfl w') ?_
                             simp only [Act.put, List.setIfInBounds_toArray, List.set_cons_zero, List.set_cons_succ]
                             refine s_take 1 (_) hS rfl (by kernel_rfl) (by kernel_rfl) (by kernel_rfl) (fun _ _ _ h => h) rfl (fun w' hw' => run_move_at _ rfl w') ?_
                             simp only [Act.put, List.setIfInBounds_toArray, List.set_cons_zero, List.set_cons_succ]
                             refine s_take 2 (_) hS rfl (by kernel_rfl) (by kernel_rfl) (by kernel_rfl) (fun _ _ _ h => h) rfl (fun w' hw' => run_move_at _ rfl w') ?_
                             simp only [Act.put, List.setIfInBounds_toArray, List.set_cons_zero, List.set_cons_succ]
                             refine s_take 3 (.pointer (some ⟨b, o + k, none⟩)) hS rfl (by kernel_rfl) (by kernel_rfl) (by kernel_rfl) (fun _ _ _ h => h) rfl (fun w' hw' => by (have hc0 := hj3; have hc1 := hj4; have hc2 := hj5; unfold execOp; simp [go_sem, Act.put, Act.eval, hc0, hc1, hc2])) ?_
                             simp only [Act.put, List.setIfInBounds_toArray, List.set_cons_zero, List.set_cons_succ]
                             refine s_take 4 (.int .i64 (gs.getD k 0)) hS rfl (by kernel_rfl) (by kernel_rfl) (by kernel_rfl) (fun _ _ _ h => h) rfl (fun w' hw' => by (have hc0 := (hw'.cell (p := ⟨b, o + k, none⟩) (World.block_lt_of_cell? _ _ hcj)).trans hcj; unfold execOp; simp [go_sem, Act.put, Act.eval, hc0])) ?_
                             simp only [Act.put, List.setIfInBounds_toArray, List.set_cons_zero, List.set_cons_succ]
                             refine s_call 5 rfl (by kernel_rfl) rfl 42 _ _ Try.func42 (by kernel_rfl) rfl _ _ #[.pointer (some ⟨g, 0, none⟩), .int .i64 0, .int .i64 (gs.getD k 0)] rfl (by simp [Act.put, Act.eval]) ((by have h := o_granted (c := gs.getD k 0) HOq.out hml2; rw [hgr] at h; exact h)) ?_
                             rintro e we ⟨rfl, hbe⟩
                             have hS := hbe
                             refine ⟨_, rfl, hS, ?_⟩
                             simp only [Act.put, List.setIfInBounds_toArray, List.set_cons_zero, List.set_cons_succ]
                             refine s_take 6 (.bool true) hS rfl (by kernel_rfl) (by kernel_rfl) (by kernel_rfl) (fun _ _ _ h => h) rfl (fun w' hw' => by (unfold execOp; simp [go_sem, Act.put, Act.eval])) ?_
                             simp only [Act.put, List.setIfInBounds_toArray, List.set_cons_zero, List.set_cons_succ]
                             refine s_take 7 (_) hS rfl (by kernel_rfl) (by kernel_rfl) (by kernel_rfl) (fun _ _ _ h => h) rfl (fun w' hw' => run_move_at _ rfl w') ?_
                             simp only [Act.put, List.setIfInBounds_toArray, List.set_cons_zero, List.set_cons_succ]
                             refine s_take 8 (_) hS rfl (by kernel_rfl) (by kernel_rfl) (by kernel_rfl) (fun _ _ _ h => h) rfl (fun w' hw' => run_move_at _ rfl w') ?_
                             simp only [Act.put, List.setIfInBounds_toArray, List.set_cons_zero, List.set_cons_succ]
                             refine s_take 9 (_) hS rfl (by kernel_rfl) (by kernel_rfl) (by kernel_rfl) (fun _ _ _ h => h) rfl (fun w' hw' => run_move_at _ rfl w') ?_
                             simp only [Act.put, List.setIfInBounds_toArray, List.set_cons_zero, List.set_cons_succ]
                             refine s_take 10 (.pointer (some (ad.add (kk * 4)))) hS rfl (by kernel_rfl) (by kernel_rfl) (by kernel_rfl) (fun _ _ _ h => h) rfl (fun w' hw' => by (have hc0 := hltz; have hc1 := hk4; have hc2 := hk5; unfold execOp; simp [go_sem, Act.put, Act.eval, hc0, hc1, hc2])) ?_
                             simp only [Act.put, List.setIfInBounds_toArray, List.set_cons_zero, List.set_cons_succ]
                             refine s_take 11 (.pointer (some (ad.add (kk * 4)))) hS rfl (by kernel_rfl) (by kernel_rfl) (by kernel_rfl) (fun _ _ _ h => h) rfl (fun w' hw' => by (unfold execOp; simp [go_sem, Act.put, Act.eval])) ?_
                             simp only [Act.put, List.setIfInBounds_toArray, List.set_cons_zero, List.set_cons_succ]
                             refine s_take 12 (.bool true) hS rfl (by kernel_rfl) (by kernel_rfl) (by kernel_rfl) (fun _ _ _ h => h) rfl (fun w' hw' => by (have hc0 := (HDC.out w' (HBw.out w' hw')).1; unfold execOp; simp [go_sem, Act.put, Act.eval, hc0])) ?_
                             simp only [Act.put, List.setIfInBounds_toArray, List.set_cons_zero, List.set_cons_succ]
                             refine s_take 13 (_) hS rfl (by kernel_rfl) (by kernel_rfl) (by kernel_rfl) (fun _ _ _ h => h) rfl (fun w' hw' => run_move_at _ rfl w') ?_
                             simp only [Act.put, List.setIfInBounds_toArray, List.set_cons_zero, List.set_cons_succ]
                             refine s_take 14 (_) hS rfl (by kernel_rfl) (by kernel_rfl) (by kernel_rfl) (fun _ _ _ h => h) rfl (fun w' hw' => run_move_at _ rfl w') ?_
                             simp only [Act.put, List.setIfInBounds_toArray, List.set_cons_zero, List.set_cons_succ]
                             refine s_take 15 (_) hS rfl (by kernel_rfl) (by kernel_rfl) (by kernel_rfl) (fun _ _ _ h => h) rfl (fun w' hw' => run_move_at _ rfl w') ?_
                             simp only [Act.put, List.setIfInBounds_toArray, List.set_cons_zero, List.set_cons_succ]
                             refine s_take 16 (.pointer (some (ad.add (kk * 4)))) hS rfl (by kernel_rfl) (by kernel_rfl) (by kernel_rfl) (fun _ _ _ h => h) rfl (fun w' hw' => by (have hc0 := hltz; have hc1 := hk4; have hc2 := hk5; unfold execOp; simp [go_sem, Act.put, Act.eval, hc0, hc1, hc2])) ?_
                             simp only [Act.put, List.setIfInBounds_toArray, List.set_cons_zero, List.set_cons_succ]
                             refine s_take 17 (.pointer (some ⟨(ad.add (kk * 4)).block, (ad.add (kk * 4)).off + 2, none⟩)) hS rfl (by kernel_rfl) (by kernel_rfl) (by kernel_rfl) (fun _ _ _ h => h) rfl (fun w' hw' => by (unfold execOp; simp [go_sem, Act.put, Act.eval])) ?_
                             simp only [Act.put, List.setIfInBounds_toArray, List.set_cons_zero, List.set_cons_succ]
                             refine s_take 18 (.int .i64 C) hS rfl (by kernel_rfl) (by kernel_rfl) (by kernel_rfl) (fun _ _ _ h => h) rfl (fun w' hw' => by (have hc0 := (HDC.out w' (HBw.out w' hw')).2.1; unfold execOp; simp [go_sem, Act.put, Act.eval, hc0])) ?_
                             simp only [Act.put, List.setIfInBounds_toArray, List.set_cons_zero, List.set_cons_succ]
                             refine s_take 19 (_) hS rfl (by kernel_rfl) (by kernel_rfl) (by kernel_rfl) (fun _ _ _ h => h) rfl (fun w' hw' => run_move_at _ rfl w') ?_
                             simp only [Act.put, List.setIfInBounds_toArray, List.set_cons_zero, List.set_cons_succ]
                             refine s_take 20 (_) hS rfl (by kernel_rfl) (by kernel_rfl) (by kernel_rfl) (fun _ _ _ h => h) rfl (fun w' hw' => run_move_at _ rfl w') ?_
                             simp only [Act.put, List.setIfInBounds_toArray, List.set_cons_zero, List.set_cons_succ]
                             refine s_take 21 (.pointer (some ⟨b, o + k, none⟩)) hS rfl (by kernel_rfl) (by kernel_rfl) (by kernel_rfl) (fun _ _ _ h => h) rfl (fun w' hw' => by (have hc0 := hj3; have hc1 := hj4; have hc2 := hj5; unfold execOp; simp [go_sem, Act.put, Act.eval, hc0, hc1, hc2])) ?_
                             simp only [Act.put, List.setIfInBounds_toArray, List.set_cons_zero, List.set_cons_succ]
                             refine s_take 22 (.int .i64 (gs.getD k 0)) hS rfl (by kernel_rfl) (by kernel_rfl) (by kernel_rfl) (fun _ _ _ h => h) rfl (fun w' hw' => by (have hc0 := (hw'.cell (p := ⟨b, o + k, none⟩) (World.block_lt_of_cell? _ _ hcj)).trans hcj; unfold execOp; simp [go_sem, Act.put, Act.eval, hc0])) ?_
                             simp only [Act.put, List.setIfInBounds_toArray, List.set_cons_zero, List.set_cons_succ]
                             refine s_take 23 (.bool true) hS rfl (by kernel_rfl) (by kernel_rfl) (by kernel_rfl) (fun _ _ _ h => h) rfl (fun w' hw' => by (have hc0 := HCC.out; unfold execOp; simp [go_sem, Act.put, Act.eval, hc0])) ?_
                             simp only [Act.put, List.setIfInBounds_toArray, List.set_cons_zero, List.set_cons_succ]
                             refine s_take 24 (.bool true) hS rfl (by kernel_rfl) (by kernel_rfl) (by kernel_rfl) (fun _ _ _ h => h) rfl (fun w' hw' => by (unfold execOp; simp [go_sem, Act.put, Act.eval])) ?_
                             simp only [Act.put, List.setIfInBounds_toArray, List.set_cons_zero, List.set_cons_succ]
                             refine s_take 25 (.bool false) hS rfl (by kernel_rfl) (by kernel_rfl) (by kernel_rfl) (fun _ _ _ h => h) rfl (fun w' hw' => by (unfold execOp; simp [go_sem, Act.put, Act.eval])) ?_
                             simp only [Act.put, List.setIfInBounds_toArray, List.set_cons_zero, List.set_cons_succ]
                             refine s_take 26 (.bool false) hS rfl (by kernel_rfl) (by kernel_rfl) (by kernel_rfl) (fun _ _ _ h => h) rfl (fun w' hw' => by (unfold execOp; simp [go_sem, Act.put, Act.eval])) ?_
                             simp only [Act.put, List.setIfInBounds_toArray, List.set_cons_zero, List.set_cons_succ]
                             refine s_done (by kernel_rfl) ?_
                             have HBf := Lib.hid (below_next HBe.out hbe)
                             clear hS hbe HBe HOq HCq HBw hcj
                             go_wp2
                             go_roundg (gs.length - (k + 1))
                             case measure => omega
                             case rel => exact ⟨k + 1, by omega, by omega, by go_num, ⟨HBf.out⟩⟩)
                    · have hltz2 : ¬ (k : Int) < (gs.length : Int) := by omega
                      obtain ⟨wq, hwq⟩ : ∃ wq : World, wq = wr := ⟨_, rfl⟩
                      subst hwq
                      have HOq := Lib.hid (HM.out.one.next HBq.out)
                      have HWq := Lib.hid (HM.out.wrow.next HBq.out)
                      have HIq := Lib.hid HM.out.inv
                      have HBx := Lib.hid (below_next HM.out.below HBq.out)
                      have hl2 := HM.out.len
                      obtain ⟨ys, hys⟩ : ∃ ys, ys = whoF l2 := ⟨_, rfl⟩
                      have hyl : ys.length = l2.length := by rw [hys]; unfold whoF; exact List.length_map ..
                      have hrow : Calls Try.prog 44 #[.pointer (some ⟨g, 0, none⟩), .int .i64 0] wq (GivesI ys wq) := by rw [hys]; exact o_row HOq.out hml2
                      have HAT2 := Lib.hid (show ∀ k : Nat, k < ys.length → ∃ b, l2[k]? = some (ys.getD k 0, b) from by rw [hys]; exact whoF_at l2)
                      have HL2 := Lib.hid hl2
                      have HYL := Lib.hid hyl
                      have hyl2 : ys.length ≤ 100 := by omega
                      clear hys HM HGC HBq hl2 hyl
                      go_wp2_with (go_at_call 44; refine hrow.mono ?_; rintro e w6 ⟨v9, rfl, ho9, hb9⟩; obtain ⟨A9, c9, e9, hc9, hr9⟩ := Kd.R_reads ho9; subst e9; have HR9 := Lib.hid hr9; have HO9 := Lib.hid (HOq.out.next hb9); have HW9 := Lib.hid (HWq.out.next hb9); have HB9 := Lib.hid (below_next HBx.out hb9); clear ho9 hr9 hb9 HOq HWq HBx)
                      clear hrow
                      go_loopg [12, 13, 14] ys.length (fun gg s12 s13 s14 wr => ∃ (k n : Nat) (wt : Bool), k ≤ ys.length ∧ ys.length - k ≤ gg ∧ s12 = .int .i64 n ∧ s13 = .bool wt ∧ s14 = .int .i64 k ∧ Aside0 (Nw l2 k n wt) ∧ Aside0 (Below w6.heap.size w6 wr))
                      case atStart => exact ⟨0, 0, false, Nat.zero_le _, by omega, rfl, rfl, rfl, ⟨Nat.le_refl _, fun h => absurd h (by omega), fun _ _ => ⟨fun _ => by omega, fun _ => rfl⟩⟩, ⟨Below.refl _ _⟩⟩
                      case round =>
                        obtain ⟨k, n, wt, hkn3, hg3, rfl, rfl, rfl, HN, BW⟩ := hrel
                        by_cases hlt3 : k < ys.length
                        · have hj3 : (k : Int) < (ys.length : Int) := by omega
                          have hj4 : ¬ (k : Int) < 0 := by omega
                          have hj5 : k ≤ 9223372036854775807 := by omega
                          obtain ⟨wq, hwq⟩ : ∃ wq : World, wq = wr := ⟨_, rfl⟩
                          subst hwq
                          have hnk : n ≤ 100 := by have := HN.out.1; omega
                          obtain ⟨b, hlb⟩ := HAT2.out k hlt3
                          obtain ⟨bb, o, e9, hcell⟩ := C_cells (Kd.C_below HR9.out BW.out) (by omega)
                          subst e9
                          have hcj := hcell k hlt3
                          clear hcell
                          obtain ⟨c, hcd⟩ : ∃ c, c = ys.getD k 0 := ⟨_, rfl⟩
                          rw [← hcd] at hcj hlb
                          clear hcd
                          have hok := HIq.out.ok _ (List.mem_of_getElem? hlb)
                          obtain ⟨cn, hcn⟩ := Int.eq_ofNat_of_zero_le hok.1
                          simp only at hcn hok
                          subst hcn
                          have hq1 : ¬ (cn : Int) < 0 := by omega
                          have hq2 : ¬ (cn : Int) > 63 := by omega
                          have hq3 : (cn : Int) < 64 := by omega
                          have hq4 : cn < 64 := by omega
                          have hwc := (HW9.out.next BW.out).cell cn b (by have := HIq.out.wr_ _ (List.mem_of_getElem? hlb); simpa using this)
                          have HOk := Lib.hid (HO9.out.next BW.out)
                          have HLB := Lib.hid hlb
                          clear hok hlb
                          by_cases hgr : grF l2 (cn : Int) = true
                          · have hG : Calls Try.prog 42 #[.pointer (some ⟨g, 0, none⟩), .int .i64 0, .int .i64 cn] wq (TellsL true wq) := by have h := o_granted (c := (cn : Int)) HOk.out hml2; rw [hgr] at h; exact h
                            have HN2 := Lib.hid (HN.out.take HIq.out _ HLB.out hgr)
                            clear hgr
                            cases wt
                            · go_wp2_with (go_at_call 42; refine hG.mono ?_; rintro e w9 ⟨rfl, hb9⟩; have hcj9 := (hb9.cell (p := ⟨bb, o + k, none⟩) (World.block_lt_of_cell? _ _ hcj)).trans hcj; have hwc9 := (hb9.cell (p := ⟨gw, cn, none⟩) (World.block_lt_of_cell? _ _ hwc)).trans hwc; have HB9' := Lib.hid hb9; clear hb9)
                              go_roundg (ys.length - (k + 1))
                              case measure => omega
                              case rel => exact ⟨k + 1, n + 1, false || b, by omega, by omega, by go_num, by cases b <;> rfl, by go_num, ⟨HN2.out⟩, ⟨below_next BW.out HB9'.out⟩⟩
                            · go_wp2_with (go_at_call 42; refine hG.mono ?_; rintro e w9 ⟨rfl, hb9⟩; have hcj9 := (hb9.cell (p := ⟨bb, o + k, none⟩) (World.block_lt_of_cell? _ _ hcj)).trans hcj; have hwc9 := (hb9.cell (p := ⟨gw, cn, none⟩) (World.block_lt_of_cell? _ _ hwc)).trans hwc; have HB9' := Lib.hid hb9; clear hb9)
                              go_roundg (ys.length - (k + 1))
                              case measure => omega
                              case rel => exact ⟨k + 1, n + 1, true || b, by omega, by omega, by go_num, by cases b <;> rfl, by go_num, ⟨HN2.out⟩, ⟨below_next BW.out HB9'.out⟩⟩
                          · have hG : Calls Try.prog 42 #[.pointer (some ⟨g, 0, none⟩), .int .i64 0, .int .i64 cn] wq (TellsL false wq) := by have h := o_granted (c := (cn : Int)) HOk.out hml2; rw [Bool.eq_false_iff.2 hgr] at h; exact h
                            have HN2 := Lib.hid (HN.out.skip HIq.out _ HLB.out (Bool.eq_false_iff.2 hgr))
                            clear hgr hwc
                            go_wp2_with (go_at_call 42; refine hG.mono ?_; rintro e w9 ⟨rfl, hb9⟩; have HB9' := Lib.hid hb9; clear hb9)
                            go_roundg (ys.length - (k + 1))
                            case measure => omega
                            case rel => exact ⟨k + 1, n, wt, by omega, by omega, by go_num, rfl, by go_num, ⟨HN2.out⟩, ⟨below_next BW.out HB9'.out⟩⟩
                        · have hltz3 : ¬ (k : Int) < (ys.length : Int) := by omega
                          have hkl : k = ys.length := by omega
                          have hn1 : wt = true → ¬ (n : Int) > 1 := by
                            intro hw
                            cases hx : l2[0]? with
                            | none =>
                              have : l2.length = 0 := by simpa using hx
                              have := HN.out.1
                              have := HYL.out
                              omega
                            | some x =>
                              have h := HN.out.2.2 x hx
                              cases hb : x.2 with
                              | true => have := h.1 hb; omega
                              | false => rw [h.2 hb] at hw; cases hw
                          have hn2 : n = 0 → ys.length = 0 := fun h => by
                            rcases Nat.eq_zero_or_pos k with h0 | h0
                            · omega
                            · have := HN.out.2.1 h0; omega
                          have HKL := Lib.hid hkl
                          have HREL := Lib.hid (show One w.heap.size wr g r l2 ∧ WRow wr gw wb2 ∧ Below w.heap.size w wr from ⟨HO9.out.next BW.out, HW9.out.next BW.out, below_next HB9.out BW.out⟩)
                          clear hkl
                          by_cases hn0 : n = 0
                          · subst hn0
                            have hz0 : ¬ (ys.length : Int) > 0 := by have := hn2 rfl; omega
                            clear hn1 hn2
                            cases wt
                            · go_wp2
                              go_roundg (len - (kk + 1))
                              case measure => omega
                              case rel => exact ⟨kk + 1, l2, wb2, by omega, by omega, by go_num, ⟨HREL.out.1⟩, ⟨HREL.out.2.1⟩, ⟨HIq.out⟩, HL2.out, ⟨HREL.out.2.2⟩⟩
                            · go_wp2
                              go_roundg (len - (kk + 1))
                              case measure => omega
                              case rel => exact ⟨kk + 1, l2, wb2, by omega, by omega, by go_num, ⟨HREL.out.1⟩, ⟨HREL.out.2.1⟩, ⟨HIq.out⟩, HL2.out, ⟨HREL.out.2.2⟩⟩
                          · have hn3 : ((n : Int) == 0) = false := by simp; omega
                            have hn4 : ¬ (n : Int) = 0 := by omega
                            clear hn2 hn0
                            cases wt
                            · clear hn1
                              go_wp2
                              go_roundg (len - (kk + 1))
                              case measure => omega
                              case rel => exact ⟨kk + 1, l2, wb2, by omega, by omega, by go_num, ⟨HREL.out.1⟩, ⟨HREL.out.2.1⟩, ⟨HIq.out⟩, HL2.out, ⟨HREL.out.2.2⟩⟩
                            · have hn5 := hn1 rfl
                              clear hn1
                              go_wp2
                              go_roundg (len - (kk + 1))
                              case measure => omega
                              case rel => exact ⟨kk + 1, l2, wb2, by omega, by omega, by go_num, ⟨HREL.out.1⟩, ⟨HREL.out.2.1⟩, ⟨HIq.out⟩, HL2.out, ⟨HREL.out.2.2⟩⟩
            · have HDR : ∀ W, One w.heap.size W g r l → Calls Try.prog 37 #[.pointer (some ⟨g, 0, none⟩), .int .i64 0, .int .i64 C] W (OneOut w.heap.size g r (dropC l C) (dropA l C) W) := fun W h => o_drop h hml
              go_wp2_with (go_at_call 37; refine (HDR _ HOp.out).mono ?_; rintro e w5' ⟨rfl, hO5, hK5, hB5⟩; have HO5 := Lib.hid hO5; have HW5 := Lib.hid (HWp.out.keepT hK5 (by decide)); have HR5 := Lib.hid (R_keepT HRp.out hK5 (by decide)); have HB5 := Lib.hid (HBp.out.trans hB5); clear hO5 hK5 hB5)
              obtain ⟨l2, wb2, HM⟩ : ∃ l2 wb2, Hid (Mid w.heap.size w w5' g r gw l2 wb2 w7.heap.size u8 gs true C kk) := ⟨dropA l C, wb, Lib.hid ⟨HO5.out, HW5.out, HI.out.drop C, HR5.out, HB5.out, fun c hc => by by_cases e : C = c; exact .inr ⟨rfl, e⟩; exact .inl (gr_drop C (HGS.out c hc) (fun h => e h.symm)), by have := dropA_le l C; omega⟩⟩
              clear HO5 HW5 HR5 HB5 HDR HOp HWp HRp HBp c0 c2
              as_aux_lemma =>
                obtain ⟨A8, c8, e8, hc8, hr8⟩ := Kd.R_reads HM.out.gs_
                subst e8
                have HGC := Lib.hid hr8
                have hml2 : l2.length ≤ 100000 := by have := HM.out.len; omega
                clear hr8
                go_loopg [10] gs.length (fun gg s10 wr => ∃ k : Nat, k ≤ gs.length ∧ gs.length - k ≤ gg ∧ s10 = .int .i64 k ∧ Aside0 (Below w5'.heap.size w5' wr))
                case atStart => exact ⟨0, Nat.zero_le _, by omega, rfl, ⟨Below.refl _ _⟩⟩
                case round =>
                  obtain ⟨k, hkn2, hg2, rfl, HBq⟩ := hrel
                  by_cases hlt2 : k < gs.length
                  · have hj3 : (k : Int) < (gs.length : Int) := by omega
                    have hj4 : ¬ (k : Int) < 0 := by omega
                    have hj5 : k ≤ 9223372036854775807 := by omega
                    obtain ⟨wq, hwq⟩ : ∃ wq : World, wq = wr := ⟨_, rfl⟩
                    subst hwq
                    have hmem : gs.getD k 0 ∈ gs := by rw [List.getD_eq_getElem?_getD, List.getElem?_eq_getElem hlt2]; exact List.getElem_mem hlt2
                    have hor := HM.out.gr _ hmem
                    clear hmem
                    by_cases hgr : grF l2 (gs.getD k 0) = true
                    · clear hor
                      go_wp2
                      refine s_region (fun u => Below wq.drew.heap.size wq.drew u) (by kernel_rfl) 27 (by kernel_rfl) (Below.refl _ _) (fun hS => ?_)
                      have HBd := Lib.hid (below_drew (Below.refl wq.heap.size wq))
                      have HOq := Lib.hid ((HM.out.one.next HBq.out).next HBd.out)
                      have HCq := Lib.hid (Kd.C_below HGC.out (below_next HBq.out HBd.out))
                      have hBw : ∀ u, Below wq.drew.heap.size wq.drew u → Below w.heap.size w u := fun u hu => below_next (below_next (below_next HM.out.below HBq.out) HBd.out) hu
                      have HBw := Lib.hid hBw
                      clear hBw
                      have HBe := Lib.hid (below_next HBq.out HBd.out)
                      generalize hwd : wq.drew = wd at *
                      clear hwd HBd HBq
                      obtain ⟨b, o, e9, hcell⟩ := C_cells HCq.out (by omega)
                      subst e9
                      have hcj := hcell k hlt2
                      clear hcell
                      refine s_take 0 (_) hS rfl (by kernel_rfl) (by kernel_rfl) (by kernel_rfl) (fun _ _ _ h => h) rfl (fun w' hw' => run_move_at _ rfl w') ?_
                      simp only [Act.put, List.setIfInBounds_toArray, List.set_cons_zero, List.set_cons_succ]
                      refine s_take 1 (_) hS rfl (by kernel_rfl) (by kernel_rfl) (by kernel_rfl) (fun _ _ _ h => h) rfl (fun w' hw' => run_move_at _ rfl w') ?_
                      simp only [Act.put, List.setIfInBounds_toArray, List.set_cons_zero, List.set_cons_succ]
                      refine s_take 2 (_) hS rfl (by kernel_rfl) (by kernel_rfl) (by kernel_rfl) (fun _ _ _ h => h) rfl (fun w' hw' => run_move_at _ rfl w') ?_
                      simp only [Act.put, List.setIfInBounds_toArray, List.set_cons_zero, List.set_cons_succ]
                      refine s_take 3 (.pointer (some ⟨b, o + k, none⟩)) hS rfl (by kernel_rfl) (by kernel_rfl) (by kernel_rfl) (fun _ _ _ h => h) rfl (fun w' hw' => by (have hc0 := hj3; have hc1 := hj4; have hc2 := hj5; unfold execOp; simp [go_sem, Act.put, Act.eval, hc0, hc1, hc2])) ?_
                      simp only [Act.put, List.setIfInBounds_toArray, List.set_cons_zero, List.set_cons_succ]
                      refine s_take 4 (.int .i64 (gs.getD k 0)) hS rfl (by kernel_rfl) (by kernel_rfl) (by kernel_rfl) (fun _ _ _ h => h) rfl (fun w' hw' => by (have hc0 := (hw'.cell (p := ⟨b, o + k, none⟩) (World.block_lt_of_cell? _ _ hcj)).trans hcj; unfold execOp; simp [go_sem, Act.put, Act.eval, hc0])) ?_
                      simp only [Act.put, List.setIfInBounds_toArray, List.set_cons_zero, List.set_cons_succ]
                      refine s_call 5 rfl (by kernel_rfl) rfl 42 _ _ Try.func42 (by kernel_rfl) rfl _ _ #[.pointer (some ⟨g, 0, none⟩), .int .i64 0, .int .i64 (gs.getD k 0)] rfl (by simp [Act.put, Act.eval]) ((by have h := o_granted (c := gs.getD k 0) HOq.out hml2; rw [hgr] at h; exact h)) ?_
                      rintro e we ⟨rfl, hbe⟩
                      have hS := hbe
                      refine ⟨_, rfl, hS, ?_⟩
                      simp only [Act.put, List.setIfInBounds_toArray, List.set_cons_zero, List.set_cons_succ]
                      refine s_take 6 (.bool false) hS rfl (by kernel_rfl) (by kernel_rfl) (by kernel_rfl) (fun _ _ _ h => h) rfl (fun w' hw' => by (unfold execOp; simp [go_sem, Act.put, Act.eval])) ?_
                      simp only [Act.put, List.setIfInBounds_toArray, List.set_cons_zero, List.set_cons_succ]
                      refine s_take 7 (_) hS rfl (by kernel_rfl) (by kernel_rfl) (by kernel_rfl) (fun _ _ _ h => h) rfl (fun w' hw' => run_move_at _ rfl w') ?_
                      simp only [Act.put, List.setIfInBounds_toArray, List.set_cons_zero, List.set_cons_succ]
                      refine s_skip 8 hS rfl (by kernel_rfl) (by kernel_rfl) (by kernel_rfl) (fun _ _ _ h => h) rfl ?_
                      simp only [Act.put, List.setIfInBounds_toArray, List.set_cons_zero, List.set_cons_succ]
                      refine s_skip 9 hS rfl (by kernel_rfl) (by kernel_rfl) (by kernel_rfl) (fun _ _ _ h => h) rfl ?_
                      simp only [Act.put, List.setIfInBounds_toArray, List.set_cons_zero, List.set_cons_succ]
                      refine s_skip 10 hS rfl (by kernel_rfl) (by kernel_rfl) (by kernel_rfl) (fun _ _ _ h => h) rfl ?_
                      simp only [Act.put, List.setIfInBounds_toArray, List.set_cons_zero, List.set_cons_succ]
                      refine s_skip 11 hS rfl (by kernel_rfl) (by kernel_rfl) (by kernel_rfl) (fun _ _ _ h => h) rfl ?_
                      simp only [Act.put, List.setIfInBounds_toArray, List.set_cons_zero, List.set_cons_succ]
                      refine s_skip 12 hS rfl (by kernel_rfl) (by kernel_rfl) (by kernel_rfl) (fun _ _ _ h => h) rfl ?_
                      simp only [Act.put, List.setIfInBounds_toArray, List.set_cons_zero, List.set_cons_succ]
                      refine s_skip 13 hS rfl (by kernel_rfl) (by kernel_rfl) (by kernel_rfl) (fun _ _ _ h => h) rfl ?_
                      simp only [Act.put, List.setIfInBounds_toArray, List.set_cons_zero, List.set_cons_succ]
                      refine s_skip 14 hS rfl (by kernel_rfl) (by kernel_rfl) (by kernel_rfl) (fun _ _ _ h => h) rfl ?_
                      simp only [Act.put, List.setIfInBounds_toArray, List.set_cons_zero, List.set_cons_succ]
                      refine s_skip 15 hS rfl (by kernel_rfl) (by kernel_rfl) (by kernel_rfl) (fun _ _ _ h => h) rfl ?_
                      simp only [Act.put, List.setIfInBounds_toArray, List.set_cons_zero, List.set_cons_succ]
                      refine s_skip 16 hS rfl (by kernel_rfl) (by kernel_rfl) (by kernel_rfl) (fun _ _ _ h => h) rfl ?_
                      simp only [Act.put, List.setIfInBounds_toArray, List.set_cons_zero, List.set_cons_succ]
                      refine s_skip 17 hS rfl (by kernel_rfl) (by kernel_rfl) (by kernel_rfl) (fun _ _ _ h => h) rfl ?_
                      simp only [Act.put, List.setIfInBounds_toArray, List.set_cons_zero, List.set_cons_succ]
                      refine s_skip 18 hS rfl (by kernel_rfl) (by kernel_rfl) (by kernel_rfl) (fun _ _ _ h => h) rfl ?_
                      simp only [Act.put, List.setIfInBounds_toArray, List.set_cons_zero, List.set_cons_succ]
                      refine s_skip 19 hS rfl (by kernel_rfl) (by kernel_rfl) (by kernel_rfl) (fun _ _ _ h => h) rfl ?_
                      simp only [Act.put, List.setIfInBounds_toArray, List.set_cons_zero, List.set_cons_succ]
                      refine s_skip 20 hS rfl (by kernel_rfl) (by kernel_rfl) (by kernel_rfl) (fun _ _ _ h => h) rfl ?_
                      simp only [Act.put, List.setIfInBounds_toArray, List.set_cons_zero, List.set_cons_succ]
                      refine s_skip 21 hS rfl (by kernel_rfl) (by kernel_rfl) (by kernel_rfl) (fun _ _ _ h => h) rfl ?_
                      simp only [Act.put, List.setIfInBounds_toArray, List.set_cons_zero, List.set_cons_succ]
                      refine s_skip 22 hS rfl (by kernel_rfl) (by kernel_rfl) (by kernel_rfl) (fun _ _ _ h => h) rfl ?_
                      simp only [Act.put, List.setIfInBounds_toArray, List.set_cons_zero, List.set_cons_succ]
                      refine s_skip 23 hS rfl (by kernel_rfl) (by kernel_rfl) (by kernel_rfl) (fun _ _ _ h => h) rfl ?_
                      simp only [Act.put, List.setIfInBounds_toArray, List.set_cons_zero, List.set_cons_succ]
                      refine s_skip 24 hS rfl (by kernel_rfl) (by kernel_rfl) (by kernel_rfl) (fun _ _ _ h => h) rfl ?_
                      simp only [Act.put, List.setIfInBounds_toArray, List.set_cons_zero, List.set_cons_succ]
                      refine s_skip 25 hS rfl (by kernel_rfl) (by kernel_rfl) (by kernel_rfl) (fun _ _ _ h => h) rfl ?_
                      simp only [Act.put, List.setIfInBounds_toArray, List.set_cons_zero, List.set_cons_succ]
                      refine s_take 26 (.bool false) hS rfl (by kernel_rfl) (by kernel_rfl) (by kernel_rfl) (fun _ _ _ h => h) rfl (fun w' hw' => by (unfold execOp; simp [go_sem, Act.put, Act.eval])) ?_
                      simp only [Act.put, List.setIfInBounds_toArray, List.set_cons_zero, List.set_cons_succ]
                      refine s_done (by kernel_rfl) ?_
                      have HBf := Lib.hid (below_next HBe.out hbe)
                      clear hS hbe HBe HOq HCq HBw hcj
                      go_wp2
                      go_roundg (gs.length - (k + 1))
                      case measure => omega
                      case rel => exact ⟨k + 1, by omega, by omega, by go_num, ⟨HBf.out⟩⟩
                    · rw [Bool.not_eq_true] at hgr
                      rcases hor with hor | ⟨hd, hC⟩
                      · rw [hgr] at hor; cases hor
                      · first
                        | exact absurd hd (by decide)
                        | (have HCC := Lib.hid hC
                           clear hd hC
                           go_wp2
                           refine s_region (fun u => Below wq.drew.heap.size wq.drew u) (by kernel_rfl) 27 (by kernel_rfl) (Below.refl _ _) (fun hS => ?_)
                           have HBd := Lib.hid (below_drew (Below.refl wq.heap.size wq))
                           have HOq := Lib.hid ((HM.out.one.next HBq.out).next HBd.out)
                           have HCq := Lib.hid (Kd.C_below HGC.out (below_next HBq.out HBd.out))
                           have hBw : ∀ u, Below wq.drew.heap.size wq.drew u → Below w.heap.size w u := fun u hu => below_next (below_next (below_next HM.out.below HBq.out) HBd.out) hu
                           have HBw := Lib.hid hBw
                           clear hBw
                           have HBe := Lib.hid (below_next HBq.out HBd.out)
                           generalize hwd : wq.drew = wd at *
                           clear hwd HBd HBq
                           obtain ⟨b, o, e9, hcell⟩ := C_cells HCq.out (by omega)
                           subst e9
                           have hcj := hcell k hlt2
                           clear hcell
                           refine s_take 0 (_) hS rfl (by kernel_rfl) (by kernel_rfl) (by kernel_rfl) (fun _ _ _ h => h) rfl (fun w' hw' => run_move_at _ rfl w') ?_
                           simp only [Act.put, List.setIfInBounds_toArray, List.set_cons_zero, List.set_cons_succ]
                           refine s_take 1 (_) hS rfl (by kernel_rfl) (by kernel_rfl) (by kernel_rfl) (fun _ _ _ h => h) rfl (fun w' hw' => run_move_at _ rfl w') ?_
                           simp only [Act.put, List.setIfInBounds_toArray, List.set_cons_zero, List.set_cons_succ]
                           refine s_take 2 (_) hS rfl (by kernel_rfl) (by kernel_rfl) (by kernel_rfl) (fun _ _ _ h => h) rfl (fun w' hw' => run_move_at _ rfl w') ?_
                           simp only [Act.put, List.setIfInBounds_toArray, List.set_cons_zero, List.set_cons_succ]
                           refine s_take 3 (.pointer (some ⟨b, o + k, none⟩)) hS rfl (by kernel_rfl) (by kernel_rfl) (by kernel_rfl) (fun _ _ _ h => h) rfl (fun w' hw' => by (have hc0 := hj3; have hc1 := hj4; have hc2 := hj5; unfold execOp; simp [go_sem, Act.put, Act.eval, hc0, hc1, hc2])) ?_
                           simp only [Act.put, List.setIfInBounds_toArray, List.set_cons_zero, List.set_cons_succ]
                           refine s_take 4 (.int .i64 (gs.getD k 0)) hS rfl (by kernel_rfl) (by kernel_rfl) (by kernel_rfl) (fun _ _ _ h => h) rfl (fun w' hw' => by (have hc0 := (hw'.cell (p := ⟨b, o + k, none⟩) (World.block_lt_of_cell? _ _ hcj)).trans hcj; unfold execOp; simp [go_sem, Act.put, Act.eval, hc0])) ?_
                           simp only [Act.put, List.setIfInBounds_toArray, List.set_cons_zero, List.set_cons_succ]
                           refine s_call 5 rfl (by kernel_rfl) rfl 42 _ _ Try.func42 (by kernel_rfl) rfl _ _ #[.pointer (some ⟨g, 0, none⟩), .int .i64 0, .int .i64 (gs.getD k 0)] rfl (by simp [Act.put, Act.eval]) ((by have h := o_granted (c := gs.getD k 0) HOq.out hml2; rw [hgr] at h; exact h)) ?_
                           rintro e we ⟨rfl, hbe⟩
                           have hS := hbe
                           refine ⟨_, rfl, hS, ?_⟩
                           simp only [Act.put, List.setIfInBounds_toArray, List.set_cons_zero, List.set_cons_succ]
                           refine s_take 6 (.bool true) hS rfl (by kernel_rfl) (by kernel_rfl) (by kernel_rfl) (fun _ _ _ h => h) rfl (fun w' hw' => by (unfold execOp; simp [go_sem, Act.put, Act.eval])) ?_
                           simp only [Act.put, List.setIfInBounds_toArray, List.set_cons_zero, List.set_cons_succ]
                           refine s_take 7 (_) hS rfl (by kernel_rfl) (by kernel_rfl) (by kernel_rfl) (fun _ _ _ h => h) rfl (fun w' hw' => run_move_at _ rfl w') ?_
                           simp only [Act.put, List.setIfInBounds_toArray, List.set_cons_zero, List.set_cons_succ]
                           refine s_take 8 (_) hS rfl (by kernel_rfl) (by kernel_rfl) (by kernel_rfl) (fun _ _ _ h => h) rfl (fun w' hw' => run_move_at _ rfl w') ?_
                           simp only [Act.put, List.setIfInBounds_toArray, List.set_cons_zero, List.set_cons_succ]
                           refine s_take 9 (_) hS rfl (by kernel_rfl) (by kernel_rfl) (by kernel_rfl) (fun _ _ _ h => h) rfl (fun w' hw' => run_move_at _ rfl w') ?_
                           simp only [Act.put, List.setIfInBounds_toArray, List.set_cons_zero, List.set_cons_succ]
                           refine s_take 10 (.pointer (some (ad.add (kk * 4)))) hS rfl (by kernel_rfl) (by kernel_rfl) (by kernel_rfl) (fun _ _ _ h => h) rfl (fun w' hw' => by (have hc0 := hltz; have hc1 := hk4; have hc2 := hk5; unfold execOp; simp [go_sem, Act.put, Act.eval, hc0, hc1, hc2])) ?_
                           simp only [Act.put, List.setIfInBounds_toArray, List.set_cons_zero, List.set_cons_succ]
                           refine s_take 11 (.pointer (some (ad.add (kk * 4)))) hS rfl (by kernel_rfl) (by kernel_rfl) (by kernel_rfl) (fun _ _ _ h => h) rfl (fun w' hw' => by (unfold execOp; simp [go_sem, Act.put, Act.eval])) ?_
                           simp only [Act.put, List.setIfInBounds_toArray, List.set_cons_zero, List.set_cons_succ]
                           refine s_take 12 (.bool true) hS rfl (by kernel_rfl) (by kernel_rfl) (by kernel_rfl) (fun _ _ _ h => h) rfl (fun w' hw' => by (have hc0 := (HDC.out w' (HBw.out w' hw')).1; unfold execOp; simp [go_sem, Act.put, Act.eval, hc0])) ?_
                           simp only [Act.put, List.setIfInBounds_toArray, List.set_cons_zero, List.set_cons_succ]
                           refine s_take 13 (_) hS rfl (by kernel_rfl) (by kernel_rfl) (by kernel_rfl) (fun _ _ _ h => h) rfl (fun w' hw' => run_move_at _ rfl w') ?_
                           simp only [Act.put, List.setIfInBounds_toArray, List.set_cons_zero, List.set_cons_succ]
                           refine s_take 14 (_) hS rfl (by kernel_rfl) (by kernel_rfl) (by kernel_rfl) (fun _ _ _ h => h) rfl (fun w' hw' => run_move_at _ rfl w') ?_
                           simp only [Act.put, List.setIfInBounds_toArray, List.set_cons_zero, List.set_cons_succ]
                           refine s_take 15 (_) hS rfl (by kernel_rfl) (by kernel_rfl) (by kernel_rfl) (fun _ _ _ h => h) rfl (fun w' hw' => run_move_at _ rfl w') ?_
                           simp only [Act.put, List.setIfInBounds_toArray, List.set_cons_zero, List.set_cons_succ]
                           refine s_take 16 (.pointer (some (ad.add (kk * 4)))) hS rfl (by kernel_rfl) (by kernel_rfl) (by kernel_rfl) (fun _ _ _ h => h) rfl (fun w' hw' => by (have hc0 := hltz; have hc1 := hk4; have hc2 := hk5; unfold execOp; simp [go_sem, Act.put, Act.eval, hc0, hc1, hc2])) ?_
                           simp only [Act.put, List.setIfInBounds_toArray, List.set_cons_zero, List.set_cons_succ]
                           refine s_take 17 (.pointer (some ⟨(ad.add (kk * 4)).block, (ad.add (kk * 4)).off + 2, none⟩)) hS rfl (by kernel_rfl) (by kernel_rfl) (by kernel_rfl) (fun _ _ _ h => h) rfl (fun w' hw' => by (unfold execOp; simp [go_sem, Act.put, Act.eval])) ?_
                           simp only [Act.put, List.setIfInBounds_toArray, List.set_cons_zero, List.set_cons_succ]
                           refine s_take 18 (.int .i64 C) hS rfl (by kernel_rfl) (by kernel_rfl) (by kernel_rfl) (fun _ _ _ h => h) rfl (fun w' hw' => by (have hc0 := (HDC.out w' (HBw.out w' hw')).2.1; unfold execOp; simp [go_sem, Act.put, Act.eval, hc0])) ?_
                           simp only [Act.put, List.setIfInBounds_toArray, List.set_cons_zero, List.set_cons_succ]
                           refine s_take 19 (_) hS rfl (by kernel_rfl) (by kernel_rfl) (by kernel_rfl) (fun _ _ _ h => h) rfl (fun w' hw' => run_move_at _ rfl w') ?_
                           simp only [Act.put, List.setIfInBounds_toArray, List.set_cons_zero, List.set_cons_succ]
                           refine s_take 20 (_) hS rfl (by kernel_rfl) (by kernel_rfl) (by kernel_rfl) (fun _ _ _ h => h) rfl (fun w' hw' => run_move_at _ rfl w') ?_
                           simp only [Act.put, List.setIfInBounds_toArray, List.set_cons_zero, List.set_cons_succ]
                           refine s_take 21 (.pointer (some ⟨b, o + k, none⟩)) hS rfl (by kernel_rfl) (by kernel_rfl) (by kernel_rfl) (fun _ _ _ h => h) rfl (fun w' hw' => by (have hc0 := hj3; have hc1 := hj4; have hc2 := hj5; unfold execOp; simp [go_sem, Act.put, Act.eval, hc0, hc1, hc2])) ?_
                           simp only [Act.put, List.setIfInBounds_toArray, List.set_cons_zero, List.set_cons_succ]
                           refine s_take 22 (.int .i64 (gs.getD k 0)) hS rfl (by kernel_rfl) (by kernel_rfl) (by kernel_rfl) (fun _ _ _ h => h) rfl (fun w' hw' => by (have hc0 := (hw'.cell (p := ⟨b, o + k, none⟩) (World.block_lt_of_cell? _ _ hcj)).trans hcj; unfold execOp; simp [go_sem, Act.put, Act.eval, hc0])) ?_
                           simp only [Act.put, List.setIfInBounds_toArray, List.set_cons_zero, List.set_cons_succ]
                           refine s_take 23 (.bool true) hS rfl (by kernel_rfl) (by kernel_rfl) (by kernel_rfl) (fun _ _ _ h => h) rfl (fun w' hw' => by (have hc0 := HCC.out; unfold execOp; simp [go_sem, Act.put, Act.eval, hc0])) ?_
                           simp only [Act.put, List.setIfInBounds_toArray, List.set_cons_zero, List.set_cons_succ]
                           refine s_take 24 (.bool true) hS rfl (by kernel_rfl) (by kernel_rfl) (by kernel_rfl) (fun _ _ _ h => h) rfl (fun w' hw' => by (unfold execOp; simp [go_sem, Act.put, Act.eval])) ?_
                           simp only [Act.put, List.setIfInBounds_toArray, List.set_cons_zero, List.set_cons_succ]
                           refine s_take 25 (.bool false) hS rfl (by kernel_rfl) (by kernel_rfl) (by kernel_rfl) (fun _ _ _ h => h) rfl (fun w' hw' => by (unfold execOp; simp [go_sem, Act.put, Act.eval])) ?_
                           simp only [Act.put, List.setIfInBounds_toArray, List.set_cons_zero, List.set_cons_succ]
                           refine s_take 26 (.bool false) hS rfl (by kernel_rfl) (by kernel_rfl) (by kernel_rfl) (fun _ _ _ h => h) rfl (fun w' hw' => by (unfold execOp; simp [go_sem, Act.put, Act.eval])) ?_
                           simp only [Act.put, List.setIfInBounds_toArray, List.set_cons_zero, List.set_cons_succ]
                           refine s_done (by kernel_rfl) ?_
                           have HBf := Lib.hid (below_next HBe.out hbe)
                           clear hS hbe HBe HOq HCq HBw hcj
                           go_wp2
                           go_roundg (gs.length - (k + 1))
                           case measure => omega
                           case rel => exact ⟨k + 1, by omega, by omega, by go_num, ⟨HBf.out⟩⟩)
                  · have hltz2 : ¬ (k : Int) < (gs.length : Int) := by omega
                    obtain ⟨wq, hwq⟩ : ∃ wq : World, wq = wr := ⟨_, rfl⟩
                    subst hwq
                    have HOq := Lib.hid (HM.out.one.next HBq.out)
                    have HWq := Lib.hid (HM.out.wrow.next HBq.out)
                    have HIq := Lib.hid HM.out.inv
                    have HBx := Lib.hid (below_next HM.out.below HBq.out)
                    have hl2 := HM.out.len
                    obtain ⟨ys, hys⟩ : ∃ ys, ys = whoF l2 := ⟨_, rfl⟩
                    have hyl : ys.length = l2.length := by rw [hys]; unfold whoF; exact List.length_map ..
                    have hrow : Calls Try.prog 44 #[.pointer (some ⟨g, 0, none⟩), .int .i64 0] wq (GivesI ys wq) := by rw [hys]; exact o_row HOq.out hml2
                    have HAT2 := Lib.hid (show ∀ k : Nat, k < ys.length → ∃ b, l2[k]? = some (ys.getD k 0, b) from by rw [hys]; exact whoF_at l2)
                    have HL2 := Lib.hid hl2
                    have HYL := Lib.hid hyl
                    have hyl2 : ys.length ≤ 100 := by omega
                    clear hys HM HGC HBq hl2 hyl
                    go_wp2_with (go_at_call 44; refine hrow.mono ?_; rintro e w6 ⟨v9, rfl, ho9, hb9⟩; obtain ⟨A9, c9, e9, hc9, hr9⟩ := Kd.R_reads ho9; subst e9; have HR9 := Lib.hid hr9; have HO9 := Lib.hid (HOq.out.next hb9); have HW9 := Lib.hid (HWq.out.next hb9); have HB9 := Lib.hid (below_next HBx.out hb9); clear ho9 hr9 hb9 HOq HWq HBx)
                    clear hrow
                    go_loopg [12, 13, 14] ys.length (fun gg s12 s13 s14 wr => ∃ (k n : Nat) (wt : Bool), k ≤ ys.length ∧ ys.length - k ≤ gg ∧ s12 = .int .i64 n ∧ s13 = .bool wt ∧ s14 = .int .i64 k ∧ Aside0 (Nw l2 k n wt) ∧ Aside0 (Below w6.heap.size w6 wr))
                    case atStart => exact ⟨0, 0, false, Nat.zero_le _, by omega, rfl, rfl, rfl, ⟨Nat.le_refl _, fun h => absurd h (by omega), fun _ _ => ⟨fun _ => by omega, fun _ => rfl⟩⟩, ⟨Below.refl _ _⟩⟩
                    case round =>
                      obtain ⟨k, n, wt, hkn3, hg3, rfl, rfl, rfl, HN, BW⟩ := hrel
                      by_cases hlt3 : k < ys.length
                      · have hj3 : (k : Int) < (ys.length : Int) := by omega
                        have hj4 : ¬ (k : Int) < 0 := by omega
                        have hj5 : k ≤ 9223372036854775807 := by omega
                        obtain ⟨wq, hwq⟩ : ∃ wq : World, wq = wr := ⟨_, rfl⟩
                        subst hwq
                        have hnk : n ≤ 100 := by have := HN.out.1; omega
                        obtain ⟨b, hlb⟩ := HAT2.out k hlt3
                        obtain ⟨bb, o, e9, hcell⟩ := C_cells (Kd.C_below HR9.out BW.out) (by omega)
                        subst e9
                        have hcj := hcell k hlt3
                        clear hcell
                        obtain ⟨c, hcd⟩ : ∃ c, c = ys.getD k 0 := ⟨_, rfl⟩
                        rw [← hcd] at hcj hlb
                        clear hcd
                        have hok := HIq.out.ok _ (List.mem_of_getElem? hlb)
                        obtain ⟨cn, hcn⟩ := Int.eq_ofNat_of_zero_le hok.1
                        simp only at hcn hok
                        subst hcn
                        have hq1 : ¬ (cn : Int) < 0 := by omega
                        have hq2 : ¬ (cn : Int) > 63 := by omega
                        have hq3 : (cn : Int) < 64 := by omega
                        have hq4 : cn < 64 := by omega
                        have hwc := (HW9.out.next BW.out).cell cn b (by have := HIq.out.wr_ _ (List.mem_of_getElem? hlb); simpa using this)
                        have HOk := Lib.hid (HO9.out.next BW.out)
                        have HLB := Lib.hid hlb
                        clear hok hlb
                        by_cases hgr : grF l2 (cn : Int) = true
                        · have hG : Calls Try.prog 42 #[.pointer (some ⟨g, 0, none⟩), .int .i64 0, .int .i64 cn] wq (TellsL true wq) := by have h := o_granted (c := (cn : Int)) HOk.out hml2; rw [hgr] at h; exact h
                          have HN2 := Lib.hid (HN.out.take HIq.out _ HLB.out hgr)
                          clear hgr
                          cases wt
                          · go_wp2_with (go_at_call 42; refine hG.mono ?_; rintro e w9 ⟨rfl, hb9⟩; have hcj9 := (hb9.cell (p := ⟨bb, o + k, none⟩) (World.block_lt_of_cell? _ _ hcj)).trans hcj; have hwc9 := (hb9.cell (p := ⟨gw, cn, none⟩) (World.block_lt_of_cell? _ _ hwc)).trans hwc; have HB9' := Lib.hid hb9; clear hb9)
                            go_roundg (ys.length - (k + 1))
                            case measure => omega
                            case rel => exact ⟨k + 1, n + 1, false || b, by omega, by omega, by go_num, by cases b <;> rfl, by go_num, ⟨HN2.out⟩, ⟨below_next BW.out HB9'.out⟩⟩
                          · go_wp2_with (go_at_call 42; refine hG.mono ?_; rintro e w9 ⟨rfl, hb9⟩; have hcj9 := (hb9.cell (p := ⟨bb, o + k, none⟩) (World.block_lt_of_cell? _ _ hcj)).trans hcj; have hwc9 := (hb9.cell (p := ⟨gw, cn, none⟩) (World.block_lt_of_cell? _ _ hwc)).trans hwc; have HB9' := Lib.hid hb9; clear hb9)
                            go_roundg (ys.length - (k + 1))
                            case measure => omega
                            case rel => exact ⟨k + 1, n + 1, true || b, by omega, by omega, by go_num, by cases b <;> rfl, by go_num, ⟨HN2.out⟩, ⟨below_next BW.out HB9'.out⟩⟩
                        · have hG : Calls Try.prog 42 #[.pointer (some ⟨g, 0, none⟩), .int .i64 0, .int .i64 cn] wq (TellsL false wq) := by have h := o_granted (c := (cn : Int)) HOk.out hml2; rw [Bool.eq_false_iff.2 hgr] at h; exact h
                          have HN2 := Lib.hid (HN.out.skip HIq.out _ HLB.out (Bool.eq_false_iff.2 hgr))
                          clear hgr hwc
                          go_wp2_with (go_at_call 42; refine hG.mono ?_; rintro e w9 ⟨rfl, hb9⟩; have HB9' := Lib.hid hb9; clear hb9)
                          go_roundg (ys.length - (k + 1))
                          case measure => omega
                          case rel => exact ⟨k + 1, n, wt, by omega, by omega, by go_num, rfl, by go_num, ⟨HN2.out⟩, ⟨below_next BW.out HB9'.out⟩⟩
                      · have hltz3 : ¬ (k : Int) < (ys.length : Int) := by omega
                        have hkl : k = ys.length := by omega
                        have hn1 : wt = true → ¬ (n : Int) > 1 := by
                          intro hw
                          cases hx : l2[0]? with
                          | none =>
                            have : l2.length = 0 := by simpa using hx
                            have := HN.out.1
                            have := HYL.out
                            omega
                          | some x =>
                            have h := HN.out.2.2 x hx
                            cases hb : x.2 with
                            | true => have := h.1 hb; omega
                            | false => rw [h.2 hb] at hw; cases hw
                        have hn2 : n = 0 → ys.length = 0 := fun h => by
                          rcases Nat.eq_zero_or_pos k with h0 | h0
                          · omega
                          · have := HN.out.2.1 h0; omega
                        have HKL := Lib.hid hkl
                        have HREL := Lib.hid (show One w.heap.size wr g r l2 ∧ WRow wr gw wb2 ∧ Below w.heap.size w wr from ⟨HO9.out.next BW.out, HW9.out.next BW.out, below_next HB9.out BW.out⟩)
                        clear hkl
                        by_cases hn0 : n = 0
                        · subst hn0
                          have hz0 : ¬ (ys.length : Int) > 0 := by have := hn2 rfl; omega
                          clear hn1 hn2
                          cases wt
                          · go_wp2
                            go_roundg (len - (kk + 1))
                            case measure => omega
                            case rel => exact ⟨kk + 1, l2, wb2, by omega, by omega, by go_num, ⟨HREL.out.1⟩, ⟨HREL.out.2.1⟩, ⟨HIq.out⟩, HL2.out, ⟨HREL.out.2.2⟩⟩
                          · go_wp2
                            go_roundg (len - (kk + 1))
                            case measure => omega
                            case rel => exact ⟨kk + 1, l2, wb2, by omega, by omega, by go_num, ⟨HREL.out.1⟩, ⟨HREL.out.2.1⟩, ⟨HIq.out⟩, HL2.out, ⟨HREL.out.2.2⟩⟩
                        · have hn3 : ((n : Int) == 0) = false := by simp; omega
                          have hn4 : ¬ (n : Int) = 0 := by omega
                          clear hn2 hn0
                          cases wt
                          · clear hn1
                            go_wp2
                            go_roundg (len - (kk + 1))
                            case measure => omega
                            case rel => exact ⟨kk + 1, l2, wb2, by omega, by omega, by go_num, ⟨HREL.out.1⟩, ⟨HREL.out.2.1⟩, ⟨HIq.out⟩, HL2.out, ⟨HREL.out.2.2⟩⟩
                          · have hn5 := hn1 rfl
                            clear hn1
                            go_wp2
                            go_roundg (len - (kk + 1))
                            case measure => omega
                            case rel => exact ⟨kk + 1, l2, wb2, by omega, by omega, by go_num, ⟨HREL.out.1⟩, ⟨HREL.out.2.1⟩, ⟨HIq.out⟩, HL2.out, ⟨HREL.out.2.2⟩⟩
      · have hltz : ¬ (kk : Int) < (len : Int) := by omega
        have hml : l.length ≤ 100000 := by omega
        as_aux_lemma =>
          obtain ⟨xs, hxs⟩ : ∃ xs, xs = whoF l := ⟨_, rfl⟩
          have hxl : xs.length = l.length := by rw [hxs]; unfold whoF; exact List.length_map ..
          have hrow : Calls Try.prog 44 #[.pointer (some ⟨g, 0, none⟩), .int .i64 0] wr (GivesI xs wr) := by rw [hxs]; exact o_row HO.out hml
          have HAT2 := Lib.hid (show ∀ k : Nat, k < xs.length → ∃ b, l[k]? = some (xs.getD k 0, b) from by rw [hxs]; exact whoF_at l)
          clear hxs
          have HXL := Lib.hid hxl
          have hxl2 : xs.length ≤ 80 := by omega
          clear hxl
          go_wp2_with (go_at_call 44; refine hrow.mono ?_; rintro e w7 ⟨v7, rfl, ho7, hb7⟩; obtain ⟨A7, c7, e7⟩ := Kd.R_slice ho7; subst e7; have HR7 := Lib.hid ho7; have HO7 := Lib.hid (HO.out.next hb7); have HB7 := Lib.hid (below_next HB.out hb7); clear ho7 hb7 HO HW HB)
          clear hrow
          obtain ⟨bR, hbR⟩ : ∃ bR, bR = wr.heap.size := ⟨_, rfl⟩
          rw [← hbR] at HR7
          clear hbR
          go_loopg [16] xs.length (fun gg s16 wr => ∃ k : Nat, k ≤ xs.length ∧ xs.length - k ≤ gg ∧ s16 = .int .i64 k ∧ Aside0 (One w.heap.size wr g r (l.drop k)) ∧ Aside0 (Kd.R (Kd.int .i64) 3 wr bR (fun _ => True) (.slice A7 xs.length c7) xs) ∧ Aside0 (Below w.heap.size w wr))
          case atStart => exact ⟨0, Nat.zero_le _, by omega, rfl, ⟨HO7.out⟩, ⟨HR7.out⟩, ⟨HB7.out⟩⟩
          case round =>
            clear HO7 HR7 HB7
            obtain ⟨k, hkn2, hg2, rfl, HO1, HR1, HB1⟩ := hrel
            by_cases hlt2 : k < xs.length
            · have hj3 : (k : Int) < (xs.length : Int) := by omega
              have hj4 : ¬ (k : Int) < 0 := by omega
              have hj5 : k ≤ 9223372036854775807 := by omega
              obtain ⟨b, hlb⟩ := HAT2.out k hlt2
              obtain ⟨A9, c9, e9, hc9, hr9⟩ := Kd.R_reads HR1.out
              obtain ⟨rfl, -, rfl⟩ := Value.slice.inj e9
              obtain ⟨bb, o, e8, hcell⟩ := C_cells hr9 (by omega)
              subst e8
              have hcj := hcell k hlt2
              clear hcell hr9 e9
              obtain ⟨c, hcd⟩ : ∃ c, c = xs.getD k 0 := ⟨_, rfl⟩
              rw [← hcd] at hcj hlb
              clear hcd
              have hkl : k < l.length := by have := HXL.out; omega
              have hdrop : l.drop k = (c, b) :: l.drop (k + 1) := by
                rw [List.drop_eq_getElem_cons hkl]
                have := List.getElem?_eq_getElem hkl
                rw [hlb] at this
                rw [← Option.some.inj this]
              have hok := HI.out.ok _ (List.mem_of_getElem? hlb)
              have hgr : grF (l.drop k) c = true := by rw [hdrop]; exact gr_first (a := (c, b))
              have hat : atF (l.drop k) c = ((0 : Nat) : Int) := by rw [hdrop]; exact at_hit (b := b) rfl (fun i _ hi => absurd hi (Nat.not_lt_zero _))
              have hml3 : (l.drop k).length ≤ 100000 := by rw [List.length_drop]; omega
              have hG : Calls Try.prog 42 #[.pointer (some ⟨g, 0, none⟩), .int .i64 0, .int .i64 c] wr (TellsL true wr) := by have h := o_granted (c := c) HO1.out hml3; rw [hgr] at h; exact h
              have hD : ∀ W, One w.heap.size W g r (l.drop k) → Calls Try.prog 37 #[.pointer (some ⟨g, 0, none⟩), .int .i64 0, .int .i64 c] W (OneOut w.heap.size g r 0 (l.drop (k + 1)) W) := fun W h => by
                have h' := o_drop (c := c) h hml3
                have hc : okC c = true := (okC_true c).2 hok
                have e1 : dropC (l.drop k) c = 0 := by unfold dropC; rw [if_pos hc, hat, if_neg (by omega)]
                have e2 : dropA (l.drop k) c = l.drop (k + 1) := by unfold dropA; rw [if_pos hc, hat, if_neg (by omega), hdrop]; rfl
                rw [e1, e2] at h'
                exact h'
              have HHD := Lib.hid hD
              clear hlb hdrop hok hgr hat hD
              go_wp2_with (first
                | (go_at_call 42; refine hG.mono ?_; rintro e w8 ⟨rfl, hb8⟩; have hcj8 := (hb8.cell (p := ⟨bb, o + k, none⟩) (World.block_lt_of_cell? _ _ hcj)).trans hcj; have HO8 := Lib.hid (HO1.out.next hb8); have HR8 := Lib.hid (Kd.R_below HR1.out hb8); have HB8 := Lib.hid (below_next HB1.out hb8); clear hb8)
                | (go_at_call 37; refine (HHD.out _ HO8.out).mono ?_; rintro e w9 ⟨rfl, hO9, hK9, hB9⟩; have HO9 := Lib.hid hO9; have HR9 := Lib.hid (R_keepT HR8.out hK9 (by decide)); have HB9 := Lib.hid (HB8.out.trans hB9); clear hO9 hK9 hB9))
              go_roundg (xs.length - (k + 1))
              case measure => omega
              case rel => exact ⟨k + 1, by omega, by omega, by go_num, ⟨HO9.out⟩, ⟨HR9.out⟩, ⟨HB9.out⟩⟩
            · have hltz2 : ¬ (k : Int) < (xs.length : Int) := by omega
              have hF : Calls Try.prog 41 #[.pointer (some ⟨g, 0, none⟩)] wr (TellsL true wr) := by
                have h := o_free HO1.out
                rw [List.drop_eq_nil_of_le (by have := HXL.out; omega)] at h
                exact h
              go_wp2_with (first
                | (go_at_call 41; refine hF.mono ?_; rintro e w8 ⟨rfl, hb8⟩; have HB8 := Lib.hid (below_next HB1.out hb8); clear hb8)
                | (go_at_call 35; refine (hkn _).mono ?_; rintro e w9 ⟨rfl, hb9⟩; have HB9 := Lib.hid (below_next HB8.out hb9); clear hb9))
              go_ret
              exact ⟨rfl, HB9.out⟩
end Go.Proofs.Ytoiiacbbfhlocaa.HLa
