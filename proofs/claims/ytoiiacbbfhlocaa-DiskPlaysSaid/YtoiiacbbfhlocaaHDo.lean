/- Layer 6: the walk of DiskPlays. -/
import Derived.Test.YtoiiacbbfhlocaaPDb
set_option linter.unusedVariables false
set_option linter.unusedSimpArgs false
namespace Go.Proofs.Ytoiiacbbfhlocaa.HDa
open Go.RowKit Go.Proofs.YtoiiacbbfhlocaaW.PrintWords Go.Proofs.YtoiiacbbfhlocaaW.PrintLast Go.Proofs.YtoiiacbbfhlocaaW.PrintMore Go.Proofs.Ytoiiacbbfhlocaa.Kit
theorem d6_all {w : World} {a : Option Addr} {i : Nat} {x : D6} (h : D6At w a i x) : ∃ ad : Addr, a = some ad ∧ ∀ W, Below w.heap.size w W → W.cell? (ad.add (i * 6)) = some (.int .i64 x.what) ∧ W.cell? ⟨(ad.add (i * 6)).block, (ad.add (i * 6)).off + 1, none⟩ = some (.int .i64 x.i) ∧ W.cell? ⟨(ad.add (i * 6)).block, (ad.add (i * 6)).off + 2, none⟩ = some (.int .i64 x.k) ∧ W.cell? ⟨(ad.add (i * 6)).block, (ad.add (i * 6)).off + 3, none⟩ = some (.int .u8 x.x) ∧ W.cell? ⟨(ad.add (i * 6)).block, (ad.add (i * 6)).off + 4, none⟩ = some (.slice x.A x.n x.c) ∧ W.cell? ⟨(ad.add (i * 6)).block, (ad.add (i * 6)).off + 5, none⟩ = some (.slice x.kA x.kn x.kc) := by
  obtain ⟨ad, ha, hc⟩ := h.cells
  have key : ∀ (W : World), Below w.heap.size w W → ∀ (j : Nat) (v : Value), (d6C x)[j]? = some v → W.cell? (ad.add (i * 6 + j)) = some v := fun W hb j v hv => pw_cell_below hb (hc j v hv)
  exact ⟨ad, ha, fun W hb => ⟨key W hb 0 _ rfl, by rw [← add_field _ _ 1 (by omega)]; exact key W hb 1 _ rfl, by rw [← add_field _ _ 2 (by omega)]; exact key W hb 2 _ rfl, by rw [← add_field _ _ 3 (by omega)]; exact key W hb 3 _ rfl, by rw [← add_field _ _ 4 (by omega)]; exact key W hb 4 _ rfl, by rw [← add_field _ _ 5 (by omega)]; exact key W hb 5 _ rfl⟩⟩
theorem xcells6 {W : World} {b : Nat} {xw I xk xx : Int} {A kA : Option Addr} {n0 c0 kn kc : Nat} (h : W.heap[b]? = some (.cells #[.int .i64 xw, .int .i64 I, .int .i64 xk, .int .u8 xx, .slice A n0 c0, .slice kA kn kc] 92 (0, 0))) :
    W.cell? ⟨b, 0, none⟩ = some (.int .i64 xw) ∧ W.cell? ⟨b, 1, none⟩ = some (.int .i64 I) ∧ W.cell? ⟨b, 2, none⟩ = some (.int .i64 xk) ∧ W.cell? ⟨b, 3, none⟩ = some (.int .u8 xx) ∧ W.cell? ⟨b, 4, none⟩ = some (.slice A n0 c0) ∧ W.cell? ⟨b, 5, none⟩ = some (.slice kA kn kc) :=
  ⟨(blk_cell h 0).trans rfl, (blk_cell h 1).trans rfl, (blk_cell h 2).trans rfl, (blk_cell h 3).trans rfl, (blk_cell h 4).trans rfl, (blk_cell h 5).trans rfl⟩
theorem hnext {W W' : World} (hb : Below W.heap.size W W') {b : Nat} {o : Obj} (h : W.heap[b]? = some o) : W'.heap[b]? = some o := (hb.block b (Array.getElem?_eq_some_iff.1 h).1).trans h
theorem rangeu8 {x : Int} (h : (Lit.int .u8 x).wf = true) : 0 ≤ x ∧ x ≤ 255 := by
  simp only [Lit.wf, Bool.and_eq_true, decide_eq_true_eq] at h
  rw [show IntKind.u8.min = 0 from rfl, show IntKind.u8.max = 255 from rfl] at h
  omega
theorem lit_noneB (W : World) : Kd.R (Kd.int .u8) 5 (W.alloc (.cells #[] 5)) W.heap.size (fun _ => True) (.slice (some ⟨W.heap.size, 0, none⟩) 0 0) [] :=
  Kd.R_of_own ⟨rfl, .inr ⟨W.heap.size, 0, #[], rfl, Nat.le_refl _, heap_alloc_new W _, Nat.le_refl _, Nat.zero_le _, rfl, rfl⟩⟩ (fun _ _ => trivial)
theorem own_block {w : World} {base n c : Nat} {A : Option Addr} {e size : Nat} {xs : List Value} (h : w.ownsRow base e size (.slice A n c) n xs) (hn : 0 < n) : ∃ b cs, A = some ⟨b, 0, none⟩ ∧ base ≤ b ∧ w.heap[b]? = some (.cells cs e (0, 0)) := by
  rcases h.2 with ⟨h0, h1⟩ | ⟨g, cap, cur, hv, hg, hh, -⟩
  · omega
  · obtain ⟨rfl, -, -⟩ := Value.slice.inj hv
    exact ⟨g, cur, rfl, hg, hh⟩
theorem byte0 {W : World} {bo n : Nat} {bs : List Int} (h : Kd.C (Kd.int .u8) W (some ⟨bo, 0, none⟩) n bs) (hn : 0 < n) : ∃ b0, W.cell? ⟨bo, 0, none⟩ = some (.int .u8 b0) := by
  obtain ⟨b, o, e, hc⟩ := C_cells h hn
  obtain ⟨e1, e2, -⟩ := Addr.mk.inj (Option.some.inj e)
  have := hc 0 hn
  rw [← e1, ← e2] at this
  exact ⟨_, this⟩
set_option maxRecDepth 100000 in
set_option maxHeartbeats 16000000 in
theorem diskPlays_walk (blocks : Int) (a : Option Addr) (len cap : Nat) (z : List D6) (w : World) (w0 : (Lit.int .i64 blocks).wf = true) (pl : z.length = len) (pc : len ≤ cap) (w1 : ∀ (i : Nat) (x : D6), z[i]? = some x → D6At w a i x) :
    Calls Try.prog 11 #[.int .i64 blocks, .slice a len cap] w fun e w' => e = .returned (.bool true) ∧ Below w.heap.size w w' := by
  have hkn : ∀ W, Calls Try.prog 47 #[] W (TellsB true W) := knows6_any
  have HZ := Lib.hid w1
  have HPL := Lib.hid pl
  clear w0 w1 pl pc
  by_cases h1 : blocks > 40 ∧ blocks ≤ 512
  · obtain ⟨h1, h2⟩ := h1
    as_aux_lemma =>
      go_enter Try.func11, Try.ntmps11
      go_wp2_with (go_at_call 47; refine (hkn _).mono ?_; rintro e w1 ⟨rfl, hb1⟩)
      go_ret
      exact ⟨rfl, hb1⟩
  by_cases hl : (len : Int) > 60
  · by_cases h2 : blocks > 40
    · have h3 : ¬ blocks ≤ 512 := fun h => h1 ⟨h2, h⟩
      clear h1
      as_aux_lemma =>
        go_enter Try.func11, Try.ntmps11
        go_wp2_with (go_at_call 47; refine (hkn _).mono ?_; rintro e w1 ⟨rfl, hb1⟩)
        go_ret
        exact ⟨rfl, hb1⟩
    · clear h1
      as_aux_lemma =>
        go_enter Try.func11, Try.ntmps11
        go_wp2_with (go_at_call 47; refine (hkn _).mono ?_; rintro e w1 ⟨rfl, hb1⟩)
        go_ret
        exact ⟨rfl, hb1⟩
  by_cases hb1 : blocks < 1
  · have hnew := new_bad blocks w (.inl hb1)
    have h2 : ¬ blocks > 40 := by omega
    clear h1
    as_aux_lemma =>
      go_enter Try.func11, Try.ntmps11
      go_wp2_with (first
        | (go_at_call 48; refine hnew.mono ?_; rintro e w1 ⟨rfl, he⟩; obtain rfl := he.symm)
        | (go_at_call 47; refine (hkn _).mono ?_; rintro e w2 ⟨rfl, hb2⟩))
      go_ret
      exact ⟨rfl, hb2⟩
  by_cases hb2 : blocks > 512
  · have hnew := new_bad blocks w (.inr hb2)
    have h2 : blocks > 40 := by omega
    have h3 : ¬ blocks ≤ 512 := by omega
    clear h1
    as_aux_lemma =>
      go_enter Try.func11, Try.ntmps11
      go_wp2_with (first
        | (go_at_call 48; refine hnew.mono ?_; rintro e w1 ⟨rfl, he⟩; obtain rfl := he.symm)
        | (go_at_call 47; refine (hkn _).mono ?_; rintro e w2 ⟨rfl, hb2⟩))
      go_ret
      exact ⟨rfl, hb2⟩
  obtain ⟨n, rfl⟩ := Int.eq_ofNat_of_zero_le (show 0 ≤ blocks by omega)
  have n1 : 1 ≤ n := by omega
  have n2 : n ≤ 40 := by
    apply Classical.byContradiction
    intro hh
    exact h1 ⟨by omega, by omega⟩
  have h3 : ¬ (n : Int) > 40 := by omega
  have hlen : len ≤ 60 := by omega
  have hnew := new_any n w n1 (by omega)
  have hrnew : ∀ W, Calls Try.prog 49 #[.int .i64 n] W (RNewOut n W) := fun W => rnew_any n W (by omega)
  clear h1
  go_enter Try.func11, Try.ntmps11
  go_wp2_with (first
    | (go_at_call 49; refine (hrnew w4).mono ?_; rintro e w5 ⟨g', vs, rfl, hR, hb⟩; have HR5 := Lib.hid hR; have HT5 := Lib.hid (HT4.out.next hb); have HB5 := Lib.hid (below_next HB4.out hb); have HLE := Lib.hid HB4.out.size; clear hR hb)
    | (go_at_call 48; refine hnew.mono ?_; rintro e w4 ⟨g, r, rfl, hT, hb⟩; have HT4 := Lib.hid hT; have HB4 := Lib.hid hb; clear hT hb))
  have HRD := Lib.hid (show RD w.heap.size w5 g' vs (List.replicate n blk0) from by
    have h := HR5.out
    unfold RD
    rw [List.map_replicate, List.map_replicate, List.map_replicate, Z72_blk, show blk0.p = Z72 from Z72_blk, show frF blk0 = [] from rfl]
    exact ⟨h.tab, Nat.le_trans HLE.out h.hg, h.len, fun i v l hv hl => own_down (h.row i v l hv hl) HLE.out, h.apart⟩)
  have HBT := Lib.hid (show Both w.heap.size w w5 g r g' vs n (List.replicate n blk0) from ⟨HT5.out, HRD.out, List.length_replicate, HB5.out⟩)
  clear hnew hrnew HR5 HT4 HB4 HT5 HRD HB5 HLE
  go_loopg [8] len (fun gg s8 wr => ∃ (kk : Nat) (L : List Blk), kk ≤ len ∧ len - kk ≤ gg ∧ s8 = .int .i64 kk ∧ Aside0 (Both w.heap.size w wr g r g' vs n L))
  case atStart => exact ⟨0, _, Nat.zero_le _, by omega, rfl, ⟨HBT.out⟩⟩
  case round =>
    clear HBT
    obtain ⟨kk, L, hkk, hg, rfl, HB⟩ := hrel
    by_cases hlt : kk < len
    · have hltz : (kk : Int) < (len : Int) := by omega
      obtain ⟨x, hx⟩ : ∃ x, z[kk]? = some x := ⟨_, List.getElem?_eq_getElem (by rw [HPL.out]; exact hlt)⟩
      have hX := HZ.out kk x hx
      obtain ⟨ad, rfl, hdc⟩ := d6_all hX
      obtain ⟨xw, I, xk, xx, A, n0, c0, bs, kA, kn, kc, ks⟩ := x
      obtain ⟨q0, q1, q2, q3, q4, q5⟩ := hdc _ HB.out.below
      have HCB := Lib.hid (show ∀ W, Below w.heap.size w W → Kd.C (Kd.int .u8) W A n0 bs from fun W hW => Kd.C_below hX.bytes hW)
      have HOK := Lib.hid (show Bytes bs from hX.ok)
      have HKP := Lib.hid (show BoolRow w kA kn kc ks from hX.keep)
      have HU8 := Lib.hid (show 0 ≤ xx ∧ xx ≤ 255 from rangeu8 hX.w3)
      have hbn0 : bs.length = n0 := Kd.C_len hX.bytes
      obtain ⟨p, hp, hpick⟩ := pick_any xw hX.w0
      have HLL := Lib.hid HB.out.len
      have HF := Lib.hid (show FineL L from HB.out.fine)
      obtain ⟨wq, hwq⟩ : ∃ wq : World, wq = wr := ⟨_, rfl⟩
      subst hwq
      have hbxr : wq.heap.size ≠ r := by have := HB.out.t.rlt; omega
      have HX0 := Lib.hid (show (wq.alloc (.cells #[.int .i64 xw, .int .i64 I, .int .i64 xk, .int .u8 xx, .slice A n0 c0, .slice kA kn kc] 92)).heap[wq.heap.size]? = some (.cells #[.int .i64 xw, .int .i64 I, .int .i64 xk, .int .u8 xx, .slice A n0 c0, .slice kA kn kc] 92 (0, 0)) from heap_alloc_new wq _)
      have HBx := Lib.hid (HB.out.next (below_alloc (Below.refl wq.heap.size wq) (.cells #[.int .i64 xw, .int .i64 I, .int .i64 xk, .int .u8 xx, .slice A n0 c0, .slice kA kn kc] 92)))
      clear hdc hx hX HB
      by_cases hn1 : (n0 : Int) > 100
      · clear hbn0
        as_aux_lemma =>
          go_wp2_with (go_at_call 47; refine (hkn _).mono ?_; rintro e w9 ⟨rfl, hb⟩; have HB9 := Lib.hid (HBx.out.next hb); clear hb)
          go_ret
          exact ⟨rfl, HB9.out.below⟩
      by_cases hn2 : (kn : Int) > 100
      · clear hbn0
        as_aux_lemma =>
          go_wp2_with (go_at_call 47; refine (hkn _).mono ?_; rintro e w9 ⟨rfl, hb⟩; have HB9 := Lib.hid (HBx.out.next hb); clear hb)
          go_ret
          exact ⟨rfl, HB9.out.below⟩
      have hn0 : bs.length ≤ 100 := by omega
      have hn00 : n0 ≤ 100 := by omega
      have HBN := Lib.hid hbn0
      clear hbn0
      have hkn0 : kn ≤ 100 := by omega
      have hp7 : p = 0 ∨ p = 1 ∨ p = 2 ∨ p = 3 ∨ p = 4 ∨ p = 5 ∨ p = 6 := by omega
      clear hp
      rcases hp7 with rfl | rfl | rfl | rfl | rfl | rfl | rfl
      · as_aux_lemma =>
          by_cases hpos : 0 < bs.length
          · cases hok : wrOk L I bs with
            | true =>
              have HWP := Lib.hid (show ∀ W (A5 : Option Addr) (c5 : Nat), DTab w.heap.size W g r L → Kd.C (Kd.int .u8) W A5 bs.length bs → bs.length ≤ c5 → (∀ p, A5 = some p → 0 < bs.length → p.block ≠ r) → Calls Try.prog 50 #[.pointer (some ⟨g, 0, none⟩), .int .i64 I, .slice A5 bs.length c5] W (WriteOut w.heap.size g r 0 (wrB L I bs) W) from fun W A5 c5 hW hC hc hf => by have h := write_any hW I A5 bs.length c5 bs (by rw [HLL.out]; omega) hC hc HOK.out hf; rw [hok] at h; exact h)
              have HWR := Lib.hid (show ∀ W, RD w.heap.size W g' vs L → Calls Try.prog 51 #[.pointer (some ⟨g', 0, none⟩), .int .i64 I, .string (strOfNums bs)] W (RSetOut w.heap.size g' vs true (wrB L I bs) W) from fun W hW => by have h := rwrite_any hW HF.out I bs (by rw [HLL.out]; omega); rw [hok] at h; exact h)
              clear hok
              go_wp2_with (first
                | (go_at_call 57; refine (hpick _).mono ?_; rintro e w2 ⟨rfl, hb2⟩; have HB2 := Lib.hid (HBx.out.next hb2); have HX2 := Lib.hid (hnext hb2 HX0.out); obtain ⟨y0, y1, y2, y3, y4, y5⟩ := xcells6 HX2.out; have hbl2 : wq.heap.size < w2.heap.size := (Array.getElem?_eq_some_iff.1 HX2.out).1; have hbn2 : wq.heap.size ≠ w2.heap.size := Nat.ne_of_lt hbl2; clear hb2)
                | ((with_reducible refine gate_builtin (b := .append) (xs := #[.tmp 129, .tmp 131]) rfl ?_); at_builtin; refine blk ?_))
              refine ⟨?_⟩
              have hO1 := lit_noneB w2
              have hB1 := below_alloc (Below.refl w2.heap.size w2) (.cells #[] 5)
              refine Kd.R_append_rows (Kd.int .u8) (w0 := w2) w2.heap.size rfl (.tmp 129) (.tmp 131) 29 5 (.int .u8 0) 1 rfl Try.underlying29 Com.info5 rfl (by decide) (by decide) (.slice (some ⟨w2.heap.size, 0, none⟩) 0 0) [] bs A n0 c0 (fun _ => True) (fun _ => False) rfl rfl hO1 (Kd.C_below (HCB.out _ HB2.out.below) hB1) (fun x cs h => h) (fun _ h => h.elim) (fun _ _ => trivial) hB1 hB1.size (by simp; omega) ?_
              intro v3 w5 hO hB hg3 hat
              rw [List.nil_append] at hO
              obtain ⟨A5, c5, e5, hc5, hr5⟩ := Kd.R_reads hO
              subst e5
              have HB5 := Lib.hid (HB2.out.next hB)
              have HX5 := Lib.hid (hnext hB HX2.out)
              obtain ⟨z0, z1, z2, z3, z4, z5⟩ := xcells6 HX5.out
              have HFAR := Lib.hid (show ∀ p, A5 = some p → 0 < bs.length → p.block ≠ r from fun p hp h0 hpr => by
                obtain ⟨b', cs', hb1, hb2, hb3⟩ := own_block (Kd.own_of_R hO) h0
                rw [hp] at hb1
                obtain rfl := Option.some.inj hb1
                have h1 : b' = r := hpr
                have h2 := HB2.out.t.rlt
                omega)
              obtain ⟨bo, cur, hbo, hbl, hcu⟩ := own_block (Kd.own_of_R hO) hpos
              subst hbo
              have hbr : bo ≠ r := HFAR.out _ rfl hpos
              have hbx : bo ≠ wq.heap.size := by have h1 := (Array.getElem?_eq_some_iff.1 HX2.out).1; omega
              have hrd := C_cells hr5 hpos
              have HR5 := Lib.hid hr5
              have HHH := Lib.hid (And.intro hcu (show w.heap.size ≤ bo from by have := HB2.out.t.le; omega))
              have hln1 : (bs.length : Int) > 0 := by omega
              have hln2 : (0 : Int) < (bs.length : Int) := by omega
              have hln3 : bs.length ≤ 100 := hn0
              clear hO1 hB1 hO hB hg3 hat hr5 hcu hbl hrd
              go_wp2_with (first
                | (go_at_call 50; refine (HWP.out _ _ _ HB5.out.t HR5.out hc5 HFAR.out).mono ?_; rintro e w6 ⟨rfl, hT, hK, hB⟩; have HH := Lib.hid (HB5.out.half (wrB_length L I bs) hT hK hB); have HX6 := Lib.hid (hK.cells HX5.out (fun hh => hbxr (List.mem_singleton.1 hh))); obtain ⟨u0, u1, u2, u3, u4, u5⟩ := xcells6 HX6.out; have hcu6 := hK.cells HHH.out.1 (fun hh => hbr (List.mem_singleton.1 hh)); have HS := Lib.hid (fun v => HH.out.bump hcu6 HHH.out.2 0 v); obtain ⟨b0, hb0⟩ := byte0 HR5.out hpos; have hcb := (cell_of_heap (p := ⟨bo, 0, none⟩) (hK.keep bo (Array.getElem?_eq_some_iff.1 HHH.out.1).1 (fun hh => hbr (List.mem_singleton.1 hh)))).trans hb0; have hfb := frozen_of_row w6 bo 0 _ _ hcu6; have hq1 := fun V => (World.cell?_setCell_other w6 ⟨bo, 0, none⟩ ⟨wq.heap.size, 1, none⟩ V (fun e => hbx (Addr.mk.inj e).1)).trans u1; have hq4 := fun V => (World.cell?_setCell_other w6 ⟨bo, 0, none⟩ ⟨wq.heap.size, 4, none⟩ V (fun e => hbx (Addr.mk.inj e).1)).trans u4; have hst := fun V => Kd.C_string (P := Try.prog) (dst := 9) (c := c0) Try.underlying29 Try.underlying5 Try.underlying9 (HCB.out _ (HS.out V).below); clear hT hK hB hcu6 hb0)
                | (go_at_call 51; (refine (HWR.out _ ?hD).mono ?_); (case hD => exact (HS.out _).d); rintro e w7 ⟨rfl, hR, hK, hB⟩; have HB8 := Lib.hid ((HS.out _).both hR hK hB); clear hR hK hB)
                | (go_at_call 56; refine (dirty_any HB8.out.t (by rw [HB8.out.len]; omega)).mono ?_; rintro e wa ⟨rfl, hba⟩; have HBa := Lib.hid (HB8.out.next hba); clear hba)
                | (go_at_call 66; refine (rdirty_any HBa.out.d HBa.out.fine (by rw [HBa.out.len]; omega)).mono ?_; rintro e wb ⟨rfl, hbb⟩; have HBb := Lib.hid (HBa.out.next hbb); clear hbb))
              go_roundg (len - (kk + 1))
              case measure => omega
              case rel => exact ⟨kk + 1, _, by omega, by omega, by go_num, ⟨HBb.out⟩⟩
            | false =>
              have HWP := Lib.hid (show ∀ W (A5 : Option Addr) (c5 : Nat), DTab w.heap.size W g r L → Kd.C (Kd.int .u8) W A5 bs.length bs → bs.length ≤ c5 → (∀ p, A5 = some p → 0 < bs.length → p.block ≠ r) → Calls Try.prog 50 #[.pointer (some ⟨g, 0, none⟩), .int .i64 I, .slice A5 bs.length c5] W (WriteOut w.heap.size g r 1 (wrB L I bs) W) from fun W A5 c5 hW hC hc hf => by have h := write_any hW I A5 bs.length c5 bs (by rw [HLL.out]; omega) hC hc HOK.out hf; rw [hok] at h; exact h)
              have HWR := Lib.hid (show ∀ W, RD w.heap.size W g' vs L → Calls Try.prog 51 #[.pointer (some ⟨g', 0, none⟩), .int .i64 I, .string (strOfNums bs)] W (RSetOut w.heap.size g' vs false (wrB L I bs) W) from fun W hW => by have h := rwrite_any hW HF.out I bs (by rw [HLL.out]; omega); rw [hok] at h; exact h)
              clear hok
              go_wp2_with (first
                | (go_at_call 57; refine (hpick _).mono ?_; rintro e w2 ⟨rfl, hb2⟩; have HB2 := Lib.hid (HBx.out.next hb2); have HX2 := Lib.hid (hnext hb2 HX0.out); obtain ⟨y0, y1, y2, y3, y4, y5⟩ := xcells6 HX2.out; have hbl2 : wq.heap.size < w2.heap.size := (Array.getElem?_eq_some_iff.1 HX2.out).1; have hbn2 : wq.heap.size ≠ w2.heap.size := Nat.ne_of_lt hbl2; clear hb2)
                | ((with_reducible refine gate_builtin (b := .append) (xs := #[.tmp 129, .tmp 131]) rfl ?_); at_builtin; refine blk ?_))
              refine ⟨?_⟩
              have hO1 := lit_noneB w2
              have hB1 := below_alloc (Below.refl w2.heap.size w2) (.cells #[] 5)
              refine Kd.R_append_rows (Kd.int .u8) (w0 := w2) w2.heap.size rfl (.tmp 129) (.tmp 131) 29 5 (.int .u8 0) 1 rfl Try.underlying29 Com.info5 rfl (by decide) (by decide) (.slice (some ⟨w2.heap.size, 0, none⟩) 0 0) [] bs A n0 c0 (fun _ => True) (fun _ => False) rfl rfl hO1 (Kd.C_below (HCB.out _ HB2.out.below) hB1) (fun x cs h => h) (fun _ h => h.elim) (fun _ _ => trivial) hB1 hB1.size (by simp; omega) ?_
              intro v3 w5 hO hB hg3 hat
              rw [List.nil_append] at hO
              obtain ⟨A5, c5, e5, hc5, hr5⟩ := Kd.R_reads hO
              subst e5
              have HB5 := Lib.hid (HB2.out.next hB)
              have HX5 := Lib.hid (hnext hB HX2.out)
              obtain ⟨z0, z1, z2, z3, z4, z5⟩ := xcells6 HX5.out
              have HFAR := Lib.hid (show ∀ p, A5 = some p → 0 < bs.length → p.block ≠ r from fun p hp h0 hpr => by
                obtain ⟨b', cs', hb1, hb2, hb3⟩ := own_block (Kd.own_of_R hO) h0
                rw [hp] at hb1
                obtain rfl := Option.some.inj hb1
                have h1 : b' = r := hpr
                have h2 := HB2.out.t.rlt
                omega)
              obtain ⟨bo, cur, hbo, hbl, hcu⟩ := own_block (Kd.own_of_R hO) hpos
              subst hbo
              have hbr : bo ≠ r := HFAR.out _ rfl hpos
              have hbx : bo ≠ wq.heap.size := by have h1 := (Array.getElem?_eq_some_iff.1 HX2.out).1; omega
              have hrd := C_cells hr5 hpos
              have HR5 := Lib.hid hr5
              have HHH := Lib.hid (And.intro hcu (show w.heap.size ≤ bo from by have := HB2.out.t.le; omega))
              have hln1 : (bs.length : Int) > 0 := by omega
              have hln2 : (0 : Int) < (bs.length : Int) := by omega
              have hln3 : bs.length ≤ 100 := hn0
              clear hO1 hB1 hO hB hg3 hat hr5 hcu hbl hrd
              go_wp2_with (first
                | (go_at_call 50; refine (HWP.out _ _ _ HB5.out.t HR5.out hc5 HFAR.out).mono ?_; rintro e w6 ⟨rfl, hT, hK, hB⟩; have HH := Lib.hid (HB5.out.half (wrB_length L I bs) hT hK hB); have HX6 := Lib.hid (hK.cells HX5.out (fun hh => hbxr (List.mem_singleton.1 hh))); obtain ⟨u0, u1, u2, u3, u4, u5⟩ := xcells6 HX6.out; have hcu6 := hK.cells HHH.out.1 (fun hh => hbr (List.mem_singleton.1 hh)); have HS := Lib.hid (fun v => HH.out.bump hcu6 HHH.out.2 0 v); obtain ⟨b0, hb0⟩ := byte0 HR5.out hpos; have hcb := (cell_of_heap (p := ⟨bo, 0, none⟩) (hK.keep bo (Array.getElem?_eq_some_iff.1 HHH.out.1).1 (fun hh => hbr (List.mem_singleton.1 hh)))).trans hb0; have hfb := frozen_of_row w6 bo 0 _ _ hcu6; have hq1 := fun V => (World.cell?_setCell_other w6 ⟨bo, 0, none⟩ ⟨wq.heap.size, 1, none⟩ V (fun e => hbx (Addr.mk.inj e).1)).trans u1; have hq4 := fun V => (World.cell?_setCell_other w6 ⟨bo, 0, none⟩ ⟨wq.heap.size, 4, none⟩ V (fun e => hbx (Addr.mk.inj e).1)).trans u4; have hst := fun V => Kd.C_string (P := Try.prog) (dst := 9) (c := c0) Try.underlying29 Try.underlying5 Try.underlying9 (HCB.out _ (HS.out V).below); clear hT hK hB hcu6 hb0)
                | (go_at_call 51; (refine (HWR.out _ ?hD).mono ?_); (case hD => exact (HS.out _).d); rintro e w7 ⟨rfl, hR, hK, hB⟩; have HB8 := Lib.hid ((HS.out _).both hR hK hB); clear hR hK hB)
                | (go_at_call 56; refine (dirty_any HB8.out.t (by rw [HB8.out.len]; omega)).mono ?_; rintro e wa ⟨rfl, hba⟩; have HBa := Lib.hid (HB8.out.next hba); clear hba)
                | (go_at_call 66; refine (rdirty_any HBa.out.d HBa.out.fine (by rw [HBa.out.len]; omega)).mono ?_; rintro e wb ⟨rfl, hbb⟩; have HBb := Lib.hid (HBa.out.next hbb); clear hbb))
              go_roundg (len - (kk + 1))
              case measure => omega
              case rel => exact ⟨kk + 1, _, by omega, by omega, by go_num, ⟨HBb.out⟩⟩
          · have hok : wrOk L I bs = false := by
              unfold wrOk
              exact decide_eq_false (fun h => by omega)
            have HWP := Lib.hid (show ∀ W (A5 : Option Addr) (c5 : Nat), DTab w.heap.size W g r L → Kd.C (Kd.int .u8) W A5 bs.length bs → bs.length ≤ c5 → (∀ p, A5 = some p → 0 < bs.length → p.block ≠ r) → Calls Try.prog 50 #[.pointer (some ⟨g, 0, none⟩), .int .i64 I, .slice A5 bs.length c5] W (WriteOut w.heap.size g r 1 (wrB L I bs) W) from fun W A5 c5 hW hC hc hf => by have h := write_any hW I A5 bs.length c5 bs (by rw [HLL.out]; omega) hC hc HOK.out hf; rw [hok] at h; exact h)
            have HWR := Lib.hid (show ∀ W, RD w.heap.size W g' vs L → Calls Try.prog 51 #[.pointer (some ⟨g', 0, none⟩), .int .i64 I, .string (strOfNums bs)] W (RSetOut w.heap.size g' vs false (wrB L I bs) W) from fun W hW => by have h := rwrite_any hW HF.out I bs (by rw [HLL.out]; omega); rw [hok] at h; exact h)
            clear hok
            go_wp2_with (first
              | (go_at_call 57; refine (hpick _).mono ?_; rintro e w2 ⟨rfl, hb2⟩; have HB2 := Lib.hid (HBx.out.next hb2); have HX2 := Lib.hid (hnext hb2 HX0.out); obtain ⟨y0, y1, y2, y3, y4, y5⟩ := xcells6 HX2.out; have hbl2 : wq.heap.size < w2.heap.size := (Array.getElem?_eq_some_iff.1 HX2.out).1; have hbn2 : wq.heap.size ≠ w2.heap.size := Nat.ne_of_lt hbl2; clear hb2)
              | ((with_reducible refine gate_builtin (b := .append) (xs := #[.tmp 129, .tmp 131]) rfl ?_); at_builtin; refine blk ?_))
            refine ⟨?_⟩
            have hO1 := lit_noneB w2
            have hB1 := below_alloc (Below.refl w2.heap.size w2) (.cells #[] 5)
            refine Kd.R_append_rows (Kd.int .u8) (w0 := w2) w2.heap.size rfl (.tmp 129) (.tmp 131) 29 5 (.int .u8 0) 1 rfl Try.underlying29 Com.info5 rfl (by decide) (by decide) (.slice (some ⟨w2.heap.size, 0, none⟩) 0 0) [] bs A n0 c0 (fun _ => True) (fun _ => False) rfl rfl hO1 (Kd.C_below (HCB.out _ HB2.out.below) hB1) (fun x cs h => h) (fun _ h => h.elim) (fun _ _ => trivial) hB1 hB1.size (by simp; omega) ?_
            intro v3 w5 hO hB hg3 hat
            rw [List.nil_append] at hO
            obtain ⟨A5, c5, e5, hc5, hr5⟩ := Kd.R_reads hO
            subst e5
            have HB5 := Lib.hid (HB2.out.next hB)
            have HX5 := Lib.hid (hnext hB HX2.out)
            obtain ⟨z0, z1, z2, z3, z4, z5⟩ := xcells6 HX5.out
            have HFAR := Lib.hid (show ∀ p, A5 = some p → 0 < bs.length → p.block ≠ r from fun p hp h0 hpr => by
              obtain ⟨b', cs', hb1, hb2, hb3⟩ := own_block (Kd.own_of_R hO) h0
              rw [hp] at hb1
              obtain rfl := Option.some.inj hb1
              have h1 : b' = r := hpr
              have h2 := HB2.out.t.rlt
              omega)
            have hln1 : ¬ (bs.length : Int) > 0 := by omega
            have HR5 := Lib.hid hr5
            clear hO1 hB1 hO hB hg3 hat hr5
            go_wp2_with (first
              | (go_at_call 50; refine (HWP.out _ _ _ HB5.out.t HR5.out hc5 HFAR.out).mono ?_; rintro e w6 ⟨rfl, hT, hK, hB⟩; have HH := Lib.hid (HB5.out.half (wrB_length L I bs) hT hK hB); have HX6 := Lib.hid (hK.cells HX5.out (fun hh => hbxr (List.mem_singleton.1 hh))); obtain ⟨u0, u1, u2, u3, u4, u5⟩ := xcells6 HX6.out; have hst := Kd.C_string (P := Try.prog) (dst := 9) (c := c0) Try.underlying29 Try.underlying5 Try.underlying9 (HCB.out _ HH.out.below); clear hT hK hB)
              | (go_at_call 51; refine (HWR.out _ HH.out.d).mono ?_; rintro e w7 ⟨rfl, hR, hK, hB⟩; have HB8 := Lib.hid (HH.out.both hR hK hB); clear hR hK hB)
              | (go_at_call 56; refine (dirty_any HB8.out.t (by rw [HB8.out.len]; omega)).mono ?_; rintro e wa ⟨rfl, hba⟩; have HBa := Lib.hid (HB8.out.next hba); clear hba)
              | (go_at_call 66; refine (rdirty_any HBa.out.d HBa.out.fine (by rw [HBa.out.len]; omega)).mono ?_; rintro e wb ⟨rfl, hbb⟩; have HBb := Lib.hid (HBa.out.next hbb); clear hbb))
            go_roundg (len - (kk + 1))
            case measure => omega
            case rel => exact ⟨kk + 1, _, by omega, by omega, by go_num, ⟨HBb.out⟩⟩
      · as_aux_lemma =>
          go_wp2_with (first
            | (go_at_call 57; refine (hpick _).mono ?_; rintro e w2 ⟨rfl, hb2⟩; have HB2 := Lib.hid (HBx.out.next hb2); have HX2 := Lib.hid (hnext hb2 HX0.out); obtain ⟨y0, y1, y2, y3, y4, y5⟩ := xcells6 HX2.out; clear hb2)
            | (go_at_call 52; refine (flush_any HB2.out.t (by rw [HB2.out.len]; omega)).mono ?_; rintro e w3 ⟨rfl, hT, hK, hB⟩; have HH := Lib.hid (HB2.out.half (crashF_length _ _ _) hT hK hB); clear hT hK hB)
            | (go_at_call 58; refine (rflush_any HH.out.d HF.out (by rw [HLL.out]; omega)).mono ?_; rintro e w4 ⟨rfl, hR, hK, hB⟩; have HB5 := Lib.hid (HH.out.both hR hK hB); clear hR hK hB)
            | (go_at_call 56; refine (dirty_any HB5.out.t (by rw [HB5.out.len]; omega)).mono ?_; rintro e wa ⟨rfl, hba⟩; have HBa := Lib.hid (HB5.out.next hba); clear hba)
            | (go_at_call 66; refine (rdirty_any HBa.out.d HBa.out.fine (by rw [HBa.out.len]; omega)).mono ?_; rintro e wb ⟨rfl, hbb⟩; have HBb := Lib.hid (HBa.out.next hbb); clear hbb))
          go_roundg (len - (kk + 1))
          case measure => omega
          case rel => exact ⟨kk + 1, _, by omega, by omega, by go_num, ⟨HBb.out⟩⟩
      · as_aux_lemma =>
          obtain ⟨kt, hkt⟩ : ∃ kt : Nat → Bool, kt = fun j => decide (j < kn) && ks j := ⟨_, rfl⟩
          have HKO := Lib.hid (show ∀ j, kn ≤ j → kt j = false from fun j hj => by rw [hkt]; simp; omega)
          have HKR := Lib.hid (show ∀ W, Below w.heap.size w W → KeepRow kA kn kt W from fun W hW j hj => by
            obtain ⟨b, o, ha, hc⟩ := HKP.out.2 j hj
            refine ⟨b, o, ha, ?_⟩
            rw [show kt j = ks j from by rw [hkt]; simp [hj]]
            exact (hW.cell (p := ⟨b, o + j, none⟩) (World.block_lt_of_cell? _ _ hc)).trans hc)
          have HKF := Lib.hid (show ∀ p, kA = some p → 0 < kn → p.block < w.heap.size from fun p hp h0 => by
            obtain ⟨b, o, ha, hc⟩ := HKP.out.2 0 h0
            rw [hp] at ha
            obtain rfl := Option.some.inj ha
            exact World.block_lt_of_cell? _ _ hc)
          clear hkt
          go_wp2_with (first
            | (go_at_call 57; refine (hpick _).mono ?_; rintro e w2 ⟨rfl, hb2⟩; have HB2 := Lib.hid (HBx.out.next hb2); have HX2 := Lib.hid (hnext hb2 HX0.out); obtain ⟨y0, y1, y2, y3, y4, y5⟩ := xcells6 HX2.out; clear hb2)
            | (go_at_call 53; refine (crash_any HB2.out.t (by rw [HB2.out.len]; omega) kA kn kc kt (HKR.out _ HB2.out.below) HKO.out (by omega) (fun p hp h0 hpr => by have h1 := HKF.out p hp h0; have h2 := HB2.out.t.hr; omega)).mono ?_; rintro e w3 ⟨rfl, hT, hK, hB⟩; have HH := Lib.hid (HB2.out.half (crashF_length _ _ _) hT hK hB); have HX3 := Lib.hid (hK.cells HX2.out (fun hh => hbxr (List.mem_singleton.1 hh))); obtain ⟨z0, z1, z2, z3, z4, z5⟩ := xcells6 HX3.out; clear hT hK hB)
            | (go_at_call 58; refine (rcrash_any HH.out.d HF.out (by rw [HLL.out]; omega) kA kn kc kt (fun W hW => HKR.out _ (HH.out.below.trans hW)) HKO.out (by omega)).mono ?_; rintro e w4 ⟨rfl, hR, hK, hB⟩; have HB5 := Lib.hid (HH.out.both hR hK hB); clear hR hK hB)
            | (go_at_call 56; refine (dirty_any HB5.out.t (by rw [HB5.out.len]; omega)).mono ?_; rintro e wa ⟨rfl, hba⟩; have HBa := Lib.hid (HB5.out.next hba); clear hba)
            | (go_at_call 66; refine (rdirty_any HBa.out.d HBa.out.fine (by rw [HBa.out.len]; omega)).mono ?_; rintro e wb ⟨rfl, hbb⟩; have HBb := Lib.hid (HBa.out.next hbb); clear hbb))
          go_roundg (len - (kk + 1))
          case measure => omega
          case rel => exact ⟨kk + 1, _, by omega, by omega, by go_num, ⟨HBb.out⟩⟩
      · as_aux_lemma =>
          obtain ⟨ok, L', hl', hp, hq⟩ := both_alter L HF.out (by rw [HLL.out]; omega) I xk xx HU8.out
          have HLN := Lib.hid hl'
          have HP := Lib.hid hp
          have HQ := Lib.hid hq
          clear hl' hp hq
          go_wp2_with (first
            | (go_at_call 57; refine (hpick _).mono ?_; rintro e w2 ⟨rfl, hb2⟩; have HB2 := Lib.hid (HBx.out.next hb2); have HX2 := Lib.hid (hnext hb2 HX0.out); obtain ⟨y0, y1, y2, y3, y4, y5⟩ := xcells6 HX2.out; clear hb2))
          refine s_region (fun u => Below w.heap.size w u ∧ u.heap[wq.heap.size]? = some (.cells #[.int .i64 xw, .int .i64 I, .int .i64 xk, .int .u8 xx, .slice A n0 c0, .slice kA kn kc] 92 (0, 0))) (by kernel_rfl) 18 (by kernel_rfl) ⟨below_drew HB2.out.below, hnext (below_drew (Below.refl w2.heap.size w2)) HX2.out⟩ (fun hS => ?_)
          have HB3 := Lib.hid (HB2.out.next (below_drew (Below.refl w2.heap.size w2)))
          generalize hwd : w2.drew = wd at *
          clear hwd HB2 HX2
          refine s_take 0 (_) hS rfl (by kernel_rfl) (by kernel_rfl) (by kernel_rfl) (fun _ _ _ h => h) rfl (fun w' hw' => run_move_at _ rfl w') ?_
          simp only [Act.put, List.setIfInBounds_toArray, List.set_cons_zero, List.set_cons_succ]
          refine s_take 1 (.pointer (some ⟨wq.heap.size, 1, none⟩)) hS rfl (by kernel_rfl) (by kernel_rfl) (by kernel_rfl) (fun _ _ _ h => h) rfl (fun w' hw' => by (unfold execOp; simp [go_sem, Act.put, Act.eval])) ?_
          simp only [Act.put, List.setIfInBounds_toArray, List.set_cons_zero, List.set_cons_succ]
          refine s_take 2 (.int .i64 I) hS rfl (by kernel_rfl) (by kernel_rfl) (by kernel_rfl) (fun _ _ _ h => h) rfl (fun w' hw' => by (have hc0 := (xcells6 hw'.2).2.1; unfold execOp; simp [go_sem, Act.put, Act.eval, hc0])) ?_
          simp only [Act.put, List.setIfInBounds_toArray, List.set_cons_zero, List.set_cons_succ]
          refine s_take 3 (.pointer (some ⟨wq.heap.size, 2, none⟩)) hS rfl (by kernel_rfl) (by kernel_rfl) (by kernel_rfl) (fun _ _ _ h => h) rfl (fun w' hw' => by (unfold execOp; simp [go_sem, Act.put, Act.eval])) ?_
          simp only [Act.put, List.setIfInBounds_toArray, List.set_cons_zero, List.set_cons_succ]
          refine s_take 4 (.int .i64 xk) hS rfl (by kernel_rfl) (by kernel_rfl) (by kernel_rfl) (fun _ _ _ h => h) rfl (fun w' hw' => by (have hc0 := (xcells6 hw'.2).2.2.1; unfold execOp; simp [go_sem, Act.put, Act.eval, hc0])) ?_
          simp only [Act.put, List.setIfInBounds_toArray, List.set_cons_zero, List.set_cons_succ]
          refine s_take 5 (.pointer (some ⟨wq.heap.size, 3, none⟩)) hS rfl (by kernel_rfl) (by kernel_rfl) (by kernel_rfl) (fun _ _ _ h => h) rfl (fun w' hw' => by (unfold execOp; simp [go_sem, Act.put, Act.eval])) ?_
          simp only [Act.put, List.setIfInBounds_toArray, List.set_cons_zero, List.set_cons_succ]
          refine s_take 6 (.int .u8 xx) hS rfl (by kernel_rfl) (by kernel_rfl) (by kernel_rfl) (fun _ _ _ h => h) rfl (fun w' hw' => by (have hc0 := (xcells6 hw'.2).2.2.2.1; unfold execOp; simp [go_sem, Act.put, Act.eval, hc0])) ?_
          simp only [Act.put, List.setIfInBounds_toArray, List.set_cons_zero, List.set_cons_succ]
          refine s_take 8 (_) hS rfl (by kernel_rfl) (by kernel_rfl) (by kernel_rfl) (fun _ _ _ h => h) rfl (fun w' hw' => run_move_at _ rfl w') ?_
          simp only [Act.put, List.setIfInBounds_toArray, List.set_cons_zero, List.set_cons_succ]
          refine s_take 9 (.pointer (some ⟨wq.heap.size, 1, none⟩)) hS rfl (by kernel_rfl) (by kernel_rfl) (by kernel_rfl) (fun _ _ _ h => h) rfl (fun w' hw' => by (unfold execOp; simp [go_sem, Act.put, Act.eval])) ?_
          simp only [Act.put, List.setIfInBounds_toArray, List.set_cons_zero, List.set_cons_succ]
          refine s_take 10 (.int .i64 I) hS rfl (by kernel_rfl) (by kernel_rfl) (by kernel_rfl) (fun _ _ _ h => h) rfl (fun w' hw' => by (have hc0 := (xcells6 hw'.2).2.1; unfold execOp; simp [go_sem, Act.put, Act.eval, hc0])) ?_
          simp only [Act.put, List.setIfInBounds_toArray, List.set_cons_zero, List.set_cons_succ]
          refine s_take 11 (.pointer (some ⟨wq.heap.size, 2, none⟩)) hS rfl (by kernel_rfl) (by kernel_rfl) (by kernel_rfl) (fun _ _ _ h => h) rfl (fun w' hw' => by (unfold execOp; simp [go_sem, Act.put, Act.eval])) ?_
          simp only [Act.put, List.setIfInBounds_toArray, List.set_cons_zero, List.set_cons_succ]
          refine s_take 12 (.int .i64 xk) hS rfl (by kernel_rfl) (by kernel_rfl) (by kernel_rfl) (fun _ _ _ h => h) rfl (fun w' hw' => by (have hc0 := (xcells6 hw'.2).2.2.1; unfold execOp; simp [go_sem, Act.put, Act.eval, hc0])) ?_
          simp only [Act.put, List.setIfInBounds_toArray, List.set_cons_zero, List.set_cons_succ]
          refine s_take 13 (.pointer (some ⟨wq.heap.size, 3, none⟩)) hS rfl (by kernel_rfl) (by kernel_rfl) (by kernel_rfl) (fun _ _ _ h => h) rfl (fun w' hw' => by (unfold execOp; simp [go_sem, Act.put, Act.eval])) ?_
          simp only [Act.put, List.setIfInBounds_toArray, List.set_cons_zero, List.set_cons_succ]
          refine s_take 14 (.int .u8 xx) hS rfl (by kernel_rfl) (by kernel_rfl) (by kernel_rfl) (fun _ _ _ h => h) rfl (fun w' hw' => by (have hc0 := (xcells6 hw'.2).2.2.2.1; unfold execOp; simp [go_sem, Act.put, Act.eval, hc0])) ?_
          simp only [Act.put, List.setIfInBounds_toArray, List.set_cons_zero, List.set_cons_succ]
          refine s_call 7 rfl (by kernel_rfl) rfl 59 _ _ Try.func59 (by kernel_rfl) rfl _ _ #[.pointer (some ⟨g, 0, none⟩), .int .i64 I, .int .i64 xk, .int .u8 xx] rfl (by simp [Act.put, Act.eval]) (HP.out _ _ _ _ HB3.out.t) ?_
          rintro e w4 ⟨rfl, hT, hK, hB⟩
          have HH := Lib.hid (HB3.out.half HLN.out hT hK hB)
          have hX4 := hK.cells hS.2 (fun hh => hbxr (List.mem_singleton.1 hh))
          clear hT hK hB HB3
          have hS := And.intro HH.out.below hX4
          refine ⟨_, rfl, hS, ?_⟩
          simp only [Act.put, List.setIfInBounds_toArray, List.set_cons_zero, List.set_cons_succ]
          refine s_call 15 rfl (by kernel_rfl) rfl 60 _ _ Try.func60 (by kernel_rfl) rfl _ _ #[.pointer (some ⟨g', 0, none⟩), .int .i64 I, .int .i64 xk, .int .u8 xx] rfl (by simp [Act.put, Act.eval]) (HQ.out _ _ _ _ HH.out.d) ?_
          rintro e w5 ⟨rfl, hR, hK, hB⟩
          have hX5 := hK.cells hS.2 (by decide)
          have HB5 := Lib.hid (HH.out.both hR hK hB)
          clear hR hK hB HH
          have hS := And.intro HB5.out.below hX5
          refine ⟨_, rfl, hS, ?_⟩
          simp only [Act.put, List.setIfInBounds_toArray, List.set_cons_zero, List.set_cons_succ]
          refine s_take 16 (.bool true) hS rfl (by kernel_rfl) (by kernel_rfl) (by kernel_rfl) (fun _ _ _ h => h) rfl (fun w' hw' => by (unfold execOp; simp [go_sem, Act.put, Act.eval])) ?_
          simp only [Act.put, List.setIfInBounds_toArray, List.set_cons_zero, List.set_cons_succ]
          refine s_take 17 (.bool true) hS rfl (by kernel_rfl) (by kernel_rfl) (by kernel_rfl) (fun _ _ _ h => h) rfl (fun w' hw' => by (unfold execOp; simp [go_sem, Act.put, Act.eval])) ?_
          simp only [Act.put, List.setIfInBounds_toArray, List.set_cons_zero, List.set_cons_succ]
          refine s_done (by kernel_rfl) ?_
          clear hS hX4 hX5
          go_wp2_with (first
            | (go_at_call 56; refine (dirty_any HB5.out.t (by rw [HB5.out.len]; omega)).mono ?_; rintro e wa ⟨rfl, hba⟩; have HBa := Lib.hid (HB5.out.next hba); clear hba)
            | (go_at_call 66; refine (rdirty_any HBa.out.d HBa.out.fine (by rw [HBa.out.len]; omega)).mono ?_; rintro e wb ⟨rfl, hbb⟩; have HBb := Lib.hid (HBa.out.next hbb); clear hbb))
          go_roundg (len - (kk + 1))
          case measure => omega
          case rel => exact ⟨kk + 1, _, by omega, by omega, by go_num, ⟨HBb.out⟩⟩
      · as_aux_lemma =>
          obtain ⟨ok, L', hl', hp, hq⟩ := both_swap L HF.out (by rw [HLL.out]; omega) I xk
          have HLN := Lib.hid hl'
          have HP := Lib.hid hp
          have HQ := Lib.hid hq
          clear hl' hp hq
          go_wp2_with (first
            | (go_at_call 57; refine (hpick _).mono ?_; rintro e w2 ⟨rfl, hb2⟩; have HB2 := Lib.hid (HBx.out.next hb2); have HX2 := Lib.hid (hnext hb2 HX0.out); obtain ⟨y0, y1, y2, y3, y4, y5⟩ := xcells6 HX2.out; clear hb2))
          refine s_region (fun u => Below w.heap.size w u ∧ u.heap[wq.heap.size]? = some (.cells #[.int .i64 xw, .int .i64 I, .int .i64 xk, .int .u8 xx, .slice A n0 c0, .slice kA kn kc] 92 (0, 0))) (by kernel_rfl) 14 (by kernel_rfl) ⟨below_drew HB2.out.below, hnext (below_drew (Below.refl w2.heap.size w2)) HX2.out⟩ (fun hS => ?_)
          have HB3 := Lib.hid (HB2.out.next (below_drew (Below.refl w2.heap.size w2)))
          generalize hwd : w2.drew = wd at *
          clear hwd HB2 HX2
          refine s_take 0 (_) hS rfl (by kernel_rfl) (by kernel_rfl) (by kernel_rfl) (fun _ _ _ h => h) rfl (fun w' hw' => run_move_at _ rfl w') ?_
          simp only [Act.put, List.setIfInBounds_toArray, List.set_cons_zero, List.set_cons_succ]
          refine s_take 1 (.pointer (some ⟨wq.heap.size, 1, none⟩)) hS rfl (by kernel_rfl) (by kernel_rfl) (by kernel_rfl) (fun _ _ _ h => h) rfl (fun w' hw' => by (unfold execOp; simp [go_sem, Act.put, Act.eval])) ?_
          simp only [Act.put, List.setIfInBounds_toArray, List.set_cons_zero, List.set_cons_succ]
          refine s_take 2 (.int .i64 I) hS rfl (by kernel_rfl) (by kernel_rfl) (by kernel_rfl) (fun _ _ _ h => h) rfl (fun w' hw' => by (have hc0 := (xcells6 hw'.2).2.1; unfold execOp; simp [go_sem, Act.put, Act.eval, hc0])) ?_
          simp only [Act.put, List.setIfInBounds_toArray, List.set_cons_zero, List.set_cons_succ]
          refine s_take 3 (.pointer (some ⟨wq.heap.size, 2, none⟩)) hS rfl (by kernel_rfl) (by kernel_rfl) (by kernel_rfl) (fun _ _ _ h => h) rfl (fun w' hw' => by (unfold execOp; simp [go_sem, Act.put, Act.eval])) ?_
          simp only [Act.put, List.setIfInBounds_toArray, List.set_cons_zero, List.set_cons_succ]
          refine s_take 4 (.int .i64 xk) hS rfl (by kernel_rfl) (by kernel_rfl) (by kernel_rfl) (fun _ _ _ h => h) rfl (fun w' hw' => by (have hc0 := (xcells6 hw'.2).2.2.1; unfold execOp; simp [go_sem, Act.put, Act.eval, hc0])) ?_
          simp only [Act.put, List.setIfInBounds_toArray, List.set_cons_zero, List.set_cons_succ]
          refine s_take 6 (_) hS rfl (by kernel_rfl) (by kernel_rfl) (by kernel_rfl) (fun _ _ _ h => h) rfl (fun w' hw' => run_move_at _ rfl w') ?_
          simp only [Act.put, List.setIfInBounds_toArray, List.set_cons_zero, List.set_cons_succ]
          refine s_take 7 (.pointer (some ⟨wq.heap.size, 1, none⟩)) hS rfl (by kernel_rfl) (by kernel_rfl) (by kernel_rfl) (fun _ _ _ h => h) rfl (fun w' hw' => by (unfold execOp; simp [go_sem, Act.put, Act.eval])) ?_
          simp only [Act.put, List.setIfInBounds_toArray, List.set_cons_zero, List.set_cons_succ]
          refine s_take 8 (.int .i64 I) hS rfl (by kernel_rfl) (by kernel_rfl) (by kernel_rfl) (fun _ _ _ h => h) rfl (fun w' hw' => by (have hc0 := (xcells6 hw'.2).2.1; unfold execOp; simp [go_sem, Act.put, Act.eval, hc0])) ?_
          simp only [Act.put, List.setIfInBounds_toArray, List.set_cons_zero, List.set_cons_succ]
          refine s_take 9 (.pointer (some ⟨wq.heap.size, 2, none⟩)) hS rfl (by kernel_rfl) (by kernel_rfl) (by kernel_rfl) (fun _ _ _ h => h) rfl (fun w' hw' => by (unfold execOp; simp [go_sem, Act.put, Act.eval])) ?_
          simp only [Act.put, List.setIfInBounds_toArray, List.set_cons_zero, List.set_cons_succ]
          refine s_take 10 (.int .i64 xk) hS rfl (by kernel_rfl) (by kernel_rfl) (by kernel_rfl) (fun _ _ _ h => h) rfl (fun w' hw' => by (have hc0 := (xcells6 hw'.2).2.2.1; unfold execOp; simp [go_sem, Act.put, Act.eval, hc0])) ?_
          simp only [Act.put, List.setIfInBounds_toArray, List.set_cons_zero, List.set_cons_succ]
          refine s_call 5 rfl (by kernel_rfl) rfl 61 _ _ Try.func61 (by kernel_rfl) rfl _ _ #[.pointer (some ⟨g, 0, none⟩), .int .i64 I, .int .i64 xk] rfl (by simp [Act.put, Act.eval]) (HP.out _ _ _ _ HB3.out.t) ?_
          rintro e w4 ⟨rfl, hT, hK, hB⟩
          have HH := Lib.hid (HB3.out.half HLN.out hT hK hB)
          have hX4 := hK.cells hS.2 (fun hh => hbxr (List.mem_singleton.1 hh))
          clear hT hK hB HB3
          have hS := And.intro HH.out.below hX4
          refine ⟨_, rfl, hS, ?_⟩
          simp only [Act.put, List.setIfInBounds_toArray, List.set_cons_zero, List.set_cons_succ]
          refine s_call 11 rfl (by kernel_rfl) rfl 62 _ _ Try.func62 (by kernel_rfl) rfl _ _ #[.pointer (some ⟨g', 0, none⟩), .int .i64 I, .int .i64 xk] rfl (by simp [Act.put, Act.eval]) (HQ.out _ _ _ _ HH.out.d) ?_
          rintro e w5 ⟨rfl, hR, hK, hB⟩
          have hX5 := hK.cells hS.2 (by decide)
          have HB5 := Lib.hid (HH.out.both hR hK hB)
          clear hR hK hB HH
          have hS := And.intro HB5.out.below hX5
          refine ⟨_, rfl, hS, ?_⟩
          simp only [Act.put, List.setIfInBounds_toArray, List.set_cons_zero, List.set_cons_succ]
          refine s_take 12 (.bool true) hS rfl (by kernel_rfl) (by kernel_rfl) (by kernel_rfl) (fun _ _ _ h => h) rfl (fun w' hw' => by (unfold execOp; simp [go_sem, Act.put, Act.eval])) ?_
          simp only [Act.put, List.setIfInBounds_toArray, List.set_cons_zero, List.set_cons_succ]
          refine s_take 13 (.bool true) hS rfl (by kernel_rfl) (by kernel_rfl) (by kernel_rfl) (fun _ _ _ h => h) rfl (fun w' hw' => by (unfold execOp; simp [go_sem, Act.put, Act.eval])) ?_
          simp only [Act.put, List.setIfInBounds_toArray, List.set_cons_zero, List.set_cons_succ]
          refine s_done (by kernel_rfl) ?_
          clear hS hX4 hX5
          go_wp2_with (first
            | (go_at_call 56; refine (dirty_any HB5.out.t (by rw [HB5.out.len]; omega)).mono ?_; rintro e wa ⟨rfl, hba⟩; have HBa := Lib.hid (HB5.out.next hba); clear hba)
            | (go_at_call 66; refine (rdirty_any HBa.out.d HBa.out.fine (by rw [HBa.out.len]; omega)).mono ?_; rintro e wb ⟨rfl, hbb⟩; have HBb := Lib.hid (HBa.out.next hbb); clear hbb))
          go_roundg (len - (kk + 1))
          case measure => omega
          case rel => exact ⟨kk + 1, _, by omega, by omega, by go_num, ⟨HBb.out⟩⟩
      · as_aux_lemma =>
          obtain ⟨ok, L', hl', hp, hq⟩ := both_back L HF.out (by rw [HLL.out]; omega) I
          have HLN := Lib.hid hl'
          have HP := Lib.hid hp
          have HQ := Lib.hid hq
          clear hl' hp hq
          go_wp2_with (first
            | (go_at_call 57; refine (hpick _).mono ?_; rintro e w2 ⟨rfl, hb2⟩; have HB2 := Lib.hid (HBx.out.next hb2); have HX2 := Lib.hid (hnext hb2 HX0.out); obtain ⟨y0, y1, y2, y3, y4, y5⟩ := xcells6 HX2.out; clear hb2))
          refine s_region (fun u => Below w.heap.size w u ∧ u.heap[wq.heap.size]? = some (.cells #[.int .i64 xw, .int .i64 I, .int .i64 xk, .int .u8 xx, .slice A n0 c0, .slice kA kn kc] 92 (0, 0))) (by kernel_rfl) 10 (by kernel_rfl) ⟨below_drew HB2.out.below, hnext (below_drew (Below.refl w2.heap.size w2)) HX2.out⟩ (fun hS => ?_)
          have HB3 := Lib.hid (HB2.out.next (below_drew (Below.refl w2.heap.size w2)))
          generalize hwd : w2.drew = wd at *
          clear hwd HB2 HX2
          refine s_take 0 (_) hS rfl (by kernel_rfl) (by kernel_rfl) (by kernel_rfl) (fun _ _ _ h => h) rfl (fun w' hw' => run_move_at _ rfl w') ?_
          simp only [Act.put, List.setIfInBounds_toArray, List.set_cons_zero, List.set_cons_succ]
          refine s_take 1 (.pointer (some ⟨wq.heap.size, 1, none⟩)) hS rfl (by kernel_rfl) (by kernel_rfl) (by kernel_rfl) (fun _ _ _ h => h) rfl (fun w' hw' => by (unfold execOp; simp [go_sem, Act.put, Act.eval])) ?_
          simp only [Act.put, List.setIfInBounds_toArray, List.set_cons_zero, List.set_cons_succ]
          refine s_take 2 (.int .i64 I) hS rfl (by kernel_rfl) (by kernel_rfl) (by kernel_rfl) (fun _ _ _ h => h) rfl (fun w' hw' => by (have hc0 := (xcells6 hw'.2).2.1; unfold execOp; simp [go_sem, Act.put, Act.eval, hc0])) ?_
          simp only [Act.put, List.setIfInBounds_toArray, List.set_cons_zero, List.set_cons_succ]
          refine s_take 4 (_) hS rfl (by kernel_rfl) (by kernel_rfl) (by kernel_rfl) (fun _ _ _ h => h) rfl (fun w' hw' => run_move_at _ rfl w') ?_
          simp only [Act.put, List.setIfInBounds_toArray, List.set_cons_zero, List.set_cons_succ]
          refine s_take 5 (.pointer (some ⟨wq.heap.size, 1, none⟩)) hS rfl (by kernel_rfl) (by kernel_rfl) (by kernel_rfl) (fun _ _ _ h => h) rfl (fun w' hw' => by (unfold execOp; simp [go_sem, Act.put, Act.eval])) ?_
          simp only [Act.put, List.setIfInBounds_toArray, List.set_cons_zero, List.set_cons_succ]
          refine s_take 6 (.int .i64 I) hS rfl (by kernel_rfl) (by kernel_rfl) (by kernel_rfl) (fun _ _ _ h => h) rfl (fun w' hw' => by (have hc0 := (xcells6 hw'.2).2.1; unfold execOp; simp [go_sem, Act.put, Act.eval, hc0])) ?_
          simp only [Act.put, List.setIfInBounds_toArray, List.set_cons_zero, List.set_cons_succ]
          refine s_call 3 rfl (by kernel_rfl) rfl 63 _ _ Try.func63 (by kernel_rfl) rfl _ _ #[.pointer (some ⟨g, 0, none⟩), .int .i64 I] rfl (by simp [Act.put, Act.eval]) (HP.out _ _ _ _ HB3.out.t) ?_
          rintro e w4 ⟨rfl, hT, hK, hB⟩
          have HH := Lib.hid (HB3.out.half HLN.out hT hK hB)
          have hX4 := hK.cells hS.2 (fun hh => hbxr (List.mem_singleton.1 hh))
          clear hT hK hB HB3
          have hS := And.intro HH.out.below hX4
          refine ⟨_, rfl, hS, ?_⟩
          simp only [Act.put, List.setIfInBounds_toArray, List.set_cons_zero, List.set_cons_succ]
          refine s_call 7 rfl (by kernel_rfl) rfl 64 _ _ Try.func64 (by kernel_rfl) rfl _ _ #[.pointer (some ⟨g', 0, none⟩), .int .i64 I] rfl (by simp [Act.put, Act.eval]) (HQ.out _ _ _ _ HH.out.d) ?_
          rintro e w5 ⟨rfl, hR, hK, hB⟩
          have hX5 := hK.cells hS.2 (by decide)
          have HB5 := Lib.hid (HH.out.both hR hK hB)
          clear hR hK hB HH
          have hS := And.intro HB5.out.below hX5
          refine ⟨_, rfl, hS, ?_⟩
          simp only [Act.put, List.setIfInBounds_toArray, List.set_cons_zero, List.set_cons_succ]
          refine s_take 8 (.bool true) hS rfl (by kernel_rfl) (by kernel_rfl) (by kernel_rfl) (fun _ _ _ h => h) rfl (fun w' hw' => by (unfold execOp; simp [go_sem, Act.put, Act.eval])) ?_
          simp only [Act.put, List.setIfInBounds_toArray, List.set_cons_zero, List.set_cons_succ]
          refine s_take 9 (.bool true) hS rfl (by kernel_rfl) (by kernel_rfl) (by kernel_rfl) (fun _ _ _ h => h) rfl (fun w' hw' => by (unfold execOp; simp [go_sem, Act.put, Act.eval])) ?_
          simp only [Act.put, List.setIfInBounds_toArray, List.set_cons_zero, List.set_cons_succ]
          refine s_done (by kernel_rfl) ?_
          clear hS hX4 hX5
          go_wp2_with (first
            | (go_at_call 56; refine (dirty_any HB5.out.t (by rw [HB5.out.len]; omega)).mono ?_; rintro e wa ⟨rfl, hba⟩; have HBa := Lib.hid (HB5.out.next hba); clear hba)
            | (go_at_call 66; refine (rdirty_any HBa.out.d HBa.out.fine (by rw [HBa.out.len]; omega)).mono ?_; rintro e wb ⟨rfl, hbb⟩; have HBb := Lib.hid (HBa.out.next hbb); clear hbb))
          go_roundg (len - (kk + 1))
          case measure => omega
          case rel => exact ⟨kk + 1, _, by omega, by omega, by go_num, ⟨HBb.out⟩⟩
      · as_aux_lemma =>
          by_cases hin : 0 ≤ I ∧ I < L.length
          · obtain ⟨i, rfl⟩ := Int.eq_ofNat_of_zero_le hin.1
            obtain ⟨b, hb⟩ : ∃ b, L[i]? = some b := ⟨_, List.getElem?_eq_getElem (by omega)⟩
            obtain ⟨xs, hxs⟩ : ∃ xs, xs = b.now := ⟨_, rfl⟩
            have HPR := Lib.hid (show ∀ W, DTab w.heap.size W g r L → Calls Try.prog 54 #[.pointer (some ⟨g, 0, none⟩), .int .i64 i] W (ReadOut xs W) from fun W hW => by rw [hxs]; exact read_in hW i b hb (by rw [HLL.out]; omega))
            have HRR := Lib.hid (show ∀ W, RD w.heap.size W g' vs L → Calls Try.prog 55 #[.pointer (some ⟨g', 0, none⟩), .int .i64 i] W (TellsS xs W) from fun W hW => by rw [hxs]; exact rread_in hW i b hb (HF.out i b hb) (by rw [HLL.out]; omega))
            have HRH := Lib.hid (show ∀ W, RD w.heap.size W g' vs L → Calls Try.prog 65 #[.pointer (some ⟨g', 0, none⟩), .int .i64 i] W (fun e w' => e = .returned (.bool true) ∧ Below W.heap.size W w') from fun W hW => by have h := rhas_any hW i; rw [decide_eq_true hin] at h; exact h)
            have HXL := Lib.hid (show xs.length = 72 from by rw [hxs]; exact (HF.out i b hb).now_len)
            clear hxs hb hin
            go_wp2_with (first
              | (go_at_call 57; refine (hpick _).mono ?_; rintro e w2 ⟨rfl, hb2⟩; have HB2 := Lib.hid (HBx.out.next hb2); have HX2 := Lib.hid (hnext hb2 HX0.out); obtain ⟨y0, y1, y2, y3, y4, y5⟩ := xcells6 HX2.out; clear hb2)
              | (go_at_call 54; refine (HPR.out _ HB2.out.t).mono ?_; rintro e w3 ⟨gx, rfl, hgx, hA, hb⟩; have HB3 := Lib.hid (HB2.out.next hb); have HA3 := Lib.hid hA; have HX3 := Lib.hid (hnext hb HX2.out); have HGX := Lib.hid (Nat.le_trans HB2.out.t.le hgx); obtain ⟨z0, z1, z2, z3, z4, z5⟩ := xcells6 HX3.out; clear hA hb hgx)
              | (go_at_call 65; refine (HRH.out _ HB3.out.d).mono ?_; rintro e w4 ⟨rfl, hb⟩; have HB4 := Lib.hid (HB3.out.next hb); have HA4 := Lib.hid (HA3.out.next hb); have HX4 := Lib.hid (hnext hb HX3.out); clear hb))
            refine s_region (fun u => Below w4.drew.heap.size w4.drew u) (by kernel_rfl) 12 (by kernel_rfl) (Below.refl _ _) (fun hS => ?_)
            have HBd := Lib.hid (HB4.out.next (below_drew (Below.refl w4.heap.size w4)))
            have HAd := Lib.hid (HA4.out.next (below_drew (Below.refl w4.heap.size w4)))
            have HXd := Lib.hid (hnext (below_drew (Below.refl w4.heap.size w4)) HX4.out)
            generalize hwd : w4.drew = wd at *
            clear hwd HB4 HA4 HX4
            refine s_take 0 (_) hS rfl (by kernel_rfl) (by kernel_rfl) (by kernel_rfl) (fun _ _ _ h => h) rfl (fun w' hw' => run_move_at _ rfl w') ?_
            simp only [Act.put, List.setIfInBounds_toArray, List.set_cons_zero, List.set_cons_succ]
            refine s_take 1 (.string (strOfNums xs)) hS rfl (by kernel_rfl) (by kernel_rfl) (by kernel_rfl) (fun _ _ _ h => h) rfl (fun w' hw' => by (have hc0 := Kd.C_string (P := Try.prog) (dst := 9) (c := 72) Try.underlying29 Try.underlying5 Try.underlying9 ((HAd.out.next hw').reads 72 HXL.out (by decide)); unfold execOp; simp [go_sem, Act.put, Act.eval, hc0])) ?_
            simp only [Act.put, List.setIfInBounds_toArray, List.set_cons_zero, List.set_cons_succ]
            refine s_take 2 (_) hS rfl (by kernel_rfl) (by kernel_rfl) (by kernel_rfl) (fun _ _ _ h => h) rfl (fun w' hw' => run_move_at _ rfl w') ?_
            simp only [Act.put, List.setIfInBounds_toArray, List.set_cons_zero, List.set_cons_succ]
            refine s_take 3 (.pointer (some ⟨wq.heap.size, 1, none⟩)) hS rfl (by kernel_rfl) (by kernel_rfl) (by kernel_rfl) (fun _ _ _ h => h) rfl (fun w' hw' => by (unfold execOp; simp [go_sem, Act.put, Act.eval])) ?_
            simp only [Act.put, List.setIfInBounds_toArray, List.set_cons_zero, List.set_cons_succ]
            refine s_take 4 (.int .i64 (i : Int)) hS rfl (by kernel_rfl) (by kernel_rfl) (by kernel_rfl) (fun _ _ _ h => h) rfl (fun w' hw' => by (have hc0 := (xcells6 (hnext hw' HXd.out)).2.1; unfold execOp; simp [go_sem, Act.put, Act.eval, hc0])) ?_
            simp only [Act.put, List.setIfInBounds_toArray, List.set_cons_zero, List.set_cons_succ]
            refine s_call 5 rfl (by kernel_rfl) rfl 55 _ _ Try.func55 (by kernel_rfl) rfl _ _ #[.pointer (some ⟨g', 0, none⟩), .int .i64 (i : Int)] rfl (by simp [Act.put, Act.eval]) (HRR.out _ HBd.out.d) ?_
            rintro e w5 ⟨rfl, hb⟩
            have HB5 := Lib.hid (HBd.out.next hb)
            have HA5 := Lib.hid (HAd.out.next hb)
            have hS := hb
            refine ⟨_, rfl, hS, ?_⟩
            simp only [Act.put, List.setIfInBounds_toArray, List.set_cons_zero, List.set_cons_succ]
            refine s_take 6 (.bool true) hS rfl (by kernel_rfl) (by kernel_rfl) (by kernel_rfl) (fun _ _ _ h => h) rfl (fun w' hw' => by (unfold execOp; simp [go_sem, Act.put, Act.eval])) ?_
            simp only [Act.put, List.setIfInBounds_toArray, List.set_cons_zero, List.set_cons_succ]
            refine s_take 7 (_) hS rfl (by kernel_rfl) (by kernel_rfl) (by kernel_rfl) (fun _ _ _ h => h) rfl (fun w' hw' => run_move_at _ rfl w') ?_
            simp only [Act.put, List.setIfInBounds_toArray, List.set_cons_zero, List.set_cons_succ]
            refine s_take 8 (_) hS rfl (by kernel_rfl) (by kernel_rfl) (by kernel_rfl) (fun _ _ _ h => h) rfl (fun w' hw' => run_move_at _ rfl w') ?_
            simp only [Act.put, List.setIfInBounds_toArray, List.set_cons_zero, List.set_cons_succ]
            refine s_take 9 (.bool true) hS rfl (by kernel_rfl) (by kernel_rfl) (by kernel_rfl) (fun _ _ _ h => h) rfl (fun w' hw' => by (unfold execOp; simp [go_sem, Act.put, Act.eval])) ?_
            simp only [Act.put, List.setIfInBounds_toArray, List.set_cons_zero, List.set_cons_succ]
            refine s_take 10 (.bool true) hS rfl (by kernel_rfl) (by kernel_rfl) (by kernel_rfl) (fun _ _ _ h => h) rfl (fun w' hw' => by (unfold execOp; simp [go_sem, Act.put, Act.eval])) ?_
            simp only [Act.put, List.setIfInBounds_toArray, List.set_cons_zero, List.set_cons_succ]
            refine s_take 11 (.bool true) hS rfl (by kernel_rfl) (by kernel_rfl) (by kernel_rfl) (fun _ _ _ h => h) rfl (fun w' hw' => by (unfold execOp; simp [go_sem, Act.put, Act.eval])) ?_
            simp only [Act.put, List.setIfInBounds_toArray, List.set_cons_zero, List.set_cons_succ]
            refine s_done (by kernel_rfl) ?_
            clear hS hb HBd HAd HXd
            go_wp2
            go_loopg [16] 72 (fun gg s16 wr => ∃ (k : Nat) (ys : List Int), k ≤ 72 ∧ 72 - k ≤ gg ∧ s16 = .int .i64 k ∧ ys.length = 72 ∧ Aside0 (Arr .u8 160 wr gx ys) ∧ Aside0 (Both w.heap.size w wr g r g' vs n L))
            case atStart => exact ⟨0, xs, Nat.zero_le _, by omega, rfl, HXL.out, ⟨HA5.out⟩, ⟨HB5.out⟩⟩
            case round =>
              clear HA5 HB5
              obtain ⟨k, ys, hk, hg3, rfl, hyl, HA, HBo⟩ := hrel
              by_cases hlt3 : k < 72
              · have hk1 : (k : Int) < 72 := by omega
                have hk2 : ¬ (k : Int) < 0 := by omega
                have hk3 : k ≤ 9223372036854775807 := by omega
                have hcy := HA.out.cellN k (by rw [hyl]; exact hlt3)
                have hfz := HA.out.free k
                have HYL := Lib.hid hyl
                clear hyl
                go_wp2
                go_roundg (72 - (k + 1))
                case measure => omega
                case rel => exact ⟨k + 1, ys.set k _, by omega, by omega, by go_num, by rw [List.length_set]; exact HYL.out, ⟨HA.out.put k _⟩, ⟨HBo.out.bump HA.out.out HGX.out (by decide) (by decide) (by decide) (by decide) k _⟩⟩
              · have hk1 : ¬ (k : Int) < 72 := by omega
                go_wp2_with (first
                  | (go_at_call 56; refine (dirty_any HBo.out.t (by rw [HBo.out.len]; omega)).mono ?_; rintro e wa ⟨rfl, hba⟩; have HBa := Lib.hid (HBo.out.next hba); clear hba)
                  | (go_at_call 66; refine (rdirty_any HBa.out.d HBa.out.fine (by rw [HBa.out.len]; omega)).mono ?_; rintro e wb ⟨rfl, hbb⟩; have HBb := Lib.hid (HBa.out.next hbb); clear hbb))
                go_roundg (len - (kk + 1))
                case measure => omega
                case rel => exact ⟨kk + 1, _, by omega, by omega, by go_num, ⟨HBb.out⟩⟩
          · have HPR := Lib.hid (show ∀ W, DTab w.heap.size W g r L → Calls Try.prog 54 #[.pointer (some ⟨g, 0, none⟩), .int .i64 I] W (fun e w' => e = .returned (.tuple #[.slice none 0 0, .int .i64 1]) ∧ Below W.heap.size W w') from fun W hW => read_out hW I hin)
            have HRH := Lib.hid (show ∀ W, RD w.heap.size W g' vs L → Calls Try.prog 65 #[.pointer (some ⟨g', 0, none⟩), .int .i64 I] W (fun e w' => e = .returned (.bool false) ∧ Below W.heap.size W w') from fun W hW => by have h := rhas_any hW I; rw [decide_eq_false hin] at h; exact h)
            clear hin
            go_wp2_with (first
              | (go_at_call 57; refine (hpick _).mono ?_; rintro e w2 ⟨rfl, hb2⟩; have HB2 := Lib.hid (HBx.out.next hb2); have HX2 := Lib.hid (hnext hb2 HX0.out); obtain ⟨y0, y1, y2, y3, y4, y5⟩ := xcells6 HX2.out; clear hb2)
              | (go_at_call 54; refine (HPR.out _ HB2.out.t).mono ?_; rintro e w3 ⟨rfl, hb⟩; have HB3 := Lib.hid (HB2.out.next hb); have HX3 := Lib.hid (hnext hb HX2.out); obtain ⟨z0, z1, z2, z3, z4, z5⟩ := xcells6 HX3.out; clear hb)
              | (go_at_call 65; refine (HRH.out _ HB3.out.d).mono ?_; rintro e w4 ⟨rfl, hb⟩; have HB4 := Lib.hid (HB3.out.next hb); clear hb)
              | (go_at_call 56; refine (dirty_any HB4.out.t (by rw [HB4.out.len]; omega)).mono ?_; rintro e wa ⟨rfl, hba⟩; have HBa := Lib.hid (HB4.out.next hba); clear hba)
              | (go_at_call 66; refine (rdirty_any HBa.out.d HBa.out.fine (by rw [HBa.out.len]; omega)).mono ?_; rintro e wb ⟨rfl, hbb⟩; have HBb := Lib.hid (HBa.out.next hbb); clear hbb))
            go_roundg (len - (kk + 1))
            case measure => omega
            case rel => exact ⟨kk + 1, _, by omega, by omega, by go_num, ⟨HBb.out⟩⟩
    · have hltz : ¬ (kk : Int) < (len : Int) := by omega
      as_aux_lemma =>
        obtain ⟨wz, hwz⟩ : ∃ wz : World, wz = wr := ⟨_, rfl⟩
        subst hwz
        have hLn := HB.out.len
        have HLL := Lib.hid hLn
        clear hLn
        go_wp2
        go_loopg [17] n (fun gg s17 wr => ∃ i : Nat, i ≤ n ∧ n - i ≤ gg ∧ s17 = .int .i64 i ∧ Aside0 (Both w.heap.size w wr g r g' vs n L))
        case atStart => exact ⟨0, Nat.zero_le _, by omega, rfl, ⟨HB.out⟩⟩
        case round =>
          clear HB
          obtain ⟨i, hi, hg2, rfl, HB2⟩ := hrel
          by_cases hlt2 : i < n
          · have hi1 : (i : Int) < (n : Int) := by omega
            obtain ⟨b, hb⟩ : ∃ b, L[i]? = some b := ⟨_, List.getElem?_eq_getElem (by rw [HLL.out]; exact hlt2)⟩
            obtain ⟨xs, hxs⟩ : ∃ xs, xs = b.now := ⟨_, rfl⟩
            have hfin := HB2.out.fine i b hb
            have HPR := Lib.hid (show ∀ W, DTab w.heap.size W g r L → Calls Try.prog 54 #[.pointer (some ⟨g, 0, none⟩), .int .i64 i] W (ReadOut xs W) from fun W hW => by rw [hxs]; exact read_in hW i b hb (by rw [HLL.out]; omega))
            have HRR := Lib.hid (show ∀ W, RD w.heap.size W g' vs L → Calls Try.prog 55 #[.pointer (some ⟨g', 0, none⟩), .int .i64 i] W (TellsS xs W) from fun W hW => by rw [hxs]; exact rread_in hW i b hb hfin (by rw [HLL.out]; omega))
            have HXL := Lib.hid (show xs.length = 72 from by rw [hxs]; exact hfin.now_len)
            clear hxs hb hfin
            go_wp2_with (go_at_call 54; refine (HPR.out _ HB2.out.t).mono ?_; rintro e w4 ⟨gx, rfl, hgx, hA, hb⟩; have HB4 := Lib.hid (HB2.out.next hb); have HA4 := Lib.hid hA; clear hA hb hgx)
            refine s_region (fun u => Below w4.drew.heap.size w4.drew u) (by kernel_rfl) 10 (by kernel_rfl) (Below.refl _ _) (fun hS => ?_)
            have HBd := Lib.hid (HB4.out.next (below_drew (Below.refl w4.heap.size w4)))
            have HAd := Lib.hid (HA4.out.next (below_drew (Below.refl w4.heap.size w4)))
            generalize hwd : w4.drew = wd at *
            clear hwd HB4 HA4
            refine s_take 0 (_) hS rfl (by kernel_rfl) (by kernel_rfl) (by kernel_rfl) (fun _ _ _ h => h) rfl (fun w' hw' => run_move_at _ rfl w') ?_
            simp only [Act.put, List.setIfInBounds_toArray, List.set_cons_zero, List.set_cons_succ]
            refine s_take 1 (.string (strOfNums xs)) hS rfl (by kernel_rfl) (by kernel_rfl) (by kernel_rfl) (fun _ _ _ h => h) rfl (fun w' hw' => by (have hc0 := Kd.C_string (P := Try.prog) (dst := 9) (c := 72) Try.underlying29 Try.underlying5 Try.underlying9 ((HAd.out.next hw').reads 72 HXL.out (by decide)); unfold execOp; simp [go_sem, Act.put, Act.eval, hc0])) ?_
            simp only [Act.put, List.setIfInBounds_toArray, List.set_cons_zero, List.set_cons_succ]
            refine s_take 2 (_) hS rfl (by kernel_rfl) (by kernel_rfl) (by kernel_rfl) (fun _ _ _ h => h) rfl (fun w' hw' => run_move_at _ rfl w') ?_
            simp only [Act.put, List.setIfInBounds_toArray, List.set_cons_zero, List.set_cons_succ]
            refine s_take 3 (_) hS rfl (by kernel_rfl) (by kernel_rfl) (by kernel_rfl) (fun _ _ _ h => h) rfl (fun w' hw' => run_move_at _ rfl w') ?_
            simp only [Act.put, List.setIfInBounds_toArray, List.set_cons_zero, List.set_cons_succ]
            refine s_call 4 rfl (by kernel_rfl) rfl 55 _ _ Try.func55 (by kernel_rfl) rfl _ _ #[.pointer (some ⟨g', 0, none⟩), .int .i64 (i : Int)] rfl (by simp [Act.put, Act.eval]) (HRR.out _ HBd.out.d) ?_
            rintro e w5 ⟨rfl, hb⟩
            have HB5 := Lib.hid (HBd.out.next hb)
            have hS := hb
            refine ⟨_, rfl, hS, ?_⟩
            simp only [Act.put, List.setIfInBounds_toArray, List.set_cons_zero, List.set_cons_succ]
            refine s_take 5 (.bool false) hS rfl (by kernel_rfl) (by kernel_rfl) (by kernel_rfl) (fun _ _ _ h => h) rfl (fun w' hw' => by (unfold execOp; simp [go_sem, Act.put, Act.eval])) ?_
            simp only [Act.put, List.setIfInBounds_toArray, List.set_cons_zero, List.set_cons_succ]
            refine s_take 6 (_) hS rfl (by kernel_rfl) (by kernel_rfl) (by kernel_rfl) (fun _ _ _ h => h) rfl (fun w' hw' => run_move_at _ rfl w') ?_
            simp only [Act.put, List.setIfInBounds_toArray, List.set_cons_zero, List.set_cons_succ]
            refine s_take 7 (_) hS rfl (by kernel_rfl) (by kernel_rfl) (by kernel_rfl) (fun _ _ _ h => h) rfl (fun w' hw' => run_move_at _ rfl w') ?_
            simp only [Act.put, List.setIfInBounds_toArray, List.set_cons_zero, List.set_cons_succ]
            refine s_take 8 (.bool false) hS rfl (by kernel_rfl) (by kernel_rfl) (by kernel_rfl) (fun _ _ _ h => h) rfl (fun w' hw' => by (unfold execOp; simp [go_sem, Act.put, Act.eval])) ?_
            simp only [Act.put, List.setIfInBounds_toArray, List.set_cons_zero, List.set_cons_succ]
            refine s_take 9 (.bool false) hS rfl (by kernel_rfl) (by kernel_rfl) (by kernel_rfl) (fun _ _ _ h => h) rfl (fun w' hw' => by (unfold execOp; simp [go_sem, Act.put, Act.eval])) ?_
            simp only [Act.put, List.setIfInBounds_toArray, List.set_cons_zero, List.set_cons_succ]
            refine s_done (by kernel_rfl) ?_
            clear hS hb HBd HAd
            go_wp2
            go_roundg (n - (i + 1))
            case measure => omega
            case rel => exact ⟨i + 1, by omega, by omega, by go_num, ⟨HB5.out⟩⟩
          · have hi1 : ¬ (i : Int) < (n : Int) := by omega
            have hbl : Calls Try.prog 67 #[.pointer (some ⟨g, 0, none⟩)] wr (TellsP (.int .i64 n) wr) := by have h := blocks_any HB2.out.t; rw [HLL.out] at h; exact h
            go_wp2_with (first
              | (go_at_call 67; refine hbl.mono ?_; rintro e w8 ⟨rfl, hb⟩; have HB8 := Lib.hid (HB2.out.next hb); clear hb)
              | (go_at_call 47; refine (hkn _).mono ?_; rintro e w9 ⟨rfl, hb⟩; have HB9 := Lib.hid (HB8.out.next hb); clear hb))
            go_ret
            exact ⟨rfl, HB9.out.below⟩
end Go.Proofs.Ytoiiacbbfhlocaa.HDa
