/- Layer 19: the walk of LockPlays. -/
import Derived.Test.YtoiiacbbfhlocaaHLm
import Derived.Test.YtoiiacbbfhlocaaLr1
import Derived.Test.YtoiiacbbfhlocaaRowD
set_option linter.unusedVariables false
set_option linter.unusedSimpArgs false
namespace Go.Proofs.Ytoiiacbbfhlocaa.HLa
open Go.RowKit Go.Proofs.YtoiiacbbfhlocaaW.PrintWords Go.Proofs.YtoiiacbbfhlocaaW.PrintLast Go.Proofs.YtoiiacbbfhlocaaW.PrintMore Go.Proofs.Ytoiiacbbfhlocaa.Kit Go.Proofs.Ytoiiacbbfhlocaa.Lr
theorem ints_l0 (l : List Int) (hm : l.length ≤ 1000000) : ∀ (d j : Nat), j + d = l.length → padlockref10_Ints.l0 (d + 1) l l (j : Int) = some true
  | 0, j, h => by
    unfold padlockref10_Ints.l0
    rw [if_neg (by omega)]
  | d + 1, j, h => by
    unfold padlockref10_Ints.l0
    rw [if_pos (by omega), if_pos (by omega), if_pos (by omega), if_pos rfl]
    have e : wrap64 ((j : Int) + 1) = ((j + 1 : Nat) : Int) := by unfold wrap64; omega
    rw [e]
    exact ints_l0 l hm d (j + 1) (by omega)
theorem ints_any (l : List Int) (hm : l.length ≤ 1000000) (A0 : Option Addr) (c0 : Nat) (A1 : Option Addr) (c1 : Nat) (w : World) (h0 : Kd.C (Kd.int .i64) w A0 l.length l) (hc0 : l.length ≤ c0) (h1 : Kd.C (Kd.int .i64) w A1 l.length l) (hc1 : l.length ≤ c1) : Calls Try.prog 45 #[.slice A0 l.length c0, .slice A1 l.length c1] w (TellsL true w) := by
  refine (padlockref10_Ints.calls (l.length + 1) A0 c0 l A1 c1 l true w h0 hc0 h1 hc1 ?_).mono fun e w' h => ⟨h.1, h.2.below⟩
  unfold padlockref10_Ints.f
  rw [if_pos rfl]
  exact ints_l0 l hm l.length 0 (by omega)
/-- the rows are as many as asks -/
theorem rowR_le (L : List RA) (i : Int) : (rowR L i).length ≤ L.length := by
  unfold rowR
  rw [List.length_map]
  exact List.length_filter_le _ _
theorem deed_at {W w : World} {z : List Deed4} {a : Option Addr} (hz : ∀ (i : Nat) (x : Deed4), z[i]? = some x → (∃ ad, a = some ad ∧ ∀ (j : Nat) (v : Value), (d4C x)[j]? = some v → w.cell? (ad.add (i * 4 + j)) = some v) ∧ (Lit.int .i64 x.2.1).wf = true ∧ (Lit.int .i64 x.2.2.1).wf = true) (hb : Below w.heap.size w W) (i : Nat) (dr wv : Bool) (I C : Int) (h : z[i]? = some (dr, I, C, wv)) :
    ∃ ad : Addr, a = some ad ∧ W.cell? (ad.add (i * 4)) = some (.bool dr) ∧ W.cell? ⟨(ad.add (i * 4)).block, (ad.add (i * 4)).off + 1, none⟩ = some (.int .i64 I) ∧ W.cell? ⟨(ad.add (i * 4)).block, (ad.add (i * 4)).off + 2, none⟩ = some (.int .i64 C) ∧ W.cell? ⟨(ad.add (i * 4)).block, (ad.add (i * 4)).off + 3, none⟩ = some (.bool wv) := by
  obtain ⟨⟨ad, ha, hc⟩, -, -⟩ := hz i _ h
  have key : ∀ (j : Nat) (v : Value), (d4C (dr, I, C, wv))[j]? = some v → W.cell? (ad.add (i * 4 + j)) = some v := fun j v hv => pw_cell_below hb (hc j v hv)
  exact ⟨ad, ha, key 0 _ rfl, by rw [← add_field _ _ 1 (by omega)]; exact key 1 _ rfl, by rw [← add_field _ _ 2 (by omega)]; exact key 2 _ rfl, by rw [← add_field _ _ 3 (by omega)]; exact key 3 _ rfl⟩
theorem xcells {W : World} {b : Nat} {dr wv : Bool} {I C : Int} (h : W.heap[b]? = some (.cells #[.bool dr, .int .i64 I, .int .i64 C, .bool wv] 73 (0, 0))) : W.cell? ⟨b, 0, none⟩ = some (.bool dr) ∧ W.cell? ⟨b, 1, none⟩ = some (.int .i64 I) ∧ W.cell? ⟨b, 2, none⟩ = some (.int .i64 C) ∧ W.cell? ⟨b, 3, none⟩ = some (.bool wv) :=
  ⟨(blk_cell h 0).trans rfl, (blk_cell h 1).trans rfl, (blk_cell h 2).trans rfl, (blk_cell h 3).trans rfl⟩
theorem blk_next {W W' : World} {b : Nat} {cs : Array Value} {t : TypeId} {fr : Nat × Nat} (h : W.heap[b]? = some (.cells cs t fr)) (hb : Below W.heap.size W W') : W'.heap[b]? = some (.cells cs t fr) := (hb.block b (Array.getElem?_eq_some_iff.1 h).1).trans h
set_option maxRecDepth 100000 in
set_option maxHeartbeats 8000000 in
theorem lockPlays_walk (locks : Int) (a : Option Addr) (len cap : Nat) (z : List Deed4) (w : World) (hl : (Lit.int .i64 locks).wf = true) (hzl : z.length = len) (hzc : len ≤ cap)
    (hz : ∀ (i : Nat) (x : Deed4), z[i]? = some x → (∃ ad, a = some ad ∧ ∀ (j : Nat) (v : Value), (d4C x)[j]? = some v → w.cell? (ad.add (i * 4 + j)) = some v) ∧ (Lit.int .i64 x.2.1).wf = true ∧ (Lit.int .i64 x.2.2.1).wf = true) :
    Calls Try.prog 8 #[.int .i64 locks, .slice a len cap] w fun e w' => e = .returned (.bool true) ∧ Below w.heap.size w w' := by
  have hkn := knows19_any w
  by_cases hbig : len > 80 ∨ (locks > 10 ∧ locks ≤ 64)
  · have hz' := Lib.hid hz
    clear hz hl
    rcases hbig with h | ⟨h1, h2⟩
    · have h' : (len : Int) > 80 := by omega
      go_enter Try.func8, Try.ntmps8
      go_wp2_with (go_at_call 35; refine hkn.mono ?_; rintro e w1 ⟨rfl, hb1⟩)
      go_ret
      exact ⟨rfl, hb1⟩
    · by_cases h3 : (len : Int) > 80
      · go_enter Try.func8, Try.ntmps8
        go_wp2_with (go_at_call 35; refine hkn.mono ?_; rintro e w1 ⟨rfl, hb1⟩)
        go_ret
        exact ⟨rfl, hb1⟩
      · go_enter Try.func8, Try.ntmps8
        go_wp2_with (go_at_call 35; refine hkn.mono ?_; rintro e w1 ⟨rfl, hb1⟩)
        go_ret
        exact ⟨rfl, hb1⟩
  · have h1 : ¬ (len : Int) > 80 := fun h => hbig (.inl (by omega))
    have h2 : ¬ (locks > 10 ∧ locks ≤ 64) := fun h => hbig (.inr h)
    clear hbig hkn
    have hkn : ∀ W, Calls Try.prog 35 #[] W (TellsL true W) := knows19_any
    by_cases hbad : locks < 1 ∨ 64 < locks
    · have hnew := new_bad locks w hbad
      have hz' := Lib.hid hz
      clear hz hl hzl
      rcases hbad with hb | hb
      · have g1 : ¬ locks > 10 := by omega
        go_enter Try.func8, Try.ntmps8
        go_wp2_with (first
          | (go_at_call 36; refine hnew.mono ?_; rintro e w1 ⟨rfl, he⟩; obtain rfl := he.symm)
          | (go_at_call 35; refine (hkn _).mono ?_; rintro e w2 ⟨rfl, hb2⟩))
        go_ret
        exact ⟨rfl, hb2⟩
      · have g1 : locks > 10 := by omega
        have g2 : ¬ locks ≤ 64 := by omega
        have g3 : locks > 64 := hb
        have g4 : ¬ locks < 1 := by omega
        go_enter Try.func8, Try.ntmps8
        go_wp2_with (first
          | (go_at_call 36; refine hnew.mono ?_; rintro e w1 ⟨rfl, he⟩; obtain rfl := he.symm)
          | (go_at_call 35; refine (hkn _).mono ?_; rintro e w2 ⟨rfl, hb2⟩))
        go_ret
        exact ⟨rfl, hb2⟩
    · obtain ⟨n, rfl⟩ := Int.eq_ofNat_of_zero_le (show 0 ≤ locks by omega)
      have n1 : 1 ≤ n := by omega
      have n2 : n ≤ 10 := by omega
      have g1 : ¬ (n : Int) > 10 := by omega
      have g2 : ¬ (n : Int) < 1 := by omega
      have g3 : ¬ (n : Int) > 64 := by omega
      have hnew := new_any n w n1 (by omega)
      have HZ := Lib.hid hz
      have HZL := Lib.hid hzl
      have hlen : len ≤ 80 := by omega
      clear hz hl hbad h2 hzl
      go_enter Try.func8, Try.ntmps8
      go_wp2_with (go_at_call 36; refine hnew.mono ?_; rintro e w1 ⟨g, r, vs1, rfl, hT1, hB1⟩; have HT1 := Lib.hid hT1; have HB1 := Lib.hid hB1; clear hT1 hB1)
      have hTw : ∃ g', g' = w1.heap.size ∧ Two w.heap.size (w1.alloc (.cells #[.int .i64 n, .slice none 0 0] 71)) g r g' n (List.replicate n []) [] := by
        refine ⟨_, rfl, ⟨vs1, HT1.out.next (below_alloc (Below.refl _ _) _)⟩, ⟨.slice none 0 0, ⟨heap_alloc_new w1 _, HB1.out.size, ⟨rfl, .inl ⟨rfl, rfl⟩⟩⟩⟩, .new n, (below_alloc HB1.out _).size⟩
      obtain ⟨g', hg', hTw⟩ := hTw
      have HTw := Lib.hid hTw
      have HBw := Lib.hid (below_alloc HB1.out (.cells #[.int .i64 n, .slice none 0 0] 71))
      rw [← hg']
      clear hTw HT1 HB1
      have HG := Lib.hid hg'
      clear hg'
      go_loopg [8] len (fun gg s8 wr => ∃ (kk : Nat) (T : List (List (Int × Bool))) (L : List RA), kk ≤ len ∧ len - kk ≤ gg ∧ s8 = .int .i64 kk ∧ Aside0 (Two w.heap.size wr g r g' n T L) ∧ L.length ≤ kk ∧ Aside0 (Below w.heap.size w wr))
      case atStart => exact ⟨0, _, [], Nat.zero_le _, by omega, rfl, ⟨HTw.out⟩, Nat.le_refl _, ⟨HBw.out⟩⟩
      case round =>
        obtain ⟨kk, T, L, hkk, hg, rfl, HT, hLk, HB⟩ := hrel
        by_cases hlt : kk < len
        · have hltz : (kk : Int) < (len : Int) := by omega
          obtain ⟨⟨dr, I, C, wv⟩, hx⟩ : ∃ x, z[kk]? = some x := ⟨_, List.getElem?_eq_getElem (by rw [HZL.out]; exact hlt)⟩
          obtain ⟨ad, rfl, c0, c1, c2, c3⟩ := deed_at HZ.out HB.out kk dr wv I C hx
          have hml0 : L.length ≤ 100000 := by omega
          have hnn : n ≤ 1000 := by omega
          obtain ⟨D, hD⟩ : ∃ D, D = deedF n L dr I C wv := ⟨_, rfl⟩
          have HD := Lib.hid hD
          have hDl : D.2.length ≤ L.length + 1 := by rw [hD]; exact deedF_len _ _ _ _ _ _
          have hx0 : (wr.alloc (.cells #[.bool dr, .int .i64 I, .int .i64 C, .bool wv] 73)).heap[wr.heap.size]? = some (.cells #[.bool dr, .int .i64 I, .int .i64 C, .bool wv] 73 (0, 0)) := heap_alloc_new wr _
          have HX0 := Lib.hid hx0
          have HTx := Lib.hid (HT.out.next (below_alloc (Below.refl _ _) (.cells #[.bool dr, .int .i64 I, .int .i64 C, .bool wv] 73)))
          have HBx := Lib.hid ((HB.out).trans ((below_alloc (Below.refl wr.heap.size wr) (.cells #[.bool dr, .int .i64 I, .int .i64 C, .bool wv] 73)).mono HB.out.size))
          have hml : D.2.length ≤ 100000 := by omega
          clear hD hx hx0 HT HB
          cases dr
          focus
            have HP := Lib.hid (p_ask (i := I) (c := C) (wr := wv) HTx.out hml0 hnn)
            rw [← HD.out] at HP
            have HR := Lib.hid (show ∀ W T2, Half w.heap.size W g r g' n T2 L D.2 → Calls Try.prog 40 #[.pointer (some ⟨g', 0, none⟩), .int .i64 I, .int .i64 C, .bool wv] W (TwoOut w.heap.size g r g' n T2 D W) from fun W T2 h => by rw [HD.out] at h ⊢; exact r_ask h hml0)
            go_wp2_with (first
              | (go_at_call 39; refine HP.out.mono ?_; rintro e w2 ⟨rfl, ⟨T2, hH2⟩, hK2, hB2⟩; have HH2 := Lib.hid hH2; have HB2 := Lib.hid (HBx.out.trans hB2); have HX2 := Lib.hid (hK2.cells HX0.out (by decide)); obtain ⟨y0, y1, y2, y3⟩ := xcells HX2.out; clear hH2 hK2 hB2 HTx HBx HX0)
              | (go_at_call 40; refine (HR.out _ _ HH2.out).mono ?_; rintro e w3 ⟨rfl, hT3, hK3, hB3⟩; have HT3 := Lib.hid hT3; have HB3 := Lib.hid (HB2.out.trans hB3); have HX3 := Lib.hid (hK3.cells HX2.out (by decide)); obtain ⟨z0, z1, z2, z3⟩ := xcells HX3.out; clear hT3 hK3 hB3 HH2 HB2 HX2))
          rotate_left
          focus
            have HP := Lib.hid (p_drop (i := I) (c := C) (wr := wv) HTx.out hml0 hnn)
            rw [← HD.out] at HP
            have HR := Lib.hid (show ∀ W T2, Half w.heap.size W g r g' n T2 L D.2 → Calls Try.prog 38 #[.pointer (some ⟨g', 0, none⟩), .int .i64 I, .int .i64 C] W (TwoOut w.heap.size g r g' n T2 D W) from fun W T2 h => by rw [HD.out] at h ⊢; exact r_drop h hml0)
            go_wp2_with (first
              | (go_at_call 37; refine HP.out.mono ?_; rintro e w2 ⟨rfl, ⟨T2, hH2⟩, hK2, hB2⟩; have HH2 := Lib.hid hH2; have HB2 := Lib.hid (HBx.out.trans hB2); have HX2 := Lib.hid (hK2.cells HX0.out (by decide)); obtain ⟨y0, y1, y2, y3⟩ := xcells HX2.out; clear hH2 hK2 hB2 HTx HBx HX0)
              | (go_at_call 38; refine (HR.out _ _ HH2.out).mono ?_; rintro e w3 ⟨rfl, hT3, hK3, hB3⟩; have HT3 := Lib.hid hT3; have HB3 := Lib.hid (HB2.out.trans hB3); have HX3 := Lib.hid (hK3.cells HX2.out (by decide)); obtain ⟨z0, z1, z2, z3⟩ := xcells HX3.out; clear hT3 hK3 hB3 HH2 HB2 HX2))
          all_goals
            have HDL := Lib.hid hDl
            refine s_region (fun u => Below w3.drew.heap.size w3.drew u) (by kernel_rfl) 29 (by kernel_rfl) (Below.refl _ _) (fun hS => ?_)
            have HT4 := Lib.hid (HT3.out.next (below_drew (Below.refl w3.heap.size w3)))
            have HB4 := Lib.hid (below_drew HB3.out)
            have HX4 := Lib.hid (blk_next HX3.out (below_drew (Below.refl w3.heap.size w3)))
            generalize hwd : w3.drew = wd at *
            clear hwd HT3 HB3 HX3
            obtain ⟨vr, hvr⟩ := HT4.out.ref
            obtain ⟨A9, c9, e9, -, -⟩ := hvr.reads
            rw [e9] at hvr
            have HV := Lib.hid hvr
            clear hvr e9
            have hXC : Hid (∀ u, Below wd.heap.size wd u → u.cell? ⟨wr.heap.size, 1, none⟩ = some (.int .i64 I) ∧ u.cell? ⟨wr.heap.size, 2, none⟩ = some (.int .i64 C)) := Lib.hid (fun u hu => by obtain ⟨-, u1, u2, -⟩ := xcells (blk_next HX4.out hu); exact ⟨u1, u2⟩)
            clear HX4
            refine s_take 0 (_) hS rfl (by kernel_rfl) (by kernel_rfl) (by kernel_rfl) (fun _ _ _ h => h) rfl (fun w' hw' => run_move_at _ rfl w') ?_
            simp only [Act.put, List.setIfInBounds_toArray, List.set_cons_zero, List.set_cons_succ]
            refine s_take 1 (_) hS rfl (by kernel_rfl) (by kernel_rfl) (by kernel_rfl) (fun _ _ _ h => h) rfl (fun w' hw' => run_move_at _ rfl w') ?_
            simp only [Act.put, List.setIfInBounds_toArray, List.set_cons_zero, List.set_cons_succ]
            refine s_take 2 (.bool false) hS rfl (by kernel_rfl) (by kernel_rfl) (by kernel_rfl) (fun _ _ _ h => h) rfl (fun w' hw' => by (unfold execOp; simp [go_sem, Act.put, Act.eval])) ?_
            simp only [Act.put, List.setIfInBounds_toArray, List.set_cons_zero, List.set_cons_succ]
            refine s_take 3 (_) hS rfl (by kernel_rfl) (by kernel_rfl) (by kernel_rfl) (fun _ _ _ h => h) rfl (fun w' hw' => run_move_at _ rfl w') ?_
            simp only [Act.put, List.setIfInBounds_toArray, List.set_cons_zero, List.set_cons_succ]
            refine s_take 4 (_) hS rfl (by kernel_rfl) (by kernel_rfl) (by kernel_rfl) (fun _ _ _ h => h) rfl (fun w' hw' => run_move_at _ rfl w') ?_
            simp only [Act.put, List.setIfInBounds_toArray, List.set_cons_zero, List.set_cons_succ]
            refine s_take 6 (_) hS rfl (by kernel_rfl) (by kernel_rfl) (by kernel_rfl) (fun _ _ _ h => h) rfl (fun w' hw' => run_move_at _ rfl w') ?_
            simp only [Act.put, List.setIfInBounds_toArray, List.set_cons_zero, List.set_cons_succ]
            refine s_take 7 (.pointer (some ⟨g', 0, none⟩)) hS rfl (by kernel_rfl) (by kernel_rfl) (by kernel_rfl) (fun _ _ _ h => h) rfl (fun w' hw' => by (unfold execOp; simp [go_sem, Act.put, Act.eval])) ?_
            simp only [Act.put, List.setIfInBounds_toArray, List.set_cons_zero, List.set_cons_succ]
            refine s_take 8 (.pointer (some ⟨g', 1, none⟩)) hS rfl (by kernel_rfl) (by kernel_rfl) (by kernel_rfl) (fun _ _ _ h => h) rfl (fun w' hw' => by (unfold execOp; simp [go_sem, Act.put, Act.eval])) ?_
            simp only [Act.put, List.setIfInBounds_toArray, List.set_cons_zero, List.set_cons_succ]
            refine s_take 9 (.slice A9 D.2.length c9) hS rfl (by kernel_rfl) (by kernel_rfl) (by kernel_rfl) (fun _ _ _ h => h) rfl (fun w' hw' => by (have hc0 := (HV.out.next hw').c1; unfold execOp; simp [go_sem, Act.put, Act.eval, hc0])) ?_
            simp only [Act.put, List.setIfInBounds_toArray, List.set_cons_zero, List.set_cons_succ]
            refine s_take 10 (.int .i64 (D.2.length : Int)) hS rfl (by kernel_rfl) (by kernel_rfl) (by kernel_rfl) (fun _ _ _ h => h) rfl (fun w' hw' => by (unfold execOp; simp [go_sem, Act.put, Act.eval])) ?_
            simp only [Act.put, List.setIfInBounds_toArray, List.set_cons_zero, List.set_cons_succ]
            refine s_take 11 (.bool ((D.2.length : Int) == 0)) hS rfl (by kernel_rfl) (by kernel_rfl) (by kernel_rfl) (fun _ _ _ h => h) rfl (fun w' hw' => by (unfold execOp; simp [go_sem, Act.put, Act.eval]; first | done | rfl)) ?_
            simp only [Act.put, List.setIfInBounds_toArray, List.set_cons_zero, List.set_cons_succ]
            refine s_call 5 rfl (by kernel_rfl) rfl 41 _ _ Try.func41 (by kernel_rfl) rfl _ _ #[.pointer (some ⟨g, 0, none⟩)] rfl (by simp [Act.put, Act.eval]) (p_free HT4.out hnn) ?_
            rintro e we ⟨rfl, hbe⟩
            have hS := hbe
            refine ⟨_, rfl, hS, ?_⟩
            simp only [Act.put, List.setIfInBounds_toArray, List.set_cons_zero, List.set_cons_succ]
            refine s_take 12 (.bool false) hS rfl (by kernel_rfl) (by kernel_rfl) (by kernel_rfl) (fun _ _ _ h => h) rfl (fun w' hw' => by (unfold execOp; simp [go_sem, Act.put, Act.eval])) ?_
            simp only [Act.put, List.setIfInBounds_toArray, List.set_cons_zero, List.set_cons_succ]
            refine s_take 13 (.bool false) hS rfl (by kernel_rfl) (by kernel_rfl) (by kernel_rfl) (fun _ _ _ h => h) rfl (fun w' hw' => by (unfold execOp; simp [go_sem, Act.put, Act.eval])) ?_
            simp only [Act.put, List.setIfInBounds_toArray, List.set_cons_zero, List.set_cons_succ]
            refine s_take 14 (_) hS rfl (by kernel_rfl) (by kernel_rfl) (by kernel_rfl) (fun _ _ _ h => h) rfl (fun w' hw' => run_move_at _ rfl w') ?_
            simp only [Act.put, List.setIfInBounds_toArray, List.set_cons_zero, List.set_cons_succ]
            refine s_take 15 (_) hS rfl (by kernel_rfl) (by kernel_rfl) (by kernel_rfl) (fun _ _ _ h => h) rfl (fun w' hw' => run_move_at _ rfl w') ?_
            simp only [Act.put, List.setIfInBounds_toArray, List.set_cons_zero, List.set_cons_succ]
            refine s_take 16 (.pointer (some ⟨wr.heap.size, 1, none⟩)) hS rfl (by kernel_rfl) (by kernel_rfl) (by kernel_rfl) (fun _ _ _ h => h) rfl (fun w' hw' => by (unfold execOp; simp [go_sem, Act.put, Act.eval])) ?_
            simp only [Act.put, List.setIfInBounds_toArray, List.set_cons_zero, List.set_cons_succ]
            refine s_take 17 (.int .i64 I) hS rfl (by kernel_rfl) (by kernel_rfl) (by kernel_rfl) (fun _ _ _ h => h) rfl (fun w' hw' => by (have hc0 := (hXC.out w' hw').1; unfold execOp; simp [go_sem, Act.put, Act.eval, hc0])) ?_
            simp only [Act.put, List.setIfInBounds_toArray, List.set_cons_zero, List.set_cons_succ]
            refine s_take 18 (.pointer (some ⟨wr.heap.size, 2, none⟩)) hS rfl (by kernel_rfl) (by kernel_rfl) (by kernel_rfl) (fun _ _ _ h => h) rfl (fun w' hw' => by (unfold execOp; simp [go_sem, Act.put, Act.eval])) ?_
            simp only [Act.put, List.setIfInBounds_toArray, List.set_cons_zero, List.set_cons_succ]
            refine s_take 19 (.int .i64 C) hS rfl (by kernel_rfl) (by kernel_rfl) (by kernel_rfl) (fun _ _ _ h => h) rfl (fun w' hw' => by (have hc0 := (hXC.out w' hw').2; unfold execOp; simp [go_sem, Act.put, Act.eval, hc0])) ?_
            simp only [Act.put, List.setIfInBounds_toArray, List.set_cons_zero, List.set_cons_succ]
            refine s_take 21 (_) hS rfl (by kernel_rfl) (by kernel_rfl) (by kernel_rfl) (fun _ _ _ h => h) rfl (fun w' hw' => run_move_at _ rfl w') ?_
            simp only [Act.put, List.setIfInBounds_toArray, List.set_cons_zero, List.set_cons_succ]
            refine s_take 22 (.pointer (some ⟨wr.heap.size, 1, none⟩)) hS rfl (by kernel_rfl) (by kernel_rfl) (by kernel_rfl) (fun _ _ _ h => h) rfl (fun w' hw' => by (unfold execOp; simp [go_sem, Act.put, Act.eval])) ?_
            simp only [Act.put, List.setIfInBounds_toArray, List.set_cons_zero, List.set_cons_succ]
            refine s_take 23 (.int .i64 I) hS rfl (by kernel_rfl) (by kernel_rfl) (by kernel_rfl) (fun _ _ _ h => h) rfl (fun w' hw' => by (have hc0 := (hXC.out w' hw').1; unfold execOp; simp [go_sem, Act.put, Act.eval, hc0])) ?_
            simp only [Act.put, List.setIfInBounds_toArray, List.set_cons_zero, List.set_cons_succ]
            refine s_take 24 (.pointer (some ⟨wr.heap.size, 2, none⟩)) hS rfl (by kernel_rfl) (by kernel_rfl) (by kernel_rfl) (fun _ _ _ h => h) rfl (fun w' hw' => by (unfold execOp; simp [go_sem, Act.put, Act.eval])) ?_
            simp only [Act.put, List.setIfInBounds_toArray, List.set_cons_zero, List.set_cons_succ]
            refine s_take 25 (.int .i64 C) hS rfl (by kernel_rfl) (by kernel_rfl) (by kernel_rfl) (fun _ _ _ h => h) rfl (fun w' hw' => by (have hc0 := (hXC.out w' hw').2; unfold execOp; simp [go_sem, Act.put, Act.eval, hc0])) ?_
            simp only [Act.put, List.setIfInBounds_toArray, List.set_cons_zero, List.set_cons_succ]
            refine s_call 20 rfl (by kernel_rfl) rfl 42 _ _ Try.func42 (by kernel_rfl) rfl _ _ #[.pointer (some ⟨g, 0, none⟩), .int .i64 I, .int .i64 C] rfl (by simp [Act.put, Act.eval]) (p_granted (HT4.out.next hS) hml hnn) ?_
            rintro e wf ⟨rfl, hbf⟩
            have hbf' := below_next hS hbf
            have hS := hbf'
            refine ⟨_, rfl, hS, ?_⟩
            simp only [Act.put, List.setIfInBounds_toArray, List.set_cons_zero, List.set_cons_succ]
            refine s_call 26 rfl (by kernel_rfl) rfl 43 _ _ Try.func43 (by kernel_rfl) rfl _ _ #[.pointer (some ⟨g', 0, none⟩), .int .i64 I, .int .i64 C] rfl (by simp [Act.put, Act.eval]) (r_granted (HT4.out.next hS) hml) ?_
            rintro e wg ⟨rfl, hbg⟩
            have hbg' := below_next hS hbg
            have hS := hbg'
            refine ⟨_, rfl, hS, ?_⟩
            simp only [Act.put, List.setIfInBounds_toArray, List.set_cons_zero, List.set_cons_succ]
            refine s_take 27 (.bool false) hS rfl (by kernel_rfl) (by kernel_rfl) (by kernel_rfl) (fun _ _ _ h => h) rfl (fun w' hw' => by (unfold execOp; simp [go_sem, Act.put, Act.eval])) ?_
            simp only [Act.put, List.setIfInBounds_toArray, List.set_cons_zero, List.set_cons_succ]
            refine s_take 28 (.bool false) hS rfl (by kernel_rfl) (by kernel_rfl) (by kernel_rfl) (fun _ _ _ h => h) rfl (fun w' hw' => by (unfold execOp; simp [go_sem, Act.put, Act.eval])) ?_
            simp only [Act.put, List.setIfInBounds_toArray, List.set_cons_zero, List.set_cons_succ]
            refine s_done (by kernel_rfl) ?_
            have HB6 := Lib.hid (below_next HB4.out hbg')
            have HT6 := Lib.hid (HT4.out.next hbg')
            clear hS hbe hbf hbf' hbg hbg' HT4 HB4 HV hXC
            go_wp2
            obtain ⟨wo, hwo⟩ : ∃ wo : World, wo = wr := ⟨_, rfl⟩
            subst hwo
            clear hDl
            go_loopg [12] n (fun gg s12 wr => ∃ k : Nat, k ≤ n ∧ n - k ≤ gg ∧ s12 = .int .i64 k ∧ Aside0 (Two w.heap.size wr g r g' n T2 D.2) ∧ Aside0 (Below w.heap.size w wr))
            case atStart => exact ⟨0, Nat.zero_le _, by omega, rfl, ⟨HT6.out⟩, ⟨HB6.out⟩⟩
            case round =>
              clear HT6 HB6
              obtain ⟨k, hkn2, hg2, rfl, HT1, HB1⟩ := hrel
              by_cases hlt2 : k < n
              · have hltz2 : (k : Int) < (n : Int) := by omega
                obtain ⟨xs, hxs⟩ : ∃ xs, xs = rowR D.2 k := ⟨_, rfl⟩
                have HXS := Lib.hid hxs
                have hxl : xs.length ≤ 100000 := by rw [hxs]; have := rowR_le D.2 (k : Int); omega
                have hprow : ∀ W, Two w.heap.size W g r g' n T2 D.2 → Calls Try.prog 44 #[.pointer (some ⟨g, 0, none⟩), .int .i64 k] W (GivesI xs W) := fun W h => by rw [hxs]; exact p_row h hml hnn
                have hrrow : ∀ W, Two w.heap.size W g r g' n T2 D.2 → Calls Try.prog 46 #[.pointer (some ⟨g', 0, none⟩), .int .i64 k] W (GivesI xs W) := fun W h => by rw [hxs]; exact r_row h hml
                clear hxs
                go_wp2_with (first
                  | (go_at_call 44; refine (hprow _ HT1.out).mono ?_; rintro e w7 ⟨v7, rfl, ho7, hb7⟩; obtain ⟨A7, c7, e7, hc7, hr7⟩ := Kd.R_reads ho7; subst e7; have HR7 := Lib.hid hr7; have HT7 := Lib.hid (HT1.out.next hb7); have HB7 := Lib.hid (below_next HB1.out hb7); clear ho7 hr7 hb7 HT1 HB1)
                  | (go_at_call 46; refine (hrrow _ HT7.out).mono ?_; rintro e w8 ⟨v8, rfl, ho8, hb8⟩; obtain ⟨A8, c8, e8, hc8, hr8⟩ := Kd.R_reads ho8; subst e8; have HR8 := Lib.hid hr8; have HS7 := Lib.hid (Kd.C_below HR7.out hb8); have HT8 := Lib.hid (HT7.out.next hb8); have HB8 := Lib.hid (below_next HB7.out hb8); clear ho8 hr8 hb8 HT7 HB7)
                  | (go_at_call 45; refine (ints_any xs (by omega) A7 c7 A8 c8 _ HS7.out hc7 HR8.out hc8).mono ?_; rintro e w9 ⟨rfl, hb9⟩; have HC9 := Lib.hid (Kd.C_below HS7.out hb9); have HT9 := Lib.hid (HT8.out.next hb9); have HB9 := Lib.hid (below_next HB8.out hb9); clear hb9 HT8 HB8 HR8 HS7))
                clear hprow hrrow
                obtain ⟨wo2, hwo2⟩ : ∃ wo2 : World, wo2 = wr := ⟨_, rfl⟩
                subst hwo2
                go_loopg [14] xs.length (fun gg s14 wr => ∃ j : Nat, j ≤ xs.length ∧ xs.length - j ≤ gg ∧ s14 = .int .i64 j ∧ Aside0 (Two w.heap.size wr g r g' n T2 D.2) ∧ Aside0 (Below w.heap.size w wr) ∧ Aside0 (Kd.C (Kd.int .i64) wr A7 xs.length xs))
                case atStart => exact ⟨0, Nat.zero_le _, by omega, rfl, ⟨HT9.out⟩, ⟨HB9.out⟩, ⟨HC9.out⟩⟩
                case round =>
                  clear HT9 HB9 HC9
                  obtain ⟨j, hjn, hg3, rfl, HT3, HB3, HC3⟩ := hrel
                  by_cases hjl : j < xs.length
                  · have hj3 : (j : Int) < (xs.length : Int) := by omega
                    have hj4 : ¬ (j : Int) < 0 := by omega
                    have hj5 : j ≤ 9223372036854775807 := by omega
                    obtain ⟨wq, hwq⟩ : ∃ wq : World, wq = wr := ⟨_, rfl⟩
                    subst hwq
                    go_wp2
                    refine s_region (fun u => Below wq.drew.heap.size wq.drew u) (by kernel_rfl) 15 (by kernel_rfl) (Below.refl _ _) (fun hS => ?_)
                    have HT4 := Lib.hid (HT3.out.next (below_drew (Below.refl wq.heap.size wq)))
                    have HC4 := Lib.hid (Kd.C_drew HC3.out)
                    have HB4 := Lib.hid (below_drew HB3.out)
                    generalize hwd : wq.drew = wd at *
                    clear hwd HT3 HC3 HB3
                    obtain ⟨b, o, e9, hcell⟩ := C_cells HC4.out (by omega)
                    subst e9
                    have hcj := hcell j hjl
                    clear hcell
                    refine s_take 0 (_) hS rfl (by kernel_rfl) (by kernel_rfl) (by kernel_rfl) (fun _ _ _ h => h) rfl (fun w' hw' => run_move_at _ rfl w') ?_
                    simp only [Act.put, List.setIfInBounds_toArray, List.set_cons_zero, List.set_cons_succ]
                    refine s_take 1 (_) hS rfl (by kernel_rfl) (by kernel_rfl) (by kernel_rfl) (fun _ _ _ h => h) rfl (fun w' hw' => run_move_at _ rfl w') ?_
                    simp only [Act.put, List.setIfInBounds_toArray, List.set_cons_zero, List.set_cons_succ]
                    refine s_take 2 (_) hS rfl (by kernel_rfl) (by kernel_rfl) (by kernel_rfl) (fun _ _ _ h => h) rfl (fun w' hw' => run_move_at _ rfl w') ?_
                    simp only [Act.put, List.setIfInBounds_toArray, List.set_cons_zero, List.set_cons_succ]
                    refine s_take 3 (_) hS rfl (by kernel_rfl) (by kernel_rfl) (by kernel_rfl) (fun _ _ _ h => h) rfl (fun w' hw' => run_move_at _ rfl w') ?_
                    simp only [Act.put, List.setIfInBounds_toArray, List.set_cons_zero, List.set_cons_succ]
                    refine s_take 4 (.pointer (some ⟨b, o + j, none⟩)) hS rfl (by kernel_rfl) (by kernel_rfl) (by kernel_rfl) (fun _ _ _ h => h) rfl (fun w' hw' => by (have hc0 := hj3; have hc1 := hj4; have hc2 := hj5; unfold execOp; simp [go_sem, Act.put, Act.eval, hc0, hc1, hc2])) ?_
                    simp only [Act.put, List.setIfInBounds_toArray, List.set_cons_zero, List.set_cons_succ]
                    refine s_take 5 (.int .i64 (xs.getD j 0)) hS rfl (by kernel_rfl) (by kernel_rfl) (by kernel_rfl) (fun _ _ _ h => h) rfl (fun w' hw' => by (have hc0 := (hw'.cell (p := ⟨b, o + j, none⟩) (World.block_lt_of_cell? _ _ hcj)).trans hcj; unfold execOp; simp [go_sem, Act.put, Act.eval, hc0])) ?_
                    simp only [Act.put, List.setIfInBounds_toArray, List.set_cons_zero, List.set_cons_succ]
                    refine s_take 7 (_) hS rfl (by kernel_rfl) (by kernel_rfl) (by kernel_rfl) (fun _ _ _ h => h) rfl (fun w' hw' => run_move_at _ rfl w') ?_
                    simp only [Act.put, List.setIfInBounds_toArray, List.set_cons_zero, List.set_cons_succ]
                    refine s_take 8 (_) hS rfl (by kernel_rfl) (by kernel_rfl) (by kernel_rfl) (fun _ _ _ h => h) rfl (fun w' hw' => run_move_at _ rfl w') ?_
                    simp only [Act.put, List.setIfInBounds_toArray, List.set_cons_zero, List.set_cons_succ]
                    refine s_take 9 (_) hS rfl (by kernel_rfl) (by kernel_rfl) (by kernel_rfl) (fun _ _ _ h => h) rfl (fun w' hw' => run_move_at _ rfl w') ?_
                    simp only [Act.put, List.setIfInBounds_toArray, List.set_cons_zero, List.set_cons_succ]
                    refine s_take 10 (_) hS rfl (by kernel_rfl) (by kernel_rfl) (by kernel_rfl) (fun _ _ _ h => h) rfl (fun w' hw' => run_move_at _ rfl w') ?_
                    simp only [Act.put, List.setIfInBounds_toArray, List.set_cons_zero, List.set_cons_succ]
                    refine s_take 11 (.pointer (some ⟨b, o + j, none⟩)) hS rfl (by kernel_rfl) (by kernel_rfl) (by kernel_rfl) (fun _ _ _ h => h) rfl (fun w' hw' => by (have hc0 := hj3; have hc1 := hj4; have hc2 := hj5; unfold execOp; simp [go_sem, Act.put, Act.eval, hc0, hc1, hc2])) ?_
                    simp only [Act.put, List.setIfInBounds_toArray, List.set_cons_zero, List.set_cons_succ]
                    refine s_take 12 (.int .i64 (xs.getD j 0)) hS rfl (by kernel_rfl) (by kernel_rfl) (by kernel_rfl) (fun _ _ _ h => h) rfl (fun w' hw' => by (have hc0 := (hw'.cell (p := ⟨b, o + j, none⟩) (World.block_lt_of_cell? _ _ hcj)).trans hcj; unfold execOp; simp [go_sem, Act.put, Act.eval, hc0])) ?_
                    simp only [Act.put, List.setIfInBounds_toArray, List.set_cons_zero, List.set_cons_succ]
                    clear hcj
                    refine s_call 6 rfl (by kernel_rfl) rfl 42 _ _ Try.func42 (by kernel_rfl) rfl _ _ #[.pointer (some ⟨g, 0, none⟩), .int .i64 k, .int .i64 (xs.getD j 0)] rfl (by simp [Act.put, Act.eval]) (p_granted (HT4.out) hml hnn) ?_
                    rintro e we ⟨rfl, hbe⟩
                    have hS := hbe
                    refine ⟨_, rfl, hS, ?_⟩
                    simp only [Act.put, List.setIfInBounds_toArray, List.set_cons_zero, List.set_cons_succ]
                    refine s_call 13 rfl (by kernel_rfl) rfl 43 _ _ Try.func43 (by kernel_rfl) rfl _ _ #[.pointer (some ⟨g', 0, none⟩), .int .i64 k, .int .i64 (xs.getD j 0)] rfl (by simp [Act.put, Act.eval]) (r_granted (HT4.out.next hS) hml) ?_
                    rintro e wf ⟨rfl, hbf⟩
                    have hbf' := below_next hS hbf
                    have hS := hbf'
                    refine ⟨_, rfl, hS, ?_⟩
                    simp only [Act.put, List.setIfInBounds_toArray, List.set_cons_zero, List.set_cons_succ]
                    refine s_take 14 (.bool false) hS rfl (by kernel_rfl) (by kernel_rfl) (by kernel_rfl) (fun _ _ _ h => h) rfl (fun w' hw' => by (unfold execOp; simp [go_sem, Act.put, Act.eval])) ?_
                    simp only [Act.put, List.setIfInBounds_toArray, List.set_cons_zero, List.set_cons_succ]
                    refine s_done (by kernel_rfl) ?_
                    have HB5 := Lib.hid (below_next HB4.out hbf')
                    have HT5 := Lib.hid (HT4.out.next hbf')
                    have HC5 := Lib.hid (Kd.C_below HC4.out hbf')
                    clear hS hbe hbf hbf' HT4 HC4 HB4
                    go_wp2
                    go_roundg (xs.length - (j + 1))
                    case measure => omega
                    case rel => exact ⟨j + 1, by omega, by omega, by go_num, ⟨HT5.out⟩, ⟨HB5.out⟩, ⟨HC5.out⟩⟩
                  · have hj3 : ¬ (j : Int) < (xs.length : Int) := by omega
                    go_wp2
                    go_roundg (n - (k + 1))
                    case measure => omega
                    case rel => exact ⟨k + 1, by omega, by omega, by go_num, ⟨HT3.out⟩, ⟨HB3.out⟩⟩
              · have hltz2 : ¬ (k : Int) < (n : Int) := by omega
                go_wp2
                go_roundg (len - (kk + 1))
                case measure => omega
                case rel => exact ⟨kk + 1, T2, D.2, by omega, by omega, by go_num, ⟨HT1.out⟩, by have := HDL.out; omega, ⟨HB1.out⟩⟩
        · have hltz : ¬ (kk : Int) < (len : Int) := by omega
          have hml : L.length ≤ 100000 := by omega
          have hnn : n ≤ 1000 := by omega
          have hro : rowR L n = [] := (HT.out.rel.out n 0 (by omega)).2
          have hgo : grR L n 0 = false := by unfold grR; rw [(HT.out.rel.out n 0 (by omega)).1]; rfl
          have hprow : Calls Try.prog 44 #[.pointer (some ⟨g, 0, none⟩), .int .i64 n] wr (GivesI [] wr) := by have h := p_row (i := (n : Int)) HT.out hml hnn; rw [hro] at h; exact h
          have hpgr : ∀ W, Below wr.heap.size wr W → Calls Try.prog 42 #[.pointer (some ⟨g, 0, none⟩), .int .i64 n, .int .i64 0] W (TellsL false W) := fun W hW => by have h := p_granted (i := (n : Int)) (c := 0) (HT.out.next hW) hml hnn; rw [hgo] at h; exact h
          clear hro hgo HT
          go_wp2_with (first
            | (go_at_call 44; refine hprow.mono ?_; rintro e w7 ⟨v7, rfl, ho7, hb7⟩; obtain ⟨A7, c7, e7⟩ := Kd.R_slice ho7; rw [List.length_nil] at e7; subst e7; have HB7 := Lib.hid hb7; clear ho7 hb7)
            | (go_at_call 42; refine (hpgr _ HB7.out).mono ?_; rintro e w8 ⟨rfl, hb8⟩; have HB8 := Lib.hid (below_next HB7.out hb8); clear hb8)
            | (go_at_call 35; refine (hkn _).mono ?_; rintro e w9 ⟨rfl, hb9⟩; have HB9 := Lib.hid (below_next HB8.out hb9); clear hb9))
          go_ret
          exact ⟨rfl, below_next HB.out HB9.out⟩
end Go.Proofs.Ytoiiacbbfhlocaa.HLa
