/- Layer 6: the document's Swap, Back, Dirty, Crash. -/
import Derived.Test.YtoiiacbbfhlocaaHDm
set_option linter.unusedVariables false
set_option linter.unusedSimpArgs false
namespace Go.Proofs.Ytoiiacbbfhlocaa.HDa
open Go.RowKit Go.Proofs.YtoiiacbbfhlocaaW.PrintWords Go.Proofs.YtoiiacbbfhlocaaW.PrintLast Go.Proofs.YtoiiacbbfhlocaaW.PrintMore Go.Proofs.Ytoiiacbbfhlocaa.Kit
section
variable {base : Nat} {w : World} {g : Nat} {vs : List Value} {L : List Blk}
theorem rswap_bad (h : RD base w g vs L) (I K : Int) (hi : ¬ ((0 ≤ I ∧ I < L.length) ∧ (0 ≤ K ∧ K < L.length) ∧ I ≠ K)) : Calls Try.prog 62 #[.pointer (some ⟨g, 0, none⟩), .int .i64 I, .int .i64 K] w (RSetOut base g vs false L w) := by
  have H1 := rhas_any h I
  have H2 := Lib.hid (fun W (hW : Below w.heap.size w W) => rhas_any (show RD base W g vs L from RDsk.next h hW) K)
  have HE := Lib.hid (show ∀ w', Below w.heap.size w w' → RSetOut base g vs false L w (.returned (.bool false)) w' from fun w' hb => ⟨rfl, RDsk.next h hb, .of_below _ hb, hb.mono (RDsk.le h)⟩)
  clear h
  by_cases h1 : 0 ≤ I ∧ I < L.length
  · rw [decide_eq_true h1] at H1
    by_cases h2 : 0 ≤ K ∧ K < L.length
    · obtain rfl : I = K := Classical.byContradiction fun hne => hi ⟨h1, h2, hne⟩
      rw [decide_eq_true h2] at H2
      clear hi h1 h2
      go_enter Try.func62, Try.ntmps62
      go_wp2_with (first
        | (go_at_call 65; refine (H2.out _ hb1).mono ?_; rintro e w2 ⟨rfl, hb2⟩; have HB2 := Lib.hid (below_next hb1 hb2))
        | (go_at_call 65; refine H1.mono ?_; rintro e w1 ⟨rfl, hb1⟩))
      go_ret
      exact HE.out _ HB2.out
    · rw [decide_eq_false h2] at H2
      clear hi h1 h2
      go_enter Try.func62, Try.ntmps62
      go_wp2_with (first
        | (go_at_call 65; refine (H2.out _ hb1).mono ?_; rintro e w2 ⟨rfl, hb2⟩; have HB2 := Lib.hid (below_next hb1 hb2))
        | (go_at_call 65; refine H1.mono ?_; rintro e w1 ⟨rfl, hb1⟩))
      go_ret
      exact HE.out _ HB2.out
  · rw [decide_eq_false h1] at H1
    clear hi h1
    go_enter Try.func62, Try.ntmps62
    go_wp2_with (go_at_call 65; refine H1.mono ?_; rintro e w1 ⟨rfl, hb1⟩)
    go_ret
    exact HE.out _ hb1
set_option maxRecDepth 100000 in
theorem rswap_in (h : RD base w g vs L) (hm : L.length ≤ 1000) (i k : Nat) (bi bk : Blk) (hbi : L[i]? = some bi) (hbk : L[k]? = some bk) (hfi : bi.Fine) (hfk : bk.Fine) (hne : i ≠ k) : Calls Try.prog 62 #[.pointer (some ⟨g, 0, none⟩), .int .i64 i, .int .i64 k] w (RSetOut base g vs true ((L.set i (setNow bi bk.now)).set k (setNow bk bi.now)) w) := by
  have hi := (List.getElem?_eq_some_iff.1 hbi).1
  have hk := (List.getElem?_eq_some_iff.1 hbk).1
  have HH := Lib.hid (fun (j : Nat) (hj : j < L.length) W (hW : RD base W g vs L) => show Calls Try.prog 65 #[.pointer (some ⟨g, 0, none⟩), .int .i64 j] W (fun e w' => e = .returned (.bool true) ∧ Below W.heap.size W w') from by
    have h := rhas_any hW j
    rw [decide_eq_true ⟨by omega, by omega⟩] at h
    exact h)
  have HR1 := Lib.hid (fun W (hW : RD base W g vs L) => rread_in hW i bi hbi hfi hm)
  have HR2 := Lib.hid (fun W (hW : RD base W g vs L) => rread_in hW k bk hbk hfk hm)
  have HS1 := Lib.hid (fun W (hW : RD base W g vs L) => rset_in hW hm i bi hbi hfi bk.now)
  have HS2 := Lib.hid (fun W (hW : RD base W g vs (L.set i (setNow bi bk.now))) => rset_in hW (by rw [List.length_set]; exact hm) k bk (by rw [List.getElem?_set_ne hne]; exact hbk) hfk bi.now)
  have HT := Lib.hid h
  have HI := Lib.hid hi
  have HKK := Lib.hid hk
  have hik : ((i : Int) == (k : Int)) = false := by simp; omega
  have hik2 : ¬ (i : Int) = (k : Int) := by omega
  clear h hbi hbk hfi hfk hi hk
  go_enter Try.func62, Try.ntmps62
  go_wp2_with (first
    | (go_at_call 109; refine (HS2.out _ Q5.out).mono ?_; rintro e w6 ⟨rfl, hR, hK, hB⟩; have Q6 := Lib.hid hR; have K6 := Lib.hid (K5.out.trans hK); have B6 := Lib.hid (B5.out.trans hB); clear hR hK hB)
    | (go_at_call 109; refine (HS1.out _ Q4.out).mono ?_; rintro e w5 ⟨rfl, hR, hK, hB⟩; have Q5 := Lib.hid hR; have K5 := Lib.hid ((KeepT.of_below [9] B4.out).trans hK); have B5 := Lib.hid ((B4.out.mono (RDsk.le HT.out)).trans hB); clear hR hK hB)
    | (go_at_call 55; refine (HR2.out _ Q3.out).mono ?_; rintro e w4 ⟨rfl, hb⟩; have Q4 := Lib.hid (RDsk.next Q3.out hb); have B4 := Lib.hid (below_next B3.out hb); clear hb)
    | (go_at_call 55; refine (HR1.out _ Q2.out).mono ?_; rintro e w3 ⟨rfl, hb⟩; have Q3 := Lib.hid (RDsk.next Q2.out hb); have B3 := Lib.hid (below_next B2.out hb); clear hb)
    | (go_at_call 65; refine (HH.out k HKK.out _ Q1.out).mono ?_; rintro e w2 ⟨rfl, hb⟩; have Q2 := Lib.hid (RDsk.next Q1.out hb); have B2 := Lib.hid (below_next B1.out hb); clear hb)
    | (go_at_call 65; refine (HH.out i HI.out _ HT.out).mono ?_; rintro e w1 ⟨rfl, hb⟩; have Q1 := Lib.hid (RDsk.next HT.out hb); have B1 := Lib.hid hb; clear hb))
  go_ret
  exact ⟨rfl, Q6.out, K6.out, B6.out⟩
theorem rback_bad (h : RD base w g vs L) (I : Int) (hi : ¬ (0 ≤ I ∧ I < L.length)) : Calls Try.prog 64 #[.pointer (some ⟨g, 0, none⟩), .int .i64 I] w (RSetOut base g vs false L w) := by
  have H1 := rhas_any h I
  rw [decide_eq_false hi] at H1
  have HE := Lib.hid (show ∀ w', Below w.heap.size w w' → RSetOut base g vs false L w (.returned (.bool false)) w' from fun w' hb => ⟨rfl, RDsk.next h hb, .of_below _ hb, hb.mono (RDsk.le h)⟩)
  clear h hi
  go_enter Try.func64, Try.ntmps64
  go_wp2_with (go_at_call 65; refine H1.mono ?_; rintro e w1 ⟨rfl, hb1⟩)
  go_ret
  exact HE.out _ hb1
set_option maxRecDepth 100000 in
theorem rback_in (h : RD base w g vs L) (hm : L.length ≤ 1000) (i : Nat) (b : Blk) (hb : L[i]? = some b) (hf : b.Fine) : Calls Try.prog 64 #[.pointer (some ⟨g, 0, none⟩), .int .i64 i] w (RSetOut base g vs true (L.set i { setNow b b.p with p := b.now }) w) := by
  have hi := (List.getElem?_eq_some_iff.1 hb).1
  have HH : Calls Try.prog 65 #[.pointer (some ⟨g, 0, none⟩), .int .i64 i] w (fun e w' => e = .returned (.bool true) ∧ Below w.heap.size w w') := by
    have h := rhas_any h i
    rw [decide_eq_true ⟨by omega, by omega⟩] at h
    exact h
  have HR1 := Lib.hid (fun W (hW : RD base W g vs L) => rread_in hW i b hb hf hm)
  have HS1 := Lib.hid (fun W (hW : RD base W g vs L) => rset_in hW hm i b hb hf b.p)
  have HT := Lib.hid h
  obtain ⟨A2, c2, -, v2, -, k2⟩ := RD.row h 2 (by omega) Blk.p rfl
  obtain ⟨b2, rfl, -, -⟩ := k2 i b hb
  have HQ := Lib.hid (show ∀ W (L' : List Blk), L'.length = L.length → RD base W g vs L' → W.cell? ⟨g, 2, none⟩ = some (.slice (some ⟨b2, 0, none⟩) L.length c2) ∧ ∀ b', L'[i]? = some b' → W.cell? ⟨b2, i, none⟩ = some (.string (strOfNums b'.p)) from fun W L' hl hW => by
    obtain ⟨A, c, h1, h2, -, h3⟩ := RD.row hW 2 (by omega) Blk.p rfl
    rw [v2] at h2
    obtain ⟨rfl, -, rfl⟩ := Value.slice.inj (Option.some.inj h2)
    rw [hl] at h1
    refine ⟨h1, fun b' hb' => ?_⟩
    obtain ⟨k, hk, -, hc⟩ := h3 i b' hb'
    obtain rfl : b2 = k := (Addr.mk.inj (Option.some.inj hk)).1
    exact hc)
  have HV := Lib.hid v2
  have hi1 : (i : Int) < (L.length : Int) := by omega
  have hi2 : ¬ (i : Int) < 0 := by omega
  have hi3 : i ≤ 9223372036854775807 := by omega
  have HBI := Lib.hid hb
  clear h k2 v2 hb hf
  go_enter Try.func64, Try.ntmps64
  go_wp2_with (first
    | (go_at_call 109; refine (HS1.out _ Q3.out).mono ?_; rintro e w5 ⟨rfl, hR, hK, hB⟩; have Q5 := Lib.hid hR; have K5 := Lib.hid ((KeepT.of_below [9] B3.out).trans hK); have B5 := Lib.hid ((B3.out.mono (RDsk.le HT.out)).trans hB); have p5 := (HQ.out w5 _ (by rw [List.length_set]) Q5.out).1; have r5 := (HQ.out w5 _ (by rw [List.length_set]) Q5.out).2 _ (List.getElem?_set_self hi); obtain ⟨-, f5⟩ := RDsk.cellAt Q5.out HV.out rfl i (by rw [List.length_map, List.length_set]; exact hi); clear hR hK hB)
    | (go_at_call 55; refine (HR1.out _ Q2.out).mono ?_; rintro e w3 ⟨rfl, hb⟩; have Q3 := Lib.hid (RDsk.next Q2.out hb); have B3 := Lib.hid (below_next B2.out hb); have p3 := (HQ.out w3 L rfl Q3.out).1; have r3 := (HQ.out w3 L rfl Q3.out).2 b HBI.out; clear hb)
    | (go_at_call 65; refine HH.mono ?_; rintro e w2 ⟨rfl, hb⟩; have Q2 := Lib.hid (RDsk.next HT.out hb); have B2 := Lib.hid hb; clear hb))
  go_ret
  obtain ⟨T, K, B⟩ := RDsk.store Q5.out HV.out rfl i (by rw [List.length_map, List.length_set]; exact hi) b.now
  refine ⟨rfl, ?_, K5.out.trans K, B5.out.trans B⟩
  simp only [List.set_cons_zero, List.set_cons_succ] at T
  unfold RD
  have e1 : ∀ f : Blk → List Int, f { setNow b b.p with p := b.now } = f (setNow b b.p) → (L.set i { setNow b b.p with p := b.now }).map f = (L.set i (setNow b b.p)).map f := fun f hf => by rw [List.map_set, List.map_set, hf]
  rw [e1 Blk.d rfl, e1 frF rfl]
  have e2 : (L.set i { setNow b b.p with p := b.now }).map Blk.p = ((L.set i (setNow b b.p)).map Blk.p).set i b.now := by rw [List.map_set, List.map_set, List.set_set]
  rw [e2]
  exact T
theorem rdirty_any (h : RD base w g vs L) (hf : ∀ (i : Nat) (b : Blk), L[i]? = some b → b.Fine) (hm : L.length ≤ 1000) : Calls Try.prog 66 #[.pointer (some ⟨g, 0, none⟩)] w (TellsI (cntQ L) w) := by
  obtain ⟨A1, c1, h1, -, -, k1⟩ := RD.row h 1 (by omega) frF rfl
  have HQ := Lib.hid k1
  have HF := Lib.hid hf
  clear k1 h hf
  go_enter Try.func66, Try.ntmps66
  go_wp2
  go_loopg [3, 4] L.length (fun gg s3 s4 wr => ∃ (kk n : Nat), kk ≤ L.length ∧ L.length - kk ≤ gg ∧ s3 = .int .i64 n ∧ s4 = .int .i64 kk ∧ n = cntQ (L.take kk) ∧ n ≤ kk ∧ wr = w)
  case atStart => exact ⟨0, 0, Nat.zero_le _, by omega, rfl, rfl, rfl, Nat.le_refl _, rfl⟩
  case round =>
    obtain ⟨kk, n, hkk, hg, rfl, rfl, hn, hnk, rfl⟩ := hrel
    by_cases hlt : kk < L.length
    · have hltz : (kk : Int) < (L.length : Int) := by omega
      have hi2 : ¬ (kk : Int) < 0 := by omega
      have hi3 : kk ≤ 9223372036854775807 := by omega
      obtain ⟨b, hb⟩ : ∃ b, L[kk]? = some b := ⟨_, List.getElem?_eq_getElem hlt⟩
      obtain ⟨b1, rfl, -, q1⟩ := HQ.out kk b hb
      have hcs := cntQ_step hb
      have hfin := HF.out kk b hb
      unfold frF at q1
      have HN := Lib.hid hn
      clear hn
      cases hq : b.q with
      | false =>
        rw [hq] at q1 hcs
        simp only [Bool.false_eq_true, if_false, Nat.add_zero] at q1 hcs
        rw [strOf_nil] at q1
        have HCS := Lib.hid hcs
        clear hb hcs hfin hq
        go_wp2
        go_roundg (L.length - (kk + 1))
        case measure => omega
        case rel => exact ⟨kk + 1, n, by omega, by omega, by go_num, by go_num, by rw [HCS.out, HN.out], by omega, by first | exact True.intro | rfl⟩
      | true =>
        rw [hq] at q1 hcs
        simp only [if_true] at q1 hcs
        have hse := str_some b.f 71 hfin.lf
        have HCS := Lib.hid hcs
        clear hb hcs hfin hq
        go_wp2
        go_roundg (L.length - (kk + 1))
        case measure => omega
        case rel => exact ⟨kk + 1, n + 1, by omega, by omega, by go_num, by go_num, by rw [HCS.out, HN.out], by omega, by first | exact True.intro | rfl⟩
    · have hltz : ¬ (kk : Int) < (L.length : Int) := by omega
      have e : kk = L.length := by omega
      have HKE := Lib.hid e
      have HN := Lib.hid hn
      clear e hn
      go_wp2
      go_ret
      refine ⟨?_, Below.refl _ _⟩
      rw [HN.out, HKE.out, List.take_of_length_le (Nat.le_refl _)]
      rfl
set_option maxRecDepth 100000 in
set_option maxHeartbeats 4000000 in
theorem rflush_any (h : RD base w g vs L) (hf : ∀ (i : Nat) (b : Blk), L[i]? = some b → b.Fine) (hm : L.length ≤ 1000) : Calls Try.prog 58 #[.pointer (some ⟨g, 0, none⟩), .slice none 0 0, .bool true] w (SetR base g vs (crashF (fun _ => true) 0 L) w) := by
  obtain ⟨ks, hks⟩ : ∃ ks : Nat → Bool, ks = fun _ => true := ⟨_, rfl⟩
  rw [← hks]
  have HKS := Lib.hid hks
  have HT := Lib.hid h
  have HF := Lib.hid hf
  clear h hf hks
  go_enter Try.func58, Try.ntmps58
  go_wp2
  go_loopg [6, 7] L.length (fun gg s6 s7 wr => ∃ (kk n : Nat), kk ≤ L.length ∧ L.length - kk ≤ gg ∧ s6 = .int .i64 n ∧ s7 = .int .i64 kk ∧ n = cntQ (L.take kk) ∧ n ≤ kk ∧ Aside0 (RD base wr g vs (midF ks L kk)) ∧ Aside0 (KeepT [9] w wr) ∧ Aside0 (Below base w wr))
  case atStart => exact ⟨0, 0, Nat.zero_le _, by omega, rfl, rfl, rfl, Nat.le_refl _, ⟨by rw [midF_zero]; exact HT.out⟩, ⟨.refl _ _⟩, ⟨Below.refl _ _⟩⟩
  case round =>
    obtain ⟨kk, n, hkk, hg, rfl, rfl, hn, hnk, HRk, HK, HB⟩ := hrel
    have hml : (midF ks L kk).length = L.length := by unfold midF; rw [List.length_append, crashF_length, ← List.length_append, List.take_append_drop]
    obtain ⟨A1, c1, h1, v1, -, k1⟩ := RD.row HRk.out 1 (by omega) frF rfl
    rw [hml] at h1 v1
    by_cases hlt : kk < L.length
    · have hltz : (kk : Int) < (L.length : Int) := by omega
      have hi1 := hltz
      have hi2 : ¬ (kk : Int) < 0 := by omega
      have hi3 : kk ≤ 9223372036854775807 := by omega
      obtain ⟨b, hb⟩ : ∃ b, (midF ks L kk)[kk]? = some b := ⟨_, List.getElem?_eq_getElem (by rw [hml]; exact hlt)⟩
      have hb0 := midF_at hb hlt
      obtain ⟨b1, rfl, -, q1⟩ := k1 kk b hb
      have hstep := midF_step (ks := ks) hb0
      have hcs := cntQ_step hb0
      have hfin := HF.out kk b hb0
      have hD : kk < ((midF ks L kk).map Blk.d).length := by rw [List.length_map, hml]; exact hlt
      have hF : kk < ((midF ks L kk).map frF).length := by rw [List.length_map, hml]; exact hlt
      obtain ⟨wq, hwq⟩ : ∃ wq : World, wq = wr := ⟨_, rfl⟩
      subst hwq
      subst hn
      have HBM := Lib.hid hb
      unfold frF at q1
      cases hq : b.q with
      | false =>
        rw [hq] at q1 hstep hcs
        simp only [Bool.false_eq_true, if_false, Nat.add_zero] at q1 hstep hcs
        rw [strOf_nil] at q1
        rw [set_same hb] at hstep
        have HMS := Lib.hid hstep
        have HCS := Lib.hid hcs
        clear hb hb0 hstep hcs hfin hq k1 hD hF
        go_wp2
        go_roundg (L.length - (kk + 1))
        case measure => omega
        case rel => exact ⟨kk + 1, cntQ (L.take kk), by omega, by omega, by go_num, by go_num, by rw [HCS.out], by omega, ⟨by rw [HMS.out]; exact HRk.out⟩, ⟨HK.out⟩, ⟨HB.out⟩⟩
      | true =>
        rw [hq] at q1 hstep hcs
        simp only [if_true] at q1 hstep hcs
        have hse := str_some b.f 71 hfin.lf
        obtain ⟨A0, c0, h0, v0, -, k0⟩ := RD.row HRk.out 0 (by omega) Blk.d rfl
        rw [hml] at h0 v0
        obtain ⟨b0, rfl, -, q0⟩ := k0 kk b hb
        have hb01 : b0 ≠ b1 := by
          rcases HRk.out.apart 0 1 _ _ (by decide) v0 v1 with h | h
          · cases h
          · exact fun e => h (by rw [e]; rfl)
        have HCS := Lib.hid hcs
        have hks : ks (cntQ (L.take kk)) = true := by rw [HKS.out]
        rw [hks] at hstep
        simp only [if_true] at hstep
        have HMS := Lib.hid hstep
        have hlz : ¬ ((cntQ (L.take kk) : Nat) : Int) < 0 := by omega
        obtain ⟨nq, hnq⟩ : ∃ nq, nq = cntQ (L.take kk) := ⟨_, rfl⟩
        clear hb hb0 hstep hcs hfin hq k1 k0 hks q0
        go_wp2
        refine s_region (fun u => u.cell? ⟨g, 0, none⟩ = some (.slice (some ⟨b0, 0, none⟩) L.length c0) ∧ u.cell? ⟨g, 1, none⟩ = some (.slice (some ⟨b1, 0, none⟩) L.length c1) ∧ u.cell? ⟨b1, kk, none⟩ = some (.string (strOfNums b.f))) (by kernel_rfl) 14 (by kernel_rfl) (by exact ⟨h0, h1, q1⟩) (fun hS => ?_)
        have HRd := Lib.hid (RDsk.next HRk.out (below_drew (Below.refl wq.heap.size wq)))
        have HKd := Lib.hid (HK.out.next (below_drew (Below.refl wq.heap.size wq)))
        have HBd := Lib.hid (below_drew HB.out)
        generalize hwd : wq.drew = wd at *
        clear hwd HRk HK HB
        refine s_take 0 (_) hS rfl (by kernel_rfl) (by kernel_rfl) (by kernel_rfl) (fun _ _ _ h => h) rfl (fun w' hw' => run_move_at _ rfl w') ?_
        simp only [Act.put, List.setIfInBounds_toArray, List.set_cons_zero, List.set_cons_succ]
        refine s_take 1 (.pointer (some ⟨g, 0, none⟩)) hS rfl (by kernel_rfl) (by kernel_rfl) (by kernel_rfl) (fun _ _ _ h => h) rfl (fun w' hw' => by (unfold execOp; simp [go_sem, Act.put, Act.eval])) ?_
        simp only [Act.put, List.setIfInBounds_toArray, List.set_cons_zero, List.set_cons_succ]
        refine s_take 2 (.pointer (some ⟨g, 0, none⟩)) hS rfl (by kernel_rfl) (by kernel_rfl) (by kernel_rfl) (fun _ _ _ h => h) rfl (fun w' hw' => by (unfold execOp; simp [go_sem, Act.put, Act.eval])) ?_
        simp only [Act.put, List.setIfInBounds_toArray, List.set_cons_zero, List.set_cons_succ]
        refine s_take 3 (.slice (some ⟨b0, 0, none⟩) L.length c0) hS rfl (by kernel_rfl) (by kernel_rfl) (by kernel_rfl) (fun _ _ _ h => h) rfl (fun w' hw' => by (have hc0 := hw'.1; unfold execOp; simp [go_sem, Act.put, Act.eval, hc0])) ?_
        simp only [Act.put, List.setIfInBounds_toArray, List.set_cons_zero, List.set_cons_succ]
        refine s_take 4 (_) hS rfl (by kernel_rfl) (by kernel_rfl) (by kernel_rfl) (fun _ _ _ h => h) rfl (fun w' hw' => run_move_at _ rfl w') ?_
        simp only [Act.put, List.setIfInBounds_toArray, List.set_cons_zero, List.set_cons_succ]
        refine s_take 5 (_) hS rfl (by kernel_rfl) (by kernel_rfl) (by kernel_rfl) (fun _ _ _ h => h) rfl (fun w' hw' => run_move_at _ rfl w') ?_
        simp only [Act.put, List.setIfInBounds_toArray, List.set_cons_zero, List.set_cons_succ]
        refine s_take 6 (.pointer (some ⟨g, 0, none⟩)) hS rfl (by kernel_rfl) (by kernel_rfl) (by kernel_rfl) (fun _ _ _ h => h) rfl (fun w' hw' => by (unfold execOp; simp [go_sem, Act.put, Act.eval])) ?_
        simp only [Act.put, List.setIfInBounds_toArray, List.set_cons_zero, List.set_cons_succ]
        refine s_take 7 (.pointer (some ⟨g, 1, none⟩)) hS rfl (by kernel_rfl) (by kernel_rfl) (by kernel_rfl) (fun _ _ _ h => h) rfl (fun w' hw' => by (unfold execOp; simp [go_sem, Act.put, Act.eval])) ?_
        simp only [Act.put, List.setIfInBounds_toArray, List.set_cons_zero, List.set_cons_succ]
        refine s_take 8 (.slice (some ⟨b1, 0, none⟩) L.length c1) hS rfl (by kernel_rfl) (by kernel_rfl) (by kernel_rfl) (fun _ _ _ h => h) rfl (fun w' hw' => by (have hc0 := hw'.2.1; unfold execOp; simp [go_sem, Act.put, Act.eval, hc0])) ?_
        simp only [Act.put, List.setIfInBounds_toArray, List.set_cons_zero, List.set_cons_succ]
        refine s_take 9 (_) hS rfl (by kernel_rfl) (by kernel_rfl) (by kernel_rfl) (fun _ _ _ h => h) rfl (fun w' hw' => run_move_at _ rfl w') ?_
        simp only [Act.put, List.setIfInBounds_toArray, List.set_cons_zero, List.set_cons_succ]
        refine s_take 10 (.pointer (some ⟨b1, kk, none⟩)) hS rfl (by kernel_rfl) (by kernel_rfl) (by kernel_rfl) (fun _ _ _ h => h) rfl (fun w' hw' => by (have hc0 := hi1; have hc1 := hi2; have hc2 := hi3; unfold execOp; simp [go_sem, Act.put, Act.eval, hc0, hc1, hc2])) ?_
        simp only [Act.put, List.setIfInBounds_toArray, List.set_cons_zero, List.set_cons_succ]
        refine s_take 11 (.string (strOfNums b.f)) hS rfl (by kernel_rfl) (by kernel_rfl) (by kernel_rfl) (fun _ _ _ h => h) rfl (fun w' hw' => by (have hc0 := hw'.2.2; unfold execOp; simp [go_sem, Act.put, Act.eval, hc0])) ?_
        simp only [Act.put, List.setIfInBounds_toArray, List.set_cons_zero, List.set_cons_succ]
        refine s_take 12 (.pointer (some ⟨b0, kk, none⟩)) hS rfl (by kernel_rfl) (by kernel_rfl) (by kernel_rfl) (fun _ _ _ h => h) rfl (fun w' hw' => by (have hc0 := hi1; have hc1 := hi2; have hc2 := hi3; unfold execOp; simp [go_sem, Act.put, Act.eval, hc0, hc1, hc2])) ?_
        simp only [Act.put, List.setIfInBounds_toArray, List.set_cons_zero, List.set_cons_succ]
        obtain ⟨m1, m2⟩ := RDsk.cellAt HRd.out v0 rfl kk hD
        obtain ⟨u1, m1⟩ := m1
        obtain ⟨T3, K3, B3⟩ := RDsk.store HRd.out v0 rfl kk hD b.f
        have h03 : (wd.setCell ⟨b0, kk, none⟩ (.string (strOfNums b.f))).cell? ⟨g, 0, none⟩ = some (.slice (some ⟨b0, 0, none⟩) L.length c0) := (cell_of_row _ g 0 _ _ _ T3.tab).trans (by simpa using v0)
        have h13 : (wd.setCell ⟨b0, kk, none⟩ (.string (strOfNums b.f))).cell? ⟨g, 1, none⟩ = some (.slice (some ⟨b1, 0, none⟩) L.length c1) := (cell_of_row _ g 1 _ _ _ T3.tab).trans (by simpa using v1)
        have q13 : (wd.setCell ⟨b0, kk, none⟩ (.string (strOfNums b.f))).cell? ⟨b1, kk, none⟩ = some (.string (strOfNums b.f)) := (World.cell?_setCell_other _ _ _ _ (by intro e2; exact hb01 (Addr.mk.inj e2).1)).trans hS.2.2
        refine s_one 13 rfl (by kernel_rfl) ?_
        refine g_skip (wd.setCell ⟨b0, kk, none⟩ (.string (strOfNums b.f))) rfl (by (have hc0 := m1; have hc1 := m2; unfold execOp; simp [go_sem, Act.put, Act.eval, hc0, hc1])) ⟨h03, h13, q13⟩ (fun hS => ?_)
        simp only [Act.put, List.setIfInBounds_toArray, List.set_cons_zero, List.set_cons_succ]
        refine s_done (by kernel_rfl) ?_
        have HR3 := Lib.hid T3
        have HK3 := Lib.hid (HKd.out.trans K3)
        have HB3 := Lib.hid (HBd.out.trans B3)
        clear T3 K3 B3 m1 m2 hS HRd HKd HBd h03 q13
        generalize hw3 : wd.setCell ⟨b0, kk, none⟩ (.string (strOfNums b.f)) = w3 at *
        clear hw3
        simp only [List.set_cons_zero] at HR3
        obtain ⟨n1, n2⟩ := RDsk.cellAt HR3.out v1 rfl kk hF
        obtain ⟨u2, n1⟩ := n1
        obtain ⟨T4, K4, B4⟩ := RDsk.store HR3.out v1 rfl kk hF []
        rw [strOf_nil] at T4 K4 B4
        have F := Lib.hid (And.intro T4 (And.intro (HK3.out.trans K4) (HB3.out.trans B4)))
        clear T4 K4 B4 HR3 HK3 HB3
        go_wp2
        generalize hw4 : w3.setCell ⟨b1, kk, none⟩ (.string ⟨#[]⟩) = w4 at *
        clear hw4
        simp only [List.set_cons_zero, List.set_cons_succ] at F
        go_roundg (L.length - (kk + 1))
        case measure => omega
        case rel =>
          refine ⟨kk + 1, cntQ (L.take kk) + 1, by omega, by omega, by go_num, by go_num, by rw [HCS.out], by omega, ⟨?_⟩, ⟨F.out.2.1⟩, ⟨F.out.2.2⟩⟩
          have h := F.out.1
          unfold RD
          rw [HMS.out, List.map_set, List.map_set, List.map_set]
          rw [show frF ({ b with d := b.f, q := false } : Blk) = [] from rfl]
          rw [set_same (show ((midF ks L kk).map Blk.p)[kk]? = some b.p from by rw [List.getElem?_map, HBM.out]; rfl)]
          exact h
    · have hltz : ¬ (kk : Int) < (L.length : Int) := by omega
      have e : kk = L.length := by omega
      have HKE := Lib.hid e
      clear e
      go_wp2
      go_end0
      have h := HRk.out
      rw [HKE.out, midF_end _ _ _ rfl] at h
      exact ⟨rfl, h, HK.out, HB.out⟩
set_option maxRecDepth 100000 in
set_option maxHeartbeats 4000000 in
theorem rcrash_any (h : RD base w g vs L) (hf : ∀ (i : Nat) (b : Blk), L[i]? = some b → b.Fine) (hm : L.length ≤ 1000) (A : Option Addr) (len c : Nat) (ks : Nat → Bool) (hk : ∀ W, Below base w W → KeepRow A len ks W) (hko : ∀ j, len ≤ j → ks j = false) (hlen : len ≤ 1000000) : Calls Try.prog 58 #[.pointer (some ⟨g, 0, none⟩), .slice A len c, .bool false] w (SetR base g vs (crashF ks 0 L) w) := by
  have HT := Lib.hid h
  have HF := Lib.hid hf
  have HKR := Lib.hid hk
  have HKO := Lib.hid hko
  clear h hf hk hko
  go_enter Try.func58, Try.ntmps58
  go_wp2
  go_loopg [6, 7] L.length (fun gg s6 s7 wr => ∃ (kk n : Nat), kk ≤ L.length ∧ L.length - kk ≤ gg ∧ s6 = .int .i64 n ∧ s7 = .int .i64 kk ∧ n = cntQ (L.take kk) ∧ n ≤ kk ∧ Aside0 (RD base wr g vs (midF ks L kk)) ∧ Aside0 (KeepT [9] w wr) ∧ Aside0 (Below base w wr))
  case atStart => exact ⟨0, 0, Nat.zero_le _, by omega, rfl, rfl, rfl, Nat.le_refl _, ⟨by rw [midF_zero]; exact HT.out⟩, ⟨.refl _ _⟩, ⟨Below.refl _ _⟩⟩
  case round =>
    obtain ⟨kk, n, hkk, hg, rfl, rfl, hn, hnk, HRk, HK, HB⟩ := hrel
    have hml : (midF ks L kk).length = L.length := by unfold midF; rw [List.length_append, crashF_length, ← List.length_append, List.take_append_drop]
    obtain ⟨A1, c1, h1, v1, -, k1⟩ := RD.row HRk.out 1 (by omega) frF rfl
    rw [hml] at h1 v1
    by_cases hlt : kk < L.length
    · have hltz : (kk : Int) < (L.length : Int) := by omega
      have hi1 := hltz
      have hi2 : ¬ (kk : Int) < 0 := by omega
      have hi3 : kk ≤ 9223372036854775807 := by omega
      obtain ⟨b, hb⟩ : ∃ b, (midF ks L kk)[kk]? = some b := ⟨_, List.getElem?_eq_getElem (by rw [hml]; exact hlt)⟩
      have hb0 := midF_at hb hlt
      obtain ⟨b1, rfl, -, q1⟩ := k1 kk b hb
      have hstep := midF_step (ks := ks) hb0
      have hcs := cntQ_step hb0
      have hfin := HF.out kk b hb0
      have hD : kk < ((midF ks L kk).map Blk.d).length := by rw [List.length_map, hml]; exact hlt
      have hF : kk < ((midF ks L kk).map frF).length := by rw [List.length_map, hml]; exact hlt
      obtain ⟨wq, hwq⟩ : ∃ wq : World, wq = wr := ⟨_, rfl⟩
      subst hwq
      subst hn
      have HBM := Lib.hid hb
      unfold frF at q1
      cases hq : b.q with
      | false =>
        rw [hq] at q1 hstep hcs
        simp only [Bool.false_eq_true, if_false, Nat.add_zero] at q1 hstep hcs
        rw [strOf_nil] at q1
        rw [set_same hb] at hstep
        have HMS := Lib.hid hstep
        have HCS := Lib.hid hcs
        clear hb hb0 hstep hcs hfin hq k1 hD hF
        go_wp2
        go_roundg (L.length - (kk + 1))
        case measure => omega
        case rel => exact ⟨kk + 1, cntQ (L.take kk), by omega, by omega, by go_num, by go_num, by rw [HCS.out], by omega, ⟨by rw [HMS.out]; exact HRk.out⟩, ⟨HK.out⟩, ⟨HB.out⟩⟩
      | true =>
        rw [hq] at q1 hstep hcs
        simp only [if_true] at q1 hstep hcs
        have hse := str_some b.f 71 hfin.lf
        obtain ⟨A0, c0, h0, v0, -, k0⟩ := RD.row HRk.out 0 (by omega) Blk.d rfl
        rw [hml] at h0 v0
        obtain ⟨b0, rfl, -, q0⟩ := k0 kk b hb
        have hb01 : b0 ≠ b1 := by
          rcases HRk.out.apart 0 1 _ _ (by decide) v0 v1 with h | h
          · cases h
          · exact fun e => h (by rw [e]; rfl)
        have HCS := Lib.hid hcs
        have hn3 : cntQ (L.take kk) ≤ 9223372036854775807 := by omega
        have hn4 : ¬ ((cntQ (L.take kk) : Nat) : Int) < 0 := by omega
        cases hk : ks (cntQ (L.take kk)) with
        | true =>
          have hnl : cntQ (L.take kk) < len := by
            apply Classical.byContradiction
            intro hh
            rw [HKO.out _ (by omega)] at hk
            cases hk
          have hnz : ((cntQ (L.take kk) : Nat) : Int) < (len : Int) := by omega
          obtain ⟨bk, ok_, rfl, hkc⟩ := HKR.out _ HB.out (cntQ (L.take kk)) hnl
          rw [hk] at hstep hkc
          simp only [if_true] at hstep
          have HMS := Lib.hid hstep
          clear hb hb0 hstep hcs hfin hq k1 k0 hk q0
          go_wp2
          refine s_region (fun u => u.cell? ⟨g, 0, none⟩ = some (.slice (some ⟨b0, 0, none⟩) L.length c0) ∧ u.cell? ⟨g, 1, none⟩ = some (.slice (some ⟨b1, 0, none⟩) L.length c1) ∧ u.cell? ⟨b1, kk, none⟩ = some (.string (strOfNums b.f))) (by kernel_rfl) 14 (by kernel_rfl) (by exact ⟨h0, h1, q1⟩) (fun hS => ?_)
          have HRd := Lib.hid (RDsk.next HRk.out (below_drew (Below.refl wq.heap.size wq)))
          have HKd := Lib.hid (HK.out.next (below_drew (Below.refl wq.heap.size wq)))
          have HBd := Lib.hid (below_drew HB.out)
          generalize hwd : wq.drew = wd at *
          clear hwd HRk HK HB
          refine s_take 0 (_) hS rfl (by kernel_rfl) (by kernel_rfl) (by kernel_rfl) (fun _ _ _ h => h) rfl (fun w' hw' => run_move_at _ rfl w') ?_
          simp only [Act.put, List.setIfInBounds_toArray, List.set_cons_zero, List.set_cons_succ]
          refine s_take 1 (.pointer (some ⟨g, 0, none⟩)) hS rfl (by kernel_rfl) (by kernel_rfl) (by kernel_rfl) (fun _ _ _ h => h) rfl (fun w' hw' => by (unfold execOp; simp [go_sem, Act.put, Act.eval])) ?_
          simp only [Act.put, List.setIfInBounds_toArray, List.set_cons_zero, List.set_cons_succ]
          refine s_take 2 (.pointer (some ⟨g, 0, none⟩)) hS rfl (by kernel_rfl) (by kernel_rfl) (by kernel_rfl) (fun _ _ _ h => h) rfl (fun w' hw' => by (unfold execOp; simp [go_sem, Act.put, Act.eval])) ?_
          simp only [Act.put, List.setIfInBounds_toArray, List.set_cons_zero, List.set_cons_succ]
          refine s_take 3 (.slice (some ⟨b0, 0, none⟩) L.length c0) hS rfl (by kernel_rfl) (by kernel_rfl) (by kernel_rfl) (fun _ _ _ h => h) rfl (fun w' hw' => by (have hc0 := hw'.1; unfold execOp; simp [go_sem, Act.put, Act.eval, hc0])) ?_
          simp only [Act.put, List.setIfInBounds_toArray, List.set_cons_zero, List.set_cons_succ]
          refine s_take 4 (_) hS rfl (by kernel_rfl) (by kernel_rfl) (by kernel_rfl) (fun _ _ _ h => h) rfl (fun w' hw' => run_move_at _ rfl w') ?_
          simp only [Act.put, List.setIfInBounds_toArray, List.set_cons_zero, List.set_cons_succ]
          refine s_take 5 (_) hS rfl (by kernel_rfl) (by kernel_rfl) (by kernel_rfl) (fun _ _ _ h => h) rfl (fun w' hw' => run_move_at _ rfl w') ?_
          simp only [Act.put, List.setIfInBounds_toArray, List.set_cons_zero, List.set_cons_succ]
          refine s_take 6 (.pointer (some ⟨g, 0, none⟩)) hS rfl (by kernel_rfl) (by kernel_rfl) (by kernel_rfl) (fun _ _ _ h => h) rfl (fun w' hw' => by (unfold execOp; simp [go_sem, Act.put, Act.eval])) ?_
          simp only [Act.put, List.setIfInBounds_toArray, List.set_cons_zero, List.set_cons_succ]
          refine s_take 7 (.pointer (some ⟨g, 1, none⟩)) hS rfl (by kernel_rfl) (by kernel_rfl) (by kernel_rfl) (fun _ _ _ h => h) rfl (fun w' hw' => by (unfold execOp; simp [go_sem, Act.put, Act.eval])) ?_
          simp only [Act.put, List.setIfInBounds_toArray, List.set_cons_zero, List.set_cons_succ]
          refine s_take 8 (.slice (some ⟨b1, 0, none⟩) L.length c1) hS rfl (by kernel_rfl) (by kernel_rfl) (by kernel_rfl) (fun _ _ _ h => h) rfl (fun w' hw' => by (have hc0 := hw'.2.1; unfold execOp; simp [go_sem, Act.put, Act.eval, hc0])) ?_
          simp only [Act.put, List.setIfInBounds_toArray, List.set_cons_zero, List.set_cons_succ]
          refine s_take 9 (_) hS rfl (by kernel_rfl) (by kernel_rfl) (by kernel_rfl) (fun _ _ _ h => h) rfl (fun w' hw' => run_move_at _ rfl w') ?_
          simp only [Act.put, List.setIfInBounds_toArray, List.set_cons_zero, List.set_cons_succ]
          refine s_take 10 (.pointer (some ⟨b1, kk, none⟩)) hS rfl (by kernel_rfl) (by kernel_rfl) (by kernel_rfl) (fun _ _ _ h => h) rfl (fun w' hw' => by (have hc0 := hi1; have hc1 := hi2; have hc2 := hi3; unfold execOp; simp [go_sem, Act.put, Act.eval, hc0, hc1, hc2])) ?_
          simp only [Act.put, List.setIfInBounds_toArray, List.set_cons_zero, List.set_cons_succ]
          refine s_take 11 (.string (strOfNums b.f)) hS rfl (by kernel_rfl) (by kernel_rfl) (by kernel_rfl) (fun _ _ _ h => h) rfl (fun w' hw' => by (have hc0 := hw'.2.2; unfold execOp; simp [go_sem, Act.put, Act.eval, hc0])) ?_
          simp only [Act.put, List.setIfInBounds_toArray, List.set_cons_zero, List.set_cons_succ]
          refine s_take 12 (.pointer (some ⟨b0, kk, none⟩)) hS rfl (by kernel_rfl) (by kernel_rfl) (by kernel_rfl) (fun _ _ _ h => h) rfl (fun w' hw' => by (have hc0 := hi1; have hc1 := hi2; have hc2 := hi3; unfold execOp; simp [go_sem, Act.put, Act.eval, hc0, hc1, hc2])) ?_
          simp only [Act.put, List.setIfInBounds_toArray, List.set_cons_zero, List.set_cons_succ]
          obtain ⟨m1, m2⟩ := RDsk.cellAt HRd.out v0 rfl kk hD
          obtain ⟨u1, m1⟩ := m1
          obtain ⟨T3, K3, B3⟩ := RDsk.store HRd.out v0 rfl kk hD b.f
          have h03 : (wd.setCell ⟨b0, kk, none⟩ (.string (strOfNums b.f))).cell? ⟨g, 0, none⟩ = some (.slice (some ⟨b0, 0, none⟩) L.length c0) := (cell_of_row _ g 0 _ _ _ T3.tab).trans (by simpa using v0)
          have h13 : (wd.setCell ⟨b0, kk, none⟩ (.string (strOfNums b.f))).cell? ⟨g, 1, none⟩ = some (.slice (some ⟨b1, 0, none⟩) L.length c1) := (cell_of_row _ g 1 _ _ _ T3.tab).trans (by simpa using v1)
          have q13 : (wd.setCell ⟨b0, kk, none⟩ (.string (strOfNums b.f))).cell? ⟨b1, kk, none⟩ = some (.string (strOfNums b.f)) := (World.cell?_setCell_other _ _ _ _ (by intro e2; exact hb01 (Addr.mk.inj e2).1)).trans hS.2.2
          refine s_one 13 rfl (by kernel_rfl) ?_
          refine g_skip (wd.setCell ⟨b0, kk, none⟩ (.string (strOfNums b.f))) rfl (by (have hc0 := m1; have hc1 := m2; unfold execOp; simp [go_sem, Act.put, Act.eval, hc0, hc1])) ⟨h03, h13, q13⟩ (fun hS => ?_)
          simp only [Act.put, List.setIfInBounds_toArray, List.set_cons_zero, List.set_cons_succ]
          refine s_done (by kernel_rfl) ?_
          have HR3 := Lib.hid T3
          have HK3 := Lib.hid (HKd.out.trans K3)
          have HB3 := Lib.hid (HBd.out.trans B3)
          clear T3 K3 B3 m1 m2 hS HRd HKd HBd h03 q13
          generalize hw3 : wd.setCell ⟨b0, kk, none⟩ (.string (strOfNums b.f)) = w3 at *
          clear hw3
          simp only [List.set_cons_zero] at HR3
          obtain ⟨n1, n2⟩ := RDsk.cellAt HR3.out v1 rfl kk hF
          obtain ⟨u2, n1⟩ := n1
          obtain ⟨T4, K4, B4⟩ := RDsk.store HR3.out v1 rfl kk hF []
          rw [strOf_nil] at T4 K4 B4
          have F := Lib.hid (And.intro T4 (And.intro (HK3.out.trans K4) (HB3.out.trans B4)))
          clear T4 K4 B4 HR3 HK3 HB3
          go_wp2
          generalize hw4 : w3.setCell ⟨b1, kk, none⟩ (.string ⟨#[]⟩) = w4 at *
          clear hw4
          simp only [List.set_cons_zero, List.set_cons_succ] at F
          go_roundg (L.length - (kk + 1))
          case measure => omega
          case rel =>
            refine ⟨kk + 1, cntQ (L.take kk) + 1, by omega, by omega, by go_num, by go_num, by rw [HCS.out], by omega, ⟨?_⟩, ⟨F.out.2.1⟩, ⟨F.out.2.2⟩⟩
            have h := F.out.1
            unfold RD
            rw [HMS.out, List.map_set, List.map_set, List.map_set]
            rw [show frF ({ b with d := b.f, q := false } : Blk) = [] from rfl]
            rw [set_same (show ((midF ks L kk).map Blk.p)[kk]? = some b.p from by rw [List.getElem?_map, HBM.out]; rfl)]
            exact h
        | false =>
          rw [hk] at hstep
          simp only [Bool.false_eq_true, if_false] at hstep
          have HMS := Lib.hid (show midF ks L (kk + 1) = (midF ks L kk).set kk { b with q := false } from hstep)
          by_cases hnl : cntQ (L.take kk) < len
          · have hnz : ((cntQ (L.take kk) : Nat) : Int) < (len : Int) := by omega
            obtain ⟨bk, ok_, rfl, hkc⟩ := HKR.out _ HB.out (cntQ (L.take kk)) hnl
            rw [hk] at hkc
            clear hb hb0 hstep hcs hfin hq k1 k0 hk q0
            obtain ⟨n1, n2⟩ := RDsk.cellAt HRk.out v1 rfl kk hF
            obtain ⟨u2, n1⟩ := n1
            obtain ⟨T4, K4, B4⟩ := RDsk.store HRk.out v1 rfl kk hF []
            rw [strOf_nil] at T4 K4 B4
            have F := Lib.hid (And.intro T4 (And.intro (HK.out.trans K4) (HB.out.trans B4)))
            clear T4 K4 B4 HRk HK HB
            go_wp2
            generalize hw4 : wq.setCell ⟨b1, kk, none⟩ (.string ⟨#[]⟩) = w4 at *
            clear hw4
            simp only [List.set_cons_zero, List.set_cons_succ] at F
            go_roundg (L.length - (kk + 1))
            case measure => omega
            case rel =>
              refine ⟨kk + 1, cntQ (L.take kk) + 1, by omega, by omega, by go_num, by go_num, by rw [HCS.out], by omega, ⟨?_⟩, ⟨F.out.2.1⟩, ⟨F.out.2.2⟩⟩
              have h := F.out.1
              unfold RD
              rw [HMS.out, List.map_set, List.map_set, List.map_set]
              rw [show frF ({ b with q := false } : Blk) = [] from rfl, set_same (show ((midF ks L kk).map Blk.d)[kk]? = some b.d from by rw [List.getElem?_map, HBM.out]; rfl)]
              rw [set_same (show ((midF ks L kk).map Blk.p)[kk]? = some b.p from by rw [List.getElem?_map, HBM.out]; rfl)]
              exact h
          · have hnz : ¬ ((cntQ (L.take kk) : Nat) : Int) < (len : Int) := by omega
            clear hb hb0 hstep hcs hfin hq k1 k0 hk q0
            obtain ⟨n1, n2⟩ := RDsk.cellAt HRk.out v1 rfl kk hF
            obtain ⟨u2, n1⟩ := n1
            obtain ⟨T4, K4, B4⟩ := RDsk.store HRk.out v1 rfl kk hF []
            rw [strOf_nil] at T4 K4 B4
            have F := Lib.hid (And.intro T4 (And.intro (HK.out.trans K4) (HB.out.trans B4)))
            clear T4 K4 B4 HRk HK HB
            go_wp2
            generalize hw4 : wq.setCell ⟨b1, kk, none⟩ (.string ⟨#[]⟩) = w4 at *
            clear hw4
            simp only [List.set_cons_zero, List.set_cons_succ] at F
            go_roundg (L.length - (kk + 1))
            case measure => omega
            case rel =>
              refine ⟨kk + 1, cntQ (L.take kk) + 1, by omega, by omega, by go_num, by go_num, by rw [HCS.out], by omega, ⟨?_⟩, ⟨F.out.2.1⟩, ⟨F.out.2.2⟩⟩
              have h := F.out.1
              unfold RD
              rw [HMS.out, List.map_set, List.map_set, List.map_set]
              rw [show frF ({ b with q := false } : Blk) = [] from rfl, set_same (show ((midF ks L kk).map Blk.d)[kk]? = some b.d from by rw [List.getElem?_map, HBM.out]; rfl)]
              rw [set_same (show ((midF ks L kk).map Blk.p)[kk]? = some b.p from by rw [List.getElem?_map, HBM.out]; rfl)]
              exact h
    · have hltz : ¬ (kk : Int) < (L.length : Int) := by omega
      have e : kk = L.length := by omega
      have HKE := Lib.hid e
      clear e
      go_wp2
      go_end0
      have h := HRk.out
      rw [HKE.out, midF_end _ _ _ rfl] at h
      exact ⟨rfl, h, HK.out, HB.out⟩
end
end Go.Proofs.Ytoiiacbbfhlocaa.HDa
