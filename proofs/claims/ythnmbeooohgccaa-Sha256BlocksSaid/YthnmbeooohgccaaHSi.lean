/- Layer 1: the walk of Sha256Blocks. -/
import Derived.Test.YthnmbeooohgccaaHSh
import Derived.Test.YthnmbeooohgccaaPSe
set_option linter.unusedVariables false
set_option linter.unusedSimpArgs false
namespace Go.Proofs.Ythnmbeooohgccaa.HSa
open Go.RowKit Go.Proofs.YthnmbeooohgccaaW.PrintWords Go.Proofs.YthnmbeooohgccaaW.PrintLast Go.Proofs.YthnmbeooohgccaaW.PrintMore Go.Proofs.Ythnmbeooohgccaa.Kit Go.Proofs.Ythnmbeooohgccaa.Sa
theorem info32 : (Try.prog.info? 76).map (fun i => (i.zero, i.size, i.bytes)) = some (some (.int .u32 0), 1, 4) := by kernel_rfl
theorem filled_any (A0 : Option Addr) (c0 : Nat) (l : List Int) (w : World) (hr0 : Kd.C (Kd.int .u8) w A0 l.length l) (hc0 : l.length ≤ c0) (hl : l.length ≤ 100000) :
    Calls Try.prog 57 #[.slice A0 l.length c0] w (OutB w (allF l)) :=
  (padlockref01_Filled.calls (560 + 418) A0 c0 l (allF l) w hr0 hc0 (filled_tells l (by omega) 560)).mono fun _ _ h => h
attribute [local irreducible] sumF allF comeN wordsF part4 iv consts
set_option maxHeartbeats 2000000 in
set_option maxRecDepth 100000 in
theorem blocks_few (A0 : Option Addr) (c0 : Nat) (a : List Int) (A1 : Option Addr) (c1 : Nat) (b : List Int) (w : World)
    (hr0 : Kd.C (Kd.int .u8) w A0 a.length a) (hc0 : a.length ≤ c0) (hr1 : Kd.C (Kd.int .u8) w A1 b.length b) (hc1 : b.length ≤ c1) (hba : Bytes a) (hbb : Bytes b) (hla : a.length ≤ 200) (hlb : b.length ≤ 200) :
    Calls Try.prog 10 #[.slice A0 a.length c0, .slice A1 b.length c1] w (TellsT w) := by
  have HR0 := Lib.hid hr0
  have HR1 := Lib.hid hr1
  have HBA := Lib.hid hba
  have HBB := Lib.hid hbb
  clear hr0 hr1 hba hbb
  have HFL : Hid ((allF a).length ≤ 272 ∧ (allF a).length % 64 = 0) := Lib.hid ⟨by rw [allF_length]; unfold zerosN; omega, allF_mul a⟩
  obtain ⟨F, hF⟩ : ∃ F, F = allF a := ⟨_, rfl⟩
  have HF := Lib.hid hF
  clear hF
  go_enter Try.func10, Try.ntmps10
  go_wp2_with fail
  refine (filled_any A0 c0 a _ HR0.out hc0 (by omega)).mono ?_
  rintro e w1 ⟨v1, rfl, hO1, hB1⟩
  rw [← HF.out] at hO1
  have HO1 := Lib.hid hO1
  have HB1 := Lib.hid hB1
  have HR11 := Lib.hid (Kd.C_below HR1.out hB1)
  clear hO1 hB1
  obtain ⟨X, hX⟩ : ∃ X, X = F ++ b := ⟨_, rfl⟩
  obtain ⟨n, hn⟩ : ∃ n, n = X.length := ⟨_, rfl⟩
  obtain ⟨f, hf⟩ : ∃ f, f = F.length := ⟨_, rfl⟩
  have hfn : n = f + b.length := by rw [hn, hX, hf]; simp
  have hf1 : f ≤ 272 := by rw [hf, HF.out]; exact HFL.out.1
  have hf2 : f % 64 = 0 := by rw [hf, HF.out]; exact HFL.out.2
  have HX := Lib.hid hX
  have HN := Lib.hid hn
  have HF' := Lib.hid hf
  have HFN := Lib.hid hfn
  clear hX hn hf
  have HBX : Hid (Bytes X) := Lib.hid (by
    rw [HX.out]
    intro x hx
    rcases List.mem_append.1 hx with h | h
    · rw [HF.out] at h; exact bytes_all a HBA.out x h
    · exact HBB.out x h)
  have hn2 : n ≤ 472 := by omega
  have hbn : b.length ≤ n := by omega
  clear hfn
  go_wp2_with (first
      | ((with_reducible refine gate_builtin (b := .append) (xs := #[.tmp 29, .tmp 30]) rfl ?_); at_builtin; refine Kd.R_append_rows (Kd.int .u8) (w0 := w) w.heap.size rfl (.tmp 29) (.tmp 30) 22 5 (.int .u8 0) 1 rfl Try.underlying22 info5 rfl (by decide) (by omega) v1 F b _ _ _ (fun _ => True) (fun _ => False) rfl rfl HO1.out HR11.out (fun _ _ h => h) (fun _ h => h.elim) (fun _ _ => trivial) HB1.out HB1.out.size ?aL ?_; (case aL => rw [← HF'.out]; omega); intro v2 w2 ho2 hb2 hg2 hat2; rw [← HX.out] at ho2; have HO2 := Lib.hid ho2; have HB2 := Lib.hid hb2; obtain ⟨A2, c2, hv2, hlc2, hrd2⟩ := Kd.R_reads ho2; clear ho2 hb2 hg2 hat2; rw [← HN.out] at hv2 hlc2 hrd2; subst hv2; have HRD2 := Lib.hid hrd2; clear hrd2)
      | fail)
  refine (padlockref01_Constants.calls 978 iv consts w2 (constants_tells 978 (by decide))).mono ?_
  rintro e w3 ⟨v3, v4, rfl, hO3, hO4, hB3⟩
  obtain ⟨A3, c3, e3⟩ := Kd.R_slice hO3
  obtain ⟨A4, c4, e4⟩ := Kd.R_slice hO4
  rw [show iv.length = 8 from by unfold iv; rfl] at e3
  rw [show consts.length = 64 from by unfold consts; rfl] at e4
  subst e3 e4
  have HO4 := Lib.hid (Kd.R_reads' hO4).2.2
  have hc4 : 64 ≤ c4 := (Kd.R_reads' hO4).2.1
  have HB23 := Lib.hid hB3
  have HB3 := Lib.hid (below_next HB2.out hB3)
  clear hO3 hO4 hB3
  go_wp2_with fail
  refine (sum_any A0 c0 a w3 (Kd.C_below HR0.out HB3.out) hc0 (by omega)).mono ?_
  rintro e w4 ⟨rfl, hB4⟩
  obtain ⟨xs, hxs⟩ : ∃ xs, xs = sumF a := ⟨_, rfl⟩
  have HXL : Hid (xs.length = 32) := Lib.hid (by rw [hxs]; exact sumF_length a)
  have HXB : Hid (Bytes xs) := Lib.hid (by rw [hxs]; exact sumF_bytes a)
  rw [← hxs]
  have HXS := Lib.hid hxs
  have HB4 := Lib.hid (below_next HB3.out hB4)
  have HB24 := Lib.hid (below_next HB23.out hB4)
  have HC4 := Lib.hid (Kd.C_below HO4.out hB4)
  clear hxs hB4
  go_wp2_with (first
    | ((with_reducible refine gate_dst (N := 8) rfl ?_); refine alloc_arr rfl 69 rfl .u8 (List.replicate 32 0) (fun w => Try.zeroValue69 w) (by first | (go_simp; done) | (go_simp; rfl)) ?_; intro w5 hA5 hB5)
    | ((with_reducible refine gate_store (t := 69) (p := 8) rfl ?_); refine store_arr rfl 69 _ _ rfl w4.heap.size .u8 xs rfl rfl 69 _ hA5 (by rw [HXL.out]; rfl) (by rw [HXL.out]; kernel_rfl) ?_; intro wa hA6 hw6; have hB6 := below_setRow hB5 w4.heap.size (Nat.le_refl _) (nums .u8 xs).toArray; rw [← hw6] at hB6; have HA6 := Lib.hid hA6; have HB6 := Lib.hid (below_next HB4.out hB6); have HB26 := Lib.hid (below_next HB24.out hB6); have HC6 := Lib.hid (Kd.C_below HC4.out hB6); have hga := hA6.lt; clear hA5 hB5 hw6 hA6 hB6)
    | fail)
  generalize w4.heap.size = g at *
  have HW0 : Hid (Kd.R (Kd.int .u32) 76 wa wa.heap.size (fun _ => True) (.slice none 0 0) (wordsF xs 0)) := Lib.hid (by unfold wordsF; exact Kd.R_nil _ _ _ _ _)
  go_loopw [9, 10] (fun v i wr => ∃ (k : Nat) (A' : Option Addr) (c' : Nat), v = .slice A' k c' ∧ i = .int .i64 k ∧ k ≤ 8 ∧ Hid (Kd.R (Kd.int .u32) 76 wr wa.heap.size (fun _ => True) (.slice A' k c') (wordsF xs k)) ∧ Hid (Below wa.heap.size wa wr)) (fun _ i _ => 8 - (intOf i).toNat)
  case atStart => exact ⟨0, none, 0, rfl, rfl, by omega, HW0, Lib.hid (Below.refl _ _)⟩
  case round =>
    clear HW0
    obtain ⟨k, A9, c9, rfl, rfl, hk, hO, hB⟩ := hrel
    by_cases hk8 : k < 8
    · have HA := Lib.hid (HA6.out.below hB.out hga)
      go_wp2_with fail
      go_loop [11, 12] (fun nv iv => ∃ (q : Nat) (p : Int), nv = .int .u32 p ∧ iv = .int .i64 q ∧ q ≤ 4 ∧ Hid (p = part4 xs k q)) (fun _ i => 4 - (intOf i).toNat)
      case atStart => exact ⟨0, 0, rfl, rfl, by omega, Lib.hid (by unfold part4; rfl)⟩
      case round =>
        obtain ⟨q, p, rfl, rfl, hq, hp⟩ := hrel
        by_cases hq4 : q < 4
        · have hpb := part4_bd xs HXB.out k q hq4
          rw [← hp.out] at hpb
          obtain ⟨hp0, hp1⟩ := hpb
          have hcell := HA.out.cellN (4 * k + q) (by rw [HXL.out]; omega)
          obtain ⟨hy0, hy1⟩ := at_nat HXB.out (4 * k + q)
          have HP : Hid (part4 xs k (q + 1) = p * 256 + xs.getD (4 * k + q) 0) := Lib.hid (by rw [hp.out, part4])
          generalize xs.getD (4 * k + q) 0 = y at *
          go_wp2
          go_round
          case rel => exact ⟨q + 1, _, rfl, by go_num, by omega, Lib.hid (by rw [HP.out])⟩
          case measure => simp [intOf]; omega
        · have hq4' : q = 4 := by omega
          subst hq4'
          go_wp2_with (first
            | ((with_reducible refine gate_builtin (b := .append) (xs := #[.tmp 56, .tmp 58]) rfl ?_); at_builtin; refine Kd.R_append (Kd.int .u32) (w0 := wa) wa.heap.size rfl (.tmp 56) (.tmp 58) 73 76 (.int .u32 0) 4 rfl Try.underlying73 info32 rfl (by decide) (by omega) (.slice A9 k c9) (wordsF xs k) p [.int .u32 p] (fun _ => True) (fun _ => False) rfl rfl ?aP (fun _ hk => hk.elim) (fun _ _ => trivial) hO.out hB.out hB.out.size ?aL2 ?_; (case aP => exact rfl); (case aL2 => rw [wordsF_length]; omega); intro v7 w7 ho7 hb7 hg7 hat7; have HO7 := Lib.hid ho7; have HB7 := Lib.hid hb7; obtain ⟨A7, c7, hv7, _, _⟩ := Kd.R_reads ho7; clear ho7 hb7 hg7 hat7; rw [List.length_append, wordsF_length] at hv7; subst hv7)
            | fail)
          go_roundw
          case rel => exact ⟨k + 1, A7, c7, rfl, by go_num, by omega, Lib.hid (by rw [wordsF_succ, ← hp.out]; exact HO7.out), HB7⟩
          case measure => simp [intOf]; omega
    · have hk8' : k = 8 := by omega
      subst hk8'
      have hc9 : 8 ≤ c9 := (Kd.R_reads' hO.out).2.1
      have HS9 := Lib.hid (Kd.R_reads' hO.out).2.2
      have hBb := below_next HB6.out hB.out
      have hB2b := below_next HB26.out hB.out
      obtain ⟨wb, hwb⟩ : ∃ wb : World, wb = wr := ⟨_, rfl⟩
      subst hwb
      have HXb := Lib.hid (Kd.C_below HRD2.out hB2b)
      have HC4b := Lib.hid (Kd.C_below HC6.out hB.out)
      have HBb := Lib.hid hBb
      have HFX := filled_any A2 c2 X wb (by rw [← HN.out]; exact HXb.out) (by rw [← HN.out]; exact hlc2) (by rw [← HN.out]; omega)
      rw [← HN.out] at HFX
      have HFX := Lib.hid HFX
      clear hBb hB2b hO hB
      go_wp2_with fail
      refine HFX.out.mono ?_
      rintro e wc ⟨v13, rfl, hO13, hB13⟩
      obtain ⟨G, hG⟩ : ∃ G, G = allF X := ⟨_, rfl⟩
      obtain ⟨m, hm⟩ : ∃ m, m = G.length := ⟨_, rfl⟩
      have hm1 : m = n + 1 + zerosN n + 8 := by rw [hm, hG, allF_length, HN.out]
      have hz : zerosN n < 64 := by unfold zerosN; omega
      have hmn : n < m := by omega
      have hmu : m ≤ 600 := by omega
      have hmm : m % 64 = 0 := by rw [hm, hG]; exact allF_mul X
      have hST := steps_tell X HBX.out (by rw [← HN.out]; omega) 560
      have hst : wordsF xs 8 = comeN iv G (f / 64) := by
        rw [HXS.out, words_sum, hG, HX.out, HF'.out, HF.out]
        exact (come_prefix a b).symm
      rw [← hG] at hO13 hST
      obtain ⟨A13, c13, e13, hl13, hr13⟩ := Kd.R_reads hO13
      rw [← hm] at e13 hl13 hr13
      subst e13
      have HST := Lib.hid hST
      have HS0 := Lib.hid hst
      have HG := Lib.hid hG
      have HM := Lib.hid hm
      have HG13 := Lib.hid hr13
      have HS9c := Lib.hid (Kd.C_below HS9.out hB13)
      have HC4c := Lib.hid (Kd.C_below HC4b.out hB13)
      have HXc := Lib.hid (Kd.C_below HXb.out hB13)
      have HBc := Lib.hid (below_next HBb.out hB13)
      clear hST hst hG hm hm1 hz hr13 hO13 hB13
      have hfn : f ≤ n := by have := HFN.out; omega
      go_wp2_with fail
      have hst0 : Hid (Kd.C (Kd.int .u32) wc A9 8 (comeN iv G (f / 64))) := Lib.hid (by have h := HS9c.out; rw [wordsF_length] at h; rw [← HS0.out]; exact h)
      go_loopw [9, 14] (fun v i wr => ∃ (j a' : Nat) (A' : Option Addr) (c' : Nat), v = .slice A' 8 c' ∧ i = .int .i64 a' ∧ a' = 64 * j ∧ a' ≤ m ∧ 8 ≤ c' ∧ Hid (Kd.C (Kd.int .u32) wr A' 8 (comeN iv G j)) ∧ Hid (Below wc.heap.size wc wr)) (fun _ i _ => m - (intOf i).toNat)
      case atStart => exact ⟨f / 64, f, A9, c9, rfl, (by have := HFN.out; congr 1; omega), by omega, by omega, hc9, hst0, Lib.hid (Below.refl _ _)⟩
      case round =>
        clear hst0
        obtain ⟨j, a', A', c', rfl, rfl, ha, han, hc', hC, hBr⟩ := hrel
        have HA := Lib.hid ha
        have ha64 : a' % 64 = 0 := by omega
        clear ha
        by_cases hlt : a' < m
        · have hle : a' + 64 ≤ m := by omega
          obtain ⟨i0, hi, hz0, hz1, hz2⟩ := info_parts info5
          obtain ⟨A'', hsl, hrd, hcp⟩ := print_mid_int (P := Try.prog) (k := .u8) 22 5 Try.underlying22 hi hz1 A13 c13 G (a' : Int) ((a' : Int) + 64) (by omega) (by omega) (by have := HM.out; omega) (by have := HM.out; omega)
          have hbl : (G.take ((a' : Int) + 64).toNat).drop (a' : Int).toNat = (G.drop (64 * j)).take 64 := by
            rw [HA.out, show (((64 * j : Nat) : Int) + 64).toNat = 64 * j + 64 from by omega, show ((64 * j : Nat) : Int).toNat = 64 * j from by omega, List.drop_take]
            congr 1
            omega
          have hbl64 : ((G.drop (64 * j)).take 64).length = 64 := by simp; have := HM.out; have := HA.out; omega
          rw [hbl, hbl64] at hsl
          rw [hbl] at hrd hcp
          rw [← HM.out] at hsl
          have HBR := Lib.hid (Kd.C_of_reads (enc := Value.int .u8) (d := (0 : Int)) (h1 := fun _ => rfl) (hrd wr (Kd.reads_of_C (enc := Value.int .u8) (d := (0 : Int)) (h1 := fun _ => rfl) (by have := Kd.C_below HG13.out hBr.out; rw [HM.out] at this; exact this))))
          have HCP := Lib.hid hcp
          have H64 := Lib.hid hbl64
          have HSJ := Lib.hid (HST.out.step j (by have := HM.out; have := HA.out; omega))
          have HC := Lib.hid (padlockref01_Come.calls 978 A' c' (comeN iv G j) A'' (c13 - (a' : Int).toNat) ((G.drop (64 * j)).take 64) A4 c4 consts (comeN iv G (j + 1)) wr (by rw [HST.out.len j]; exact hC.out) (by rw [HST.out.len j]; exact hc') HBR.out HCP.out (Kd.C_below HC4c.out hBr.out) (by rw [show consts.length = 64 from by unfold consts; rfl]; exact hc4) HSJ.out)
          rw [HST.out.len j, H64.out, show consts.length = 64 from by unfold consts; rfl] at HC
          clear hrd hcp hbl hbl64
          rw [Int.toNat_natCast] at HC
          go_wp2_with fail
          refine HC.out.mono ?_
          rintro e w2' ⟨v2, rfl, hO2, hB2⟩
          obtain ⟨A2', c2', rfl, hcl2, hrd2⟩ := Kd.R_reads hO2
          rw [HST.out.len (j + 1)] at hrd2 hcl2 ⊢
          have HRD2 := Lib.hid hrd2
          have HBB := Lib.hid (below_next hBr.out hB2)
          clear hO2 hB2 hrd2 hsl
          go_wp2
          go_roundw
          case rel => exact ⟨j + 1, a' + 64, A2', c2', rfl, by go_num, by have := HA.out; omega, by omega, hcl2, HRD2, HBB⟩
          case measure => simp [intOf]; omega
        · have haN : a' = m := by omega
          have hC1 := hC.out
          have HJ : Hid (j = m / 64) := Lib.hid (by have := HA.out; omega)
          rw [HJ.out] at hC1
          obtain ⟨S, hS⟩ : ∃ S, S = comeN iv G (m / 64) := ⟨_, rfl⟩
          rw [← hS] at hC1
          obtain ⟨b9, off, rfl, hcell⟩ := C_cells hC1 (by omega)
          have hb9 : b9 < wr.heap.size := World.block_lt_of_cell? wr _ (hcell 0 (by omega))
          obtain ⟨wd, hwd⟩ : ∃ wd : World, wd = wr := ⟨_, rfl⟩
          subst hwd
          have HCE := Lib.hid hcell
          have HSS := Lib.hid hS
          have hmS := sum_any A2 c2 X wd (by rw [← HN.out]; exact Kd.C_below HXc.out hBr.out) (by rw [← HN.out]; exact hlc2) (by rw [← HN.out]; omega)
          rw [← HN.out] at hmS
          have HMS := Lib.hid hmS
          have HBd := Lib.hid (below_next HBc.out hBr.out)
          clear hcell hC1 hC hS hmS
          subst haN
          go_wp2_with fail
          refine HMS.out.mono ?_
          rintro e w11 ⟨rfl, hB11⟩
          obtain ⟨ys, hys⟩ : ∃ ys, ys = sumF X := ⟨_, rfl⟩
          have HYL : Hid (ys.length = 32) := Lib.hid (by rw [hys]; exact sumF_length X)
          have HYB : Hid (Bytes ys) := Lib.hid (by rw [hys]; exact sumF_bytes X)
          have HYW : Hid (∀ i, i < 8 → part4 ys i 4 = S.getD i 0) := Lib.hid (fun i hi => by rw [hys, HSS.out, HM.out, HG.out]; exact part4_sum X i hi)
          rw [← hys]
          have HCE1 : Hid (∀ j, j < 8 → w11.cell? ⟨b9, off + j, none⟩ = some (.int .u32 (S.getD j 0))) := Lib.hid (fun j hj => (hB11.cell (p := ⟨b9, off + j, none⟩) hb9).trans (HCE.out j hj))
          have hb91 : b9 < w11.heap.size := Nat.lt_of_lt_of_le hb9 hB11.size
          have HB11 := Lib.hid (below_next HBd.out hB11)
          clear hys hB11
          go_wp2_with (first
            | ((with_reducible refine gate_dst (N := 15) rfl ?_); refine alloc_arr rfl 69 rfl .u8 (List.replicate 32 0) (fun w => Try.zeroValue69 w) (by first | (go_simp; done) | (go_simp; rfl)) ?_; intro w12 hA12 hB12)
            | ((with_reducible refine gate_store (t := 69) (p := 15) rfl ?_); refine store_arr rfl 69 _ _ rfl w11.heap.size .u8 ys rfl rfl 69 _ hA12 (by rw [HYL.out]; rfl) (by rw [HYL.out]; kernel_rfl) ?_; intro we hA13 hw13; have hB13 := below_setRow hB12 w11.heap.size (Nat.le_refl _) (nums .u8 ys).toArray; rw [← hw13] at hB13; have HA13 := Lib.hid hA13; have HBe := Lib.hid (below_next HB11.out hB13); have HCE2 : Hid (∀ j, j < 8 → we.cell? ⟨b9, off + j, none⟩ = some (.int .u32 (S.getD j 0))) := Lib.hid (fun j hj => (hB13.cell (p := ⟨b9, off + j, none⟩) hb91).trans (HCE1.out j hj)); clear hA12 hB12 hw13 hA13 hB13)
            | fail)
          generalize w11.heap.size = g5 at *
          go_loop [16] (fun i => ∃ k : Nat, i = .int .i64 k ∧ k ≤ 8) (fun i => 8 - (intOf i).toNat)
          case atStart => exact ⟨0, rfl, by omega⟩
          case round =>
            obtain ⟨k, rfl, hk⟩ := hrel
            by_cases hk8 : k < 8
            · go_wp2_with fail
              go_loop [17, 18] (fun nv iv => ∃ (q : Nat) (p : Int), nv = .int .u32 p ∧ iv = .int .i64 q ∧ q ≤ 4 ∧ Hid (p = part4 ys k q)) (fun _ i => 4 - (intOf i).toNat)
              case atStart => exact ⟨0, 0, rfl, rfl, by omega, Lib.hid (by unfold part4; rfl)⟩
              case round =>
                obtain ⟨q, p, rfl, rfl, hq, hp⟩ := hrel
                by_cases hq4 : q < 4
                · have hpb := part4_bd ys HYB.out k q hq4
                  rw [← hp.out] at hpb
                  obtain ⟨hp0, hp1⟩ := hpb
                  have hcell := HA13.out.cellN (4 * k + q) (by rw [HYL.out]; omega)
                  obtain ⟨hy0, hy1⟩ := at_nat HYB.out (4 * k + q)
                  have HP : Hid (part4 ys k (q + 1) = p * 256 + ys.getD (4 * k + q) 0) := Lib.hid (by rw [hp.out, part4])
                  generalize ys.getD (4 * k + q) 0 = y at *
                  go_wp2
                  go_round
                  case rel => exact ⟨q + 1, _, rfl, by go_num, by omega, Lib.hid (by rw [HP.out])⟩
                  case measure => simp [intOf]; omega
                · have hq4' : q = 4 := by omega
                  subst hq4'
                  have hp' := hp.out
                  rw [HYW.out k hk8] at hp'
                  subst hp'
                  have hck := HCE2.out k hk8
                  go_wp2
                  go_round
                  case rel => exact ⟨k + 1, by go_num, by omega⟩
                  case measure => simp [intOf]; omega
            · have hk8' : k = 8 := by omega
              subst hk8'
              have HKN := Lib.hid (knows_any we)
              go_wp2_with fail
              refine HKN.out.mono ?_
              rintro e w15 ⟨rfl, hB15⟩
              have HB15 := Lib.hid (below_next HBe.out hB15)
              clear hB15
              go_wp2
              go_ret
              exact ⟨rfl, HB15.out⟩
end Go.Proofs.Ythnmbeooohgccaa.HSa
