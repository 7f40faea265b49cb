/- The contract of padlockref03.Words, by hand. -/
import Derived.Test.YtljmjeaocojnmaaPAe
import Derived.Test.YtljmjeaocojnmaaView
set_option linter.unusedVariables false
set_option linter.unusedSimpArgs false
namespace Go.Proofs.Ytljmjeaocojnmaa.HAa
open Go.RowKit Go.Proofs.YtljmjeaocojnmaaW.PrintWords Go.Proofs.YtljmjeaocojnmaaW.PrintLast Go.Proofs.YtljmjeaocojnmaaW.PrintMore Go.Proofs.Ytljmjeaocojnmaa.Kit Go.Proofs.Ytljmjeaocojnmaa.Ra
attribute [local go_sem ↓] Go.wp_at_zero Go.wp_at_succ
theorem info_sl : (Try.prog.info? 22).map (fun i => (i.zero, i.size, i.bytes)) = some (some (.slice none 0 0), 1, 24) := by kernel_rfl
def RowsOut (w : World) (e : Ending) (w' : World) (W : List (List Int)) : Prop :=
  ∃ A c, e = .returned (.slice A W.length c) ∧ W.length ≤ c ∧ Kd.C (Kd.slice 5 (Kd.int .u8)) w' A W.length W ∧ Below w.heap.size w w'
attribute [local irreducible] keyN kI kT conN four Wl Xl
set_option maxHeartbeats 2000000 in
set_option maxRecDepth 100000 in
theorem words_any (gk ok0 ck : Nat) (Tk : TypeId) (A1 : Option Addr) (c1 : Nat) (key box : List Int) (w : World) (h16 : key.length = 16) (h256 : box.length = 256) (hkb : Bytes key) (hbb : Bytes box)
    (hk : Kd.C (Kd.int .u8) w (some ⟨gk, ok0, none⟩) 16 key) (hck : 16 ≤ ck) (hkt : ∃ cells, w.heap[gk]? = some (.cells cells Tk (0, 0))) (hb : Kd.C (Kd.int .u8) w A1 256 box) (hc1 : 256 ≤ c1) :
    Calls Try.prog 66 #[.slice (some ⟨gk, ok0, none⟩) 16 ck, .slice A1 256 c1] w (fun e w' => RowsOut w e w' (Wl (keyN key box 40) 44)) := by
  obtain ⟨KS, hKS⟩ : ∃ K, K = keyN key box 40 := ⟨_, rfl⟩
  have HW : Hid (∀ i k, 4 ≤ i → i < 44 → k < 4 → KS.getD (4 * i + k) 0 = Go.bits .xor .u8 (KS.getD (4 * (i - 4) + k) 0) ((kT box KS i (conN ((i - 1) / 4))).getD k 0)) := Lib.hid (fun i k a b c => by rw [hKS]; exact KS_word key box h16 i k a b c)
  have HKY : Hid (∀ i, i < 4 → four KS (4 * i) = (key.drop (4 * i)).take 4) := Lib.hid (fun i hi => by rw [hKS]; exact KS_key key box h16 i hi)
  have HKB : Hid (Bytes KS) := Lib.hid (by rw [hKS]; exact keyN_b key box hkb hbb 40)
  rw [← hKS]
  clear hKS
  have hgk : gk < w.heap.size := by obtain ⟨_, h⟩ := hkt; exact (Array.getElem?_eq_some_iff.1 h).1
  have HK := Lib.hid hk
  have HT := Lib.hid hkt
  have HBX := Lib.hid hb
  have HL := Lib.hid h256
  have HL16 := Lib.hid h16
  have HXB := Lib.hid hbb
  clear hk hkt hb h256 hbb h16
  go_enter Try.func66, Try.ntmps66
  go_wp2_with fail
  have HR0 : Hid ((viewKd [5, Tk] .u8).R 22 w 0 (fun _ => True) (.slice none 0 0) (Wl KS 0)) := Lib.hid (by unfold Wl; exact Kd.R_nil _ _ _ _ _)
  have HC0 : Hid ((1 : Int) = conN ((0 - 1) / 4)) := Lib.hid (by unfold conN; rfl)
  go_loopw [5, 6, 7] (fun v cv iv wr => ∃ (i : Nat) (A : Option Addr) (c : Nat) (con : Int), v = .slice A i c ∧ cv = .int .u8 con ∧ iv = .int .i64 i ∧ i ≤ 44 ∧ 0 ≤ con ∧ con < 256 ∧ Hid (con = conN ((i - 1) / 4)) ∧ Hid ((viewKd [5, Tk] .u8).R 22 wr 0 (fun _ => True) (.slice A i c) (Wl KS i)) ∧ Hid (Below w.heap.size w wr) ∧ Hid (∀ k, (Value.slice A i c).ownBlock = some k → w.heap.size ≤ k)) (fun _ _ iv _ => 44 - (intOf iv).toNat)
  case atStart => exact ⟨0, none, 0, 1, rfl, rfl, rfl, by omega, by omega, by omega, HC0, HR0, Lib.hid (Below.refl _ _), Lib.hid (fun k hk => by simp [Value.ownBlock] at hk)⟩
  case round =>
    clear HR0 HC0
    obtain ⟨i, A, c, con, rfl, rfl, rfl, hi, hc0, hc1', hcon, hR, hB, hO⟩ := hrel
    have hB0 : Below 0 w wr := hB.out.mono (Nat.zero_le _)
    have HB0 := Lib.hid hB0
    clear hB0
    by_cases h4 : i < 4
    · have hsl : ∀ W : World, (Instr.slice 22 (.slice (some ⟨gk, ok0, none⟩) 16 ck) (some (.int .i64 (4 * (i : Int)))) (some (.int .i64 (4 * (i : Int) + 4))) none).run Try.prog W = .ok (.slice (some ⟨gk, ok0 + 4 * i, none⟩) 4 (ck - 4 * i)) W := fun W => by
        have h := slice_mid (P := Try.prog) 22 5 Try.underlying22 (by kernel_rfl) gk ok0 16 ck (4 * (i : Int)) (4 * (i : Int) + 4) (4 * i) (4 * i + 4) (by omega) (by omega) (by omega) (by omega) (by omega) W
        rwa [show 4 * i + 4 - 4 * i = 4 from by omega] at h
      have HSL := Lib.hid hsl
      have hP : Seen [5, Tk] .u8 wr 0 (fun k => some k ≠ (Value.slice A i c).ownBlock) (four KS (4 * i)) [.slice (some ⟨gk, ok0 + 4 * i, none⟩) 4 (ck - 4 * i)] := by
        have hl : (four KS (4 * i)).length = 4 := by unfold four; rfl
        have hC : Kd.C (Kd.int .u8) wr (some ⟨gk, ok0 + 4 * i, none⟩) 4 (four KS (4 * i)) := by
          rw [HKY.out i h4]
          have hr := Kd.reads_of_C (enc := Value.int .u8) (d := (0 : Int)) (h1 := fun _ => rfl) (Kd.C_below HK.out hB.out)
          obtain ⟨ad, e, hcell⟩ := hr.2.2 (by omega)
          injection e with e
          subst e
          refine Kd.C_of_reads (d := (0 : Int)) (h1 := fun _ => rfl) ⟨by simp [HL16.out]; omega, by omega, fun _ => ⟨_, rfl, fun j hj => ?_⟩⟩
          have h := hcell (4 * i + j) (by omega)
          rw [show (⟨gk, ok0, none⟩ : Addr).add (4 * i + j) = ⟨gk, ok0 + 4 * i + j, none⟩ from by unfold Addr.add; split <;> simp_all <;> omega] at h
          rw [show (⟨gk, ok0 + 4 * i, none⟩ : Addr).add j = ⟨gk, ok0 + 4 * i + j, none⟩ from by unfold Addr.add; split <;> simp_all, h]
          have e2 : ((key.drop (4 * i)).take 4).getD j 0 = key.getD (4 * i + j) 0 := by simp [List.getD, List.getElem?_take, hj]
          rw [e2]
        refine ⟨⟨gk, ok0 + 4 * i, none⟩, ck - 4 * i, by rw [hl], by rw [hl]; omega, by rw [hl]; exact hC, fun e => ?_, Nat.zero_le _, Nat.lt_of_lt_of_le hgk hB.out.size, Tk, by simp, ?_⟩
        · have := hO.out gk e.symm
          omega
        · obtain ⟨cells, h⟩ := HT.out
          exact ⟨cells, (hB.out.block gk hgk).trans h⟩
      have HP := Lib.hid hP
      clear hP hsl
      have hslI := HSL.out
      go_wp2_with (first
        | ((with_reducible refine gate_builtin (b := .append) (xs := #[.tmp 17, .tmp 25]) rfl ?_); at_builtin; go_loud (refine Kd.R_append (viewKd [5, Tk] .u8) (w0 := w) 0 rfl (.tmp 17) (.tmp 25) 33 22 (.slice none 0 0) 24 rfl Try.underlying33 info_sl rfl Nat.one_pos (by omega) (.slice A i c) (Wl KS i) (four KS (4 * i)) [.slice (some ⟨gk, ok0 + 4 * i, none⟩) 4 (ck - 4 * i)] (fun _ => True) (fun k => some k ≠ (Value.slice A i c).ownBlock) rfl rfl HP.out (fun _ h => ⟨trivial, h⟩) (fun _ _ => trivial) hR.out HB0.out (Nat.zero_le _) (by rw [Wl_length]; omega) ?_); intro v7 w7 ho7 hb7 hg7 hat7; have HO7 := Lib.hid ho7; have HG7 := Lib.hid hg7; have HAT := Lib.hid hat7; clear ho7 hb7 hg7 hat7)
        | fail)
      obtain ⟨A7, c7, e7⟩ := Kd.R_slice HO7.out
      rw [List.length_append, Wl_length] at e7
      subst e7
      have HB7 : Hid (Below w.heap.size w w7) := Lib.hid (pw_below_grown hB.out _ hB.out.size HG7.out (fun k hk => hO.out k hk))
      have HO2 : Hid (∀ k, (Value.slice A7 (i + 1) c7).ownBlock = some k → w.heap.size ≤ k) := Lib.hid (fun k hk => by
        rcases HAT.out with h | ⟨b, h, hb⟩
        · exact hO.out k (h.symm.trans hk)
        · have e := h.symm.trans hk
          injection e with e
          have := hB.out.size
          omega)
      clear hslI
      go_wp2_with fail
      go_roundw
      case rel => exact ⟨i + 1, A7, c7, con, rfl, rfl, by go_num, by omega, hc0, hc1', Lib.hid (by rw [hcon.out, show (i + 1 - 1) / 4 = (i - 1) / 4 from by omega]), Lib.hid (by rw [Wl_succ]; exact HO7.out), HB7, HO2⟩
      case measure => simp [intOf]; omega
    · by_cases h44 : i < 44
      · have hfl : ∀ x, (four KS x).length = 4 := fun x => by unfold four; rfl
        have hx1 := view_at hR.out (i - 1) (by omega)
        have hx4 := view_at hR.out (i - 4) (by omega)
        rw [Wl_at _ _ _ (by omega), hfl] at hx1 hx4
        obtain ⟨g, At, ct, eA, hx1, hle1, hC1⟩ := hx1
        obtain ⟨g', A4, c4, e4, hx4, hle4, hC4⟩ := hx4
        rw [eA] at e4
        injection e4 with e4
        injection e4 with e4
        subst e4
        subst eA
        obtain ⟨bt, ot, rfl, hct⟩ := C_cells hC1 (by omega)
        obtain ⟨b4, o4, rfl, hc4⟩ := C_cells hC4 (by omega)
        have HC1 := Lib.hid hC1
        have HC4 := Lib.hid hc4
        have hfg : ∀ x n, n < 4 → (four KS x).getD n 0 = KS.getD (x + n) 0 := fun x n hn => four_at KS x n hn
        have hct0 := hct 0 (by omega)
        have hct1 := hct 1 (by omega)
        have hct2 := hct 2 (by omega)
        have hct3 := hct 3 (by omega)
        rw [hfg _ _ (by omega)] at hct0 hct1 hct2 hct3
        rw [Nat.add_zero, Nat.add_zero] at hct0
        have HX1 := Lib.hid hx1
        have HX4 := Lib.hid hx4
        have hi1 : (0 : Int) ≤ (i : Int) - 1 := by omega
        have hi2 : (1 : Int) ≤ (i : Int) := by omega
        have hi3 : ((i : Int) - 1).toNat = i - 1 := by omega
        have hi4 : ¬ (i : Int) < 4 := by omega
        have hi5 : (4 : Int) ≤ (i : Int) := by omega
        have HFG := Lib.hid hfg
        have HFL := Lib.hid hfl
        clear hC1 hC4 hct hc4 hfg hfl hx4
        by_cases hm : i % 4 = 0
        focus
          have hem : ((i : Int) % 4 == 0) = true := by simp; omega
          have HM := Lib.hid hm
          clear hm
          obtain ⟨bb, ob, rfl, hbc⟩ := C_cells HBX.out (by omega)
          have hbc' : ∀ (W : World), Below w.heap.size w W → ∀ j, j < 256 → W.cell? ⟨bb, ob + j, none⟩ = some (.int .u8 (box.getD j 0)) := fun W hW j hj => (hW.cell (p := ⟨bb, ob + j, none⟩) (World.block_lt_of_cell? w _ (hbc j hj))).trans (hbc j hj)
          obtain ⟨t0, ht0⟩ : ∃ x, x = KS.getD (4 * (i - 1)) 0 := ⟨_, rfl⟩
          obtain ⟨t1, ht1⟩ : ∃ x, x = KS.getD (4 * (i - 1) + 1) 0 := ⟨_, rfl⟩
          obtain ⟨t2, ht2⟩ : ∃ x, x = KS.getD (4 * (i - 1) + 2) 0 := ⟨_, rfl⟩
          obtain ⟨t3, ht3⟩ : ∃ x, x = KS.getD (4 * (i - 1) + 3) 0 := ⟨_, rfl⟩
          rw [← ht0] at hct0
          rw [← ht1] at hct1
          rw [← ht2] at hct2
          rw [← ht3] at hct3
          obtain ⟨hl0, hu0⟩ : 0 ≤ t0 ∧ t0 < 256 := by rw [ht0]; exact byte_at HKB.out _
          obtain ⟨hl1, hu1⟩ : 0 ≤ t1 ∧ t1 < 256 := by rw [ht1]; exact byte_at HKB.out _
          obtain ⟨hl2, hu2⟩ : 0 ≤ t2 ∧ t2 < 256 := by rw [ht2]; exact byte_at HKB.out _
          obtain ⟨hl3, hu3⟩ : 0 ≤ t3 ∧ t3 < 256 := by rw [ht3]; exact byte_at HKB.out _
          have hb0 := hbc' wr hB.out t0.toNat (by omega)
          have hb1 := hbc' wr hB.out t1.toNat (by omega)
          have hb2 := hbc' wr hB.out t2.toNat (by omega)
          have hb3 := hbc' wr hB.out t3.toNat (by omega)
          have HTK : Hid (kT box KS i (conN ((i - 1) / 4)) = [Go.bits .xor .u8 (box.getD t1.toNat 0) con, box.getD t2.toNat 0, box.getD t3.toNat 0, box.getD t0.toNat 0]) := Lib.hid (by
            unfold kT
            rw [if_pos HM.out, ← hcon.out, ht0, ht1, ht2, ht3, show 4 * i - 4 = 4 * (i - 1) from by omega])
          obtain ⟨y0, hy0⟩ : ∃ x, x = box.getD t0.toNat 0 := ⟨_, rfl⟩
          obtain ⟨y1, hy1⟩ : ∃ x, x = box.getD t1.toNat 0 := ⟨_, rfl⟩
          obtain ⟨y2, hy2⟩ : ∃ x, x = box.getD t2.toNat 0 := ⟨_, rfl⟩
          obtain ⟨y3, hy3⟩ : ∃ x, x = box.getD t3.toNat 0 := ⟨_, rfl⟩
          rw [← hy0, ← hy1, ← hy2, ← hy3] at HTK
          rw [← hy0] at hb0
          rw [← hy1] at hb1
          rw [← hy2] at hb2
          rw [← hy3] at hb3
          clear hbc hbc' ht0 ht1 ht2 ht3 hy0 hy1 hy2 hy3
          go_wp2_with fail
          go_still_tail 26, (by kernel_rfl)
          change wpList _ _ _ _ _ wr.drew
          go_wp2_with fail
          refine (padlockref03_Mul.calls 10 con 2 (twiceF con) _ (mul_two con ⟨hc0, hc1'⟩ 0)).mono ?_
          rintro e wx ⟨rfl, hd⟩
          have hBx0 : Below wr.heap.size wr (wr.drew.alloc (.cells (nums .u8 [Go.bits .xor .u8 y1 con, y2, y3, y0]).toArray 5)) := below_alloc (below_drew (Below.refl _ _)) _
          have hBd := hd.below
          have hBx : Below wr.heap.size wr wx := below_next hBx0 hBd
          have hC8 := Kd.C_below (lit_reads .u8 [Go.bits .xor .u8 y1 con, y2, y3, y0] rfl rfl (by simp) wr.drew 5) hBd
          obtain ⟨b8, o8, e8, hc8⟩ := C_cells hC8 (by simp)
          injection e8 with e8
          injection e8 with e8 e8'
          rw [← e8, ← e8', ← HTK.out] at hc8
          have HT8 : Hid (∀ j, j < 4 → wx.cell? ⟨wr.heap.size, 0 + j, none⟩ = some (.int .u8 ((kT box KS i (conN ((i - 1) / 4))).getD j 0))) := Lib.hid (fun j hj => hc8 j (by rw [kT_length]; exact hj))
          have HBx := Lib.hid hBx
          have hcb := twice_b con
          have HCN : Hid (twiceF con = conN ((i + 1 - 1) / 4)) := Lib.hid (by
            rw [hcon.out, show (i + 1 - 1) / 4 = (i - 1) / 4 + 1 from by have := HM.out; omega]
            show _ = conN _
            rw [conN])
          clear hd hBx0 hBd hBx hC8 hc8 hct0 hct1 hct2 hct3 hb0 hb1 hb2 hb3 e8 e8' hcon
          generalize hcc : twiceF con = con' at *
          clear hcc
          go_wp2_with fail
          generalize hb8 : wr.heap.size = b8 at HT8 ⊢
          obtain ⟨o8, ho8⟩ : ∃ o : Nat, o = 0 := ⟨_, rfl⟩
          rw [← ho8] at HT8
          rw [show (Value.slice (some { block := b8, off := 0 }) 4 4) = Value.slice (some ⟨b8, o8, none⟩) 4 4 from by rw [ho8]]
          clear ho8
          clear hb8
        rotate_left
        focus
          have hem : ((i : Int) % 4 == 0) = false := by simp; omega
          have HM := Lib.hid hm
          clear hm
          have HT8 : Hid (∀ j, j < 4 → wr.cell? ⟨bt, ot + j, none⟩ = some (.int .u8 ((kT box KS i (conN ((i - 1) / 4))).getD j 0))) := Lib.hid (by
            obtain ⟨b8, o8, e8, hc8⟩ := C_cells HC1.out (by omega)
            injection e8 with e8
            injection e8 with e8 e8'
            rw [← e8, ← e8'] at hc8
            unfold kT
            rw [if_neg HM.out, show 4 * i - 4 = 4 * (i - 1) from by omega]
            exact hc8)
          obtain ⟨wx, hwx⟩ : ∃ wx : World, wx = wr := ⟨_, rfl⟩
          have HBx : Hid (Below wr.heap.size wr wx) := Lib.hid (by rw [hwx]; exact Below.refl _ _)
          rw [← hwx] at HT8
          have HWX := Lib.hid hwx
          clear hwx
          have hcb : Byte con := ⟨hc0, hc1'⟩
          have HCN : Hid (con = conN ((i + 1 - 1) / 4)) := Lib.hid (by rw [hcon.out, show (i + 1 - 1) / 4 = (i - 1) / 4 from by have := HM.out; omega])
          clear hct0 hct1 hct2 hct3
          go_wp2_with fail
          rw [← HWX.out]
          generalize hgb : bt = b8 at *
          generalize hgo : ot = o8 at *
          clear hgb hgo hcon hc0 hc1'
          generalize con = con' at *
        all_goals
          obtain ⟨wo, hwo⟩ : ∃ wo : World, wo = wr := ⟨_, rfl⟩
          subst hwo
          have hX0 : Hid (Kd.R (Kd.int .u8) 5 wx wx.heap.size (fun _ => True) (.slice none 0 0) (Xl KS i 0)) := Lib.hid (by unfold Xl; exact Kd.R_nil _ _ _ _ _)
          have HX4x : Hid (∀ W, Below wx.heap.size wx W → W.cell? ⟨g, i - 4, none⟩ = some (.slice (some ⟨b4, o4, none⟩) 4 c4)) := Lib.hid (fun W hW => by
            have h := below_next HBx.out hW
            exact (h.cell (p := ⟨g, i - 4, none⟩) (World.block_lt_of_cell? wo _ HX4.out)).trans HX4.out)
          have HC4x : Hid (∀ W, Below wx.heap.size wx W → ∀ j, j < 4 → W.cell? ⟨b4, o4 + j, none⟩ = some (.int .u8 (KS.getD (4 * (i - 4) + j) 0))) := Lib.hid (fun W hW j hj => by
            have h := below_next HBx.out hW
            have h2 := HC4.out j hj
            rw [(h.cell (p := ⟨b4, o4 + j, none⟩) (World.block_lt_of_cell? wo _ h2)).trans h2, HFG.out _ _ hj])
          obtain ⟨hcb0, hcb1⟩ := hcb
          clear hx1 HX1 HC1
          go_loopw [9, 10] (fun v iv wq => ∃ (k : Nat) (A9 : Option Addr) (c9 : Nat), v = .slice A9 k c9 ∧ iv = .int .i64 k ∧ k ≤ 4 ∧ Hid (Kd.R (Kd.int .u8) 5 wq wx.heap.size (fun _ => True) (.slice A9 k c9) (Xl KS i k)) ∧ Hid (Below wx.heap.size wx wq)) (fun _ iv _ => 4 - (intOf iv).toNat)
          case atStart => exact ⟨0, none, 0, rfl, rfl, by omega, hX0, Lib.hid (Below.refl _ _)⟩
          case round =>
            clear hX0
            obtain ⟨k, A9, c9, rfl, rfl, hk, hX, hBq⟩ := hrel
            obtain ⟨wq, hwq⟩ : ∃ wq : World, wq = wr := ⟨_, rfl⟩
            subst hwq
            by_cases hk4 : k < 4
            · have h8 := HT8.out k hk4
              have hx4' := HX4x.out wq hBq.out
              have hc4k' := HC4x.out wq hBq.out k hk4
              have hc8k' := (hBq.out.cell (World.block_lt_of_cell? wx _ h8)).trans h8
              have hv := HW.out i k (by omega) h44 hk4
              obtain ⟨y, hy⟩ : ∃ y, y = KS.getD (4 * (i - 4) + k) 0 := ⟨_, rfl⟩
              obtain ⟨z, hz⟩ : ∃ z, z = (kT box KS i (conN ((i - 1) / 4))).getD k 0 := ⟨_, rfl⟩
              rw [← hy] at hc4k' hv
              rw [← hz] at hc8k' hv h8
              have HV := Lib.hid hv
              have HY := Lib.hid hy
              have H8 := Lib.hid h8
              have hj1 : (0 : Int) ≤ (i : Int) - 4 := by omega
              have hj2 : ((i : Int) - 4).toNat = i - 4 := by omega
              have hj3 : (i : Int) - 4 < (i : Int) := by omega
              have hk0 : (0 : Int) ≤ (k : Int) := by omega
              have hj4 : IntKind.i64.wrap ((i : Int) - 4) = (i : Int) - 4 := IntWalk.i64_in _ (by omega)
              clear h8 hy hz hv
              go_wp2_with fail
              go_region_held3 (fun w' => w'.cell? ⟨g, i - 4, none⟩ = some (.slice (some ⟨b4, o4, none⟩) 4 c4) ∧ w'.cell? ⟨b4, o4 + k, none⟩ = some (.int .u8 y) ∧ w'.cell? ⟨b8, o8 + k, none⟩ = some (.int .u8 z))
                (first | go_keep | exact hkeep)
                ((go_loud (refine Kd.R_append_rows_step (Kd.int .u8) (w0 := wx) wx.heap.size (by rfl) (.tmp 68) (.tmp 82) 22 5 (.int .u8 0) 1 (by rfl) Try.underlying22 info_u8 rfl (by decide) (by omega) (.slice A9 k c9) (Xl KS i k) [Go.bits .xor .u8 y z] _ 1 1 (fun _ => True) (fun _ => False) (by rfl) (by rfl) (by exact Kd.R_drew (Kd.R_alloc hX.out _)) (by exact Kd.C_drew (lit_reads .u8 [Go.bits .xor .u8 y z] rfl rfl (by simp) wq _)) (fun _ _ h => h) (fun _ h => h.elim) (fun _ _ => trivial) (by exact below_drew (below_alloc hBq.out _)) (by have := hBq.out.size; simp; omega) (by rw [Xl_length]; omega) ?_; intro v9 w9 ho9 hb9 hg9 hat9; have hkeep := And.intro (HX4x.out w9 hb9) (And.intro ((HC4x.out w9 hb9 k hk4).trans (by rw [← HY.out])) ((hb9.cell (World.block_lt_of_cell? wx _ H8.out)).trans H8.out)); have HO9 := Lib.hid ho9; have HB9 := Lib.hid hb9; clear ho9 hb9 hg9 hat9)))
              clear hx4' hc4k' hc8k' hj4
              obtain ⟨A10, c10, e10⟩ := Kd.R_slice HO9.out
              rw [List.length_append, Xl_length] at e10
              subst e10
              try (go_wp2_with fail)
              go_roundw
              case rel => exact ⟨k + 1, A10, c10, rfl, by go_num, by omega, Lib.hid (by rw [Xl_succ, HV.out]; exact HO9.out), HB9⟩
              case measure => simp [intOf]; omega
            · have hk' : k = 4 := by omega
              subst hk'
              have hRq := Lib.hid (Kd.R_below hR.out (below_next HBx.out hBq.out))
              have hBw := Lib.hid (below_next hB.out (below_next HBx.out hBq.out))
              have hgw : g < wo.heap.size := World.block_lt_of_cell? wo _ HX4.out
              have hsx := HBx.out.size
              have hP : Seen [5, Tk] .u8 wq 0 (fun k => some k ≠ (Value.slice (some ⟨g, 0, none⟩) i c).ownBlock) (four KS (4 * i)) [.slice A9 4 c9] := by
                obtain ⟨inner, ho⟩ := Kd.R_own hX.out
                obtain ⟨_, hc9, hC9⟩ := Kd.R_reads' hX.out
                rw [Xl_length] at ho
                rcases ho.2 with ⟨hv, h0⟩ | ⟨gx, cap, cur, hv, hb, hh, _⟩
                · omega
                · injection hv with h1 h2 h3
                  subst h1
                  have hs := (Array.getElem?_eq_some_iff.1 hh).1
                  refine ⟨⟨gx, 0, none⟩, c9, by rw [HFL.out], by rw [HFL.out]; exact hc9, ?_, ?_, Nat.zero_le _, hs, 5, by simp, cur, hh⟩
                  · rw [← Xl_four]
                    exact hC9
                  · intro e
                    simp only [Value.ownBlock] at e
                    injection e with e
                    omega
              have HP := Lib.hid hP
              have HB0q : Hid (Below 0 w wq) := Lib.hid (hBw.out.mono (Nat.zero_le _))
              clear hP
              go_wp2_with (first
                | ((with_reducible refine gate_builtin (b := .append) (xs := #[.tmp 84, .tmp 86]) rfl ?_); at_builtin; refine Kd.R_append (viewKd [5, Tk] .u8) (w0 := w) 0 rfl (.tmp 84) (.tmp 86) 33 22 (.slice none 0 0) 24 rfl Try.underlying33 info_sl rfl Nat.one_pos (by omega) (.slice (some ⟨g, 0, none⟩) i c) (Wl KS i) (four KS (4 * i)) [.slice A9 4 c9] (fun _ => True) (fun k => some k ≠ (Value.slice (some ⟨g, 0, none⟩) i c).ownBlock) rfl rfl HP.out (fun _ h => ⟨trivial, h⟩) (fun _ _ => trivial) hRq.out HB0q.out (Nat.zero_le _) (by rw [Wl_length]; omega) ?_; intro v7 w7 ho7 hb7 hg7 hat7; have HO7 := Lib.hid ho7; have HG7 := Lib.hid hg7; have HAT := Lib.hid hat7; clear ho7 hb7 hg7 hat7)
                | fail)
              obtain ⟨A7, c7, e7⟩ := Kd.R_slice HO7.out
              rw [List.length_append, Wl_length] at e7
              subst e7
              have HB7 : Hid (Below w.heap.size w w7) := Lib.hid (pw_below_grown hBw.out _ hBw.out.size HG7.out (fun k hk => hO.out k hk))
              have HO2 : Hid (∀ k, (Value.slice A7 (i + 1) c7).ownBlock = some k → w.heap.size ≤ k) := Lib.hid (fun k hk => by
                rcases HAT.out with h | ⟨b, h, hb⟩
                · exact hO.out k (h.symm.trans hk)
                · have e := h.symm.trans hk
                  injection e with e
                  have := hBw.out.size
                  omega)
              go_wp2_with fail
              go_roundw
              case rel => exact ⟨i + 1, A7, c7, con', rfl, rfl, by go_num, by omega, hcb0, hcb1, HCN, Lib.hid (by rw [Wl_succ]; exact HO7.out), HB7, HO2⟩
              case measure => simp [intOf]; omega
      · have hi' : i = 44 := by omega
        subst hi'
        have hC := Lib.hid (Kd.R_reads' hR.out).2.2
        have hcc : 44 ≤ c := (Kd.R_reads' hR.out).2.1
        go_wp2
        go_ret
        have hl := Wl_length KS 44
        refine ⟨A, c, by rw [hl]; rfl, by rw [hl]; exact hcc, ?_, hB.out⟩
        have h := hC.out
        exact view_C 5 h
end Go.Proofs.Ytljmjeaocojnmaa.HAa
