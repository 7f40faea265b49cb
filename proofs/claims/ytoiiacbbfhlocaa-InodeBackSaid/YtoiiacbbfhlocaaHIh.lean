/- Layer 13: the walk of InodeBack. -/
import Derived.Test.YtoiiacbbfhlocaaHIg
set_option linter.unusedVariables false
set_option linter.unusedSimpArgs false
namespace Go.Proofs.Ytoiiacbbfhlocaa.HIa
open Go.RowKit Go.Proofs.YtoiiacbbfhlocaaW.PrintWords Go.Proofs.YtoiiacbbfhlocaaW.PrintLast Go.Proofs.YtoiiacbbfhlocaaW.PrintMore Go.Proofs.Ytoiiacbbfhlocaa.Kit Go.Proofs.Ytoiiacbbfhlocaa.Rc Go.Proofs.Ytoiiacbbfhlocaa.Iw Go.Proofs.Ytoiiacbbfhlocaa.HKa
attribute [local go_sem ↓] Go.wp_at_zero Go.wp_at_succ
attribute [local irreducible] putF getF mayF rbytes strOfNums inode_Need.f padlockref13_Need.f
set_option maxRecDepth 100000 in
set_option maxHeartbeats 1000000 in
theorem iback_big (K B a b c d e : Int) (A1 : Option Addr) (n c1 : Nat) (x y : Int) (w : World) (h1 : 100 < n) : Calls Try.prog 7 #[ino K B a b c d e, .slice A1 n c1, .int .u16 x, .int .u16 y] w (Tells true w) := by
  have h1 : (100 : Int) < (n : Int) := by omega
  go_enter Try.func7, Try.ntmps7
  go_wp2_with fail
  refine (knows13_any _).mono ?_
  rintro en w3 ⟨rfl, hB⟩
  have HB := Lib.hid (below_next (below_alloc (Below.refl _ _) _) hB)
  clear hB
  go_wp2_with fail
  go_ret
  exact ⟨rfl, HB.out⟩
/-- what stands behind the first half: the world, the box, the input's bytes -/
theorem needs_two (x y : Int) (hx : 0 ≤ x ∧ x < 65536) (hy : 0 ≤ y ∧ y < 65536) : ∃ p q, inode_Need.f x = some p ∧ inode_Need.f (x + y) = some q ∧ p ≤ q :=
  ⟨_, _, need_any x (by omega) (by omega), need_any (x + y) (by omega) (by omega), need_mono x (x + y) (by omega)⟩
set_option maxRecDepth 100000 in
set_option maxHeartbeats 8000000 in
theorem iback_few (K B a b c d e : Int) (A1 : Option Addr) (n c1 : Nat) (raw : List Int) (x y : Int) (w : World) (hn : n ≤ 100) (hx : 0 ≤ x ∧ x < 65536) (hy : 0 ≤ y ∧ y < 65536) (hr : Kd.C (Kd.int .u8) w A1 n raw) (hc : n ≤ c1) (hrb : Bytes raw) : Calls Try.prog 7 #[ino K B a b c d e, .slice A1 n c1, .int .u16 x, .int .u16 y] w (Tells true w) := by
  obtain ⟨p1, p2, hp1, hp2, hp12⟩ := needs_two x y hx hy
  have HN1 := Lib.hid hp1
  have HN2 := Lib.hid hp2
  have hrl : raw.length = n := hr.1
  obtain ⟨z0, z1, z2, z3, z4, z5, z6, hz, hz2⟩ := getI_two raw hrb
  obtain ⟨er, her⟩ : ∃ x, x = (getI raw).2 := ⟨_, rfl⟩
  rw [← her] at hz2
  have HZ2 := Lib.hid hz2
  have HGT : Hid (getI raw = ([z0, z1, z2, z3, z4, z5, z6], er)) := Lib.hid (by rw [her, ← hz])
  have HIG : Hid (∀ W, Kd.C (Kd.int .u8) W A1 n raw → Calls Try.prog 33 #[.slice A1 n c1] W (GetIOut ([z0, z1, z2, z3, z4, z5, z6], er) W)) := Lib.hid (fun W h => by
    have h := iget_any A1 c1 raw W (by rw [hrl]; exact h) (by omega) hrb
    rw [HGT.out, hrl] at h
    exact h)
  have HR := Lib.hid hr
  have HEQ := Lib.hid (show ∀ w, (Op.equalIn 10000 52 (.agg (nums .i64 [K, B, a, b, c, d, e]).toArray) (.agg (nums .i64 [K, B, a, b, c, d, e]).toArray)).run Try.prog w = .ok true w from fun w => (eq_ino K B a b c d e K B a b c d e w).trans (by simp))
  clear hp1 hp2 hr hc hrb hrl hz her hz2
  have hn' : (n : Int) ≤ 100 := by omega
  have hwx := iwrap_id x hx.1 (by omega)
  have hwy := iwrap_id y hy.1 (by omega)
  have hwxy := IntWalk.i64_in (x + y) (by omega)
  obtain ⟨RB, hRB⟩ : ∃ l, l = rbytes K B a b c d e := ⟨_, rfl⟩
  have HRL : Hid (RB.length = 8) := Lib.hid (by rw [hRB]; exact rbytes_len _ _ _ _ _ _ _)
  have HOK : Hid (mayF K B a b c d e = true → putI K B a b c d e = (RB, 0)) := Lib.hid (fun h => by rw [hRB]; exact putI_ok h)
  have HGP : Hid (mayF K B a b c d e = true → ∀ (W : World) (A : Option Addr) (cc : Nat), Kd.C (Kd.int .u8) W A 8 RB → 8 ≤ cc → Calls Try.prog 33 #[.slice A 8 cc] W (GetIOut ([K, B, a, b, c, d, e], 0) W)) := Lib.hid (fun h W A cc hC hc => by
    have h2 := iget_any A cc RB W (by rw [HRL.out]; exact hC) (by rw [HRL.out]; exact hc) (by rw [hRB]; exact rbytes_b _ _ _ _ _ _ _)
    rw [HRL.out] at h2
    rw [hRB, getI_put h] at h2
    exact h2)
  clear hRB
  go_enter Try.func7, Try.ntmps7
  go_wp2_with fail
  have HA0 := Lib.hid (Arr.new w .i64 52 [K, B, a, b, c, d, e])
  have HB0 := Lib.hid (below_alloc (Below.refl w.heap.size w) (.cells #[.int .i64 K, .int .i64 B, .int .i64 a, .int .i64 b, .int .i64 c, .int .i64 d, .int .i64 e] 52))
  cases hmv : mayF K B a b c d e
  · have HMV := Lib.hid hmv
    have HPK := putI_no hmv
    clear hmv HOK
    have hp := iput_any K B a b c d e (w.alloc (.cells #[.int .i64 K, .int .i64 B, .int .i64 a, .int .i64 b, .int .i64 c, .int .i64 d, .int .i64 e] 52))
    rw [HPK] at hp
    refine hp.mono ?_
    rintro en w4 ⟨v4, rfl, hR4, hB4⟩
    obtain ⟨A4, c4, rfl, hl4, hC4⟩ := Kd.R_reads hR4
    simp only [List.length_nil]
    have HA4 := Lib.hid (HA0.out.next hB4)
    have HB4 := Lib.hid (below_next HB0.out hB4)
    clear hp HPK hR4 hC4 hl4 hB4 HA0 HB0
    generalize hg0 : w.heap.size = g at HA4 ⊢
    go_wp2_with fail
    have HB9 := Lib.hid HB4.out
    generalize w4 = w9 at HB9 ⊢
    have HR9 := Lib.hid (Kd.C_below HR.out HB9.out)
    refine (HIG.out w9 HR9.out).mono ?_
    rintro en w10 ⟨rfl, hB10⟩
    have HB10 := Lib.hid (below_next HB9.out hB10)
    have HR10 := Lib.hid (Kd.C_below HR9.out hB10)
    clear hB10 HB9 HR9
    by_cases her0 : er = 0
    · have hZ := HZ2.out
      have hm2 : mayF z0 z1 z2 z3 z4 z5 z6 = true ∧ rbytes z0 z1 z2 z3 z4 z5 z6 = raw := by
        rcases hZ with h | h | h
        · exact h.2
        · omega
        · omega
      have HPZ := Lib.hid (putI_ok hm2.1)
      rw [hm2.2] at HPZ
      clear hZ hm2
      subst her0
      go_wp2_with (first | ((with_reducible refine gate_dst (N := 13) rfl ?_); refine alloc_arr rfl 52 rfl .i64 [0, 0, 0, 0, 0, 0, 0] (fun w => Try.zeroValue52 w) (by first | (go_simp; done) | (go_simp; rfl)) ?_; intro wA1 hAA hBA; have HAA1 := Lib.hid hAA; have HXA1 := Lib.hid hBA; clear hAA hBA) | ((with_reducible refine gate_store (t := 52) (p := 13) rfl ?_); refine store_arr rfl 52 _ _ rfl w10.heap.size .i64 [z0, z1, z2, z3, z4, z5, z6] rfl (by rfl) 52 _ HAA1.out rfl (by kernel_rfl) ?_; intro w11 hAS hwS; have hb := below_setRow HXA1.out w10.heap.size (Nat.le_refl _) (nums .i64 [z0, z1, z2, z3, z4, z5, z6]).toArray; rw [← hwS] at hb; have HAS1 := Lib.hid hAS; have HBS1 := Lib.hid hb; clear hAS hwS hb) | ((with_reducible refine gate_dst (N := 51) rfl ?_); refine load_row rfl 52 _ rfl w10.heap.size rfl .i64 52 _ [z0, z1, z2, z3, z4, z5, z6] HAS1.out Try.underlying52 rfl (by kernel_rfl) ?_) | fail)
      have hp := iput_any z0 z1 z2 z3 z4 z5 z6 w11
      rw [HPZ.out] at hp
      refine hp.mono ?_
      rintro en w19 ⟨v19, rfl, hR19, hB19⟩
      obtain ⟨A19, c19, rfl, hl19, hC19⟩ := Kd.R_reads hR19
      have HB20 := Lib.hid (below_next (below_next HB10.out HBS1.out) hB19)
      have hrl2 : raw.length = n := HR10.out.1
      rw [hrl2] at hC19 ⊢
      have hs1 := Kd.C_string (P := Try.prog) (dst := 9) (c := c19) Try.underlying29 Try.underlying5 Try.underlying9 (hC19)
      have hs2 := Kd.C_string (P := Try.prog) (dst := 9) (c := c1) Try.underlying29 Try.underlying5 Try.underlying9 (Kd.C_below HR10.out (below_next HBS1.out hB19))
      clear hp hR19 hl19 hC19 hB19
      go_wp2_with fail
      clear hs1 hs2
      refine (inode_Need.calls x p1 _ HN1.out).mono ?_
      rintro en w21 ⟨rfl, hB21⟩
      have HB21 := Lib.hid (below_next HB20.out hB21)
      clear hB21
      go_wp2_with fail
      refine (inode_Need.calls (x + y) p2 _ HN2.out).mono ?_
      rintro en w22 ⟨rfl, hB22⟩
      have HB22 := Lib.hid (below_next HB21.out hB22)
      clear hB22
      go_wp2_with fail
      refine (knows13_any _).mono ?_
      rintro en w23 ⟨rfl, hB23⟩
      have HB23 := Lib.hid (below_next HB22.out hB23)
      clear hB23
      go_wp2_with fail
      go_ret
      exact ⟨rfl, HB23.out⟩
    · have her1 : (er == 0) = false := by simpa using her0
      clear her0
      go_wp2_with (first | ((with_reducible refine gate_dst (N := 13) rfl ?_); refine alloc_arr rfl 52 rfl .i64 [0, 0, 0, 0, 0, 0, 0] (fun w => Try.zeroValue52 w) (by first | (go_simp; done) | (go_simp; rfl)) ?_; intro wA1 hAA hBA; have HAA1 := Lib.hid hAA; have HXA1 := Lib.hid hBA; clear hAA hBA) | ((with_reducible refine gate_store (t := 52) (p := 13) rfl ?_); refine store_arr rfl 52 _ _ rfl w10.heap.size .i64 [z0, z1, z2, z3, z4, z5, z6] rfl (by rfl) 52 _ HAA1.out rfl (by kernel_rfl) ?_; intro w11 hAS hwS; have hb := below_setRow HXA1.out w10.heap.size (Nat.le_refl _) (nums .i64 [z0, z1, z2, z3, z4, z5, z6]).toArray; rw [← hwS] at hb; have HAS1 := Lib.hid hAS; have HBS1 := Lib.hid hb; clear hAS hwS hb) | fail)
      have HB20 := Lib.hid (below_next HB10.out HBS1.out)
      refine (inode_Need.calls x p1 _ HN1.out).mono ?_
      rintro en w21 ⟨rfl, hB21⟩
      have HB21 := Lib.hid (below_next HB20.out hB21)
      clear hB21
      go_wp2_with fail
      refine (inode_Need.calls (x + y) p2 _ HN2.out).mono ?_
      rintro en w22 ⟨rfl, hB22⟩
      have HB22 := Lib.hid (below_next HB21.out hB22)
      clear hB22
      go_wp2_with fail
      refine (knows13_any _).mono ?_
      rintro en w23 ⟨rfl, hB23⟩
      have HB23 := Lib.hid (below_next HB22.out hB23)
      clear hB23
      go_wp2_with fail
      go_ret
      exact ⟨rfl, HB23.out⟩
  · have HMV := Lib.hid hmv
    have HPK := HOK.out hmv
    have HGP := Lib.hid (HGP.out hmv)
    clear hmv HOK
    have hp := iput_any K B a b c d e (w.alloc (.cells #[.int .i64 K, .int .i64 B, .int .i64 a, .int .i64 b, .int .i64 c, .int .i64 d, .int .i64 e] 52))
    rw [HPK] at hp
    refine hp.mono ?_
    rintro en w4 ⟨v4, rfl, hR4, hB4⟩
    obtain ⟨A4, c4, rfl, hl4, hC4⟩ := Kd.R_reads hR4
    have HX4 := Lib.hid hC4
    have HL4 := Lib.hid hl4
    rw [HRL.out] at HX4 HL4 ⊢
    have HA4 := Lib.hid (HA0.out.next hB4)
    have HB4 := Lib.hid (below_next HB0.out hB4)
    clear hp HPK hR4 hC4 hl4 hB4 HA0 HB0
    generalize hg0 : w.heap.size = g at HA4 ⊢
    go_wp2_with fail
    refine (HGP.out w4 A4 c4 HX4.out HL4.out).mono ?_
    rintro en w6 ⟨rfl, hB6⟩
    have HA6 := Lib.hid (HA4.out.next hB6)
    have HB6 := Lib.hid (below_next HB4.out hB6)
    have hgl : g < w6.heap.size := HA6.out.lt
    clear hB6 HA4 HB4 HX4
    have heq := HEQ.out
    go_wp2_with (first | ((with_reducible refine gate_dst (N := 11) rfl ?_); refine alloc_arr rfl 52 rfl .i64 [0, 0, 0, 0, 0, 0, 0] (fun w => Try.zeroValue52 w) (by first | (go_simp; done) | (go_simp; rfl)) ?_; intro wA0 hAA hBA; have HAA0 := Lib.hid hAA; have HXA0 := Lib.hid hBA; clear hAA hBA) | ((with_reducible refine gate_store (t := 52) (p := 11) rfl ?_); refine store_arr rfl 52 _ _ rfl w6.heap.size .i64 [K, B, a, b, c, d, e] rfl (by rfl) 52 _ HAA0.out rfl (by kernel_rfl) ?_; intro w7 hAS hwS; have hb := below_setRow HXA0.out w6.heap.size (Nat.le_refl _) (nums .i64 [K, B, a, b, c, d, e]).toArray; rw [← hwS] at hb; have HAS0 := Lib.hid hAS; have HBS0 := Lib.hid hb; clear hAS hwS hb) | ((with_reducible refine gate_dst (N := 31) rfl ?_); refine load_row rfl 52 _ rfl w6.heap.size rfl .i64 52 _ [K, B, a, b, c, d, e] HAS0.out Try.underlying52 rfl (by kernel_rfl) ?_) | ((with_reducible refine gate_dst (N := 32) rfl ?_); refine load_row rfl 52 _ rfl g rfl .i64 52 _ [K, B, a, b, c, d, e] (HA6.out.next HBS0.out) Try.underlying52 rfl (by kernel_rfl) ?_) | fail)
    have HB9 := Lib.hid (below_next HB6.out HBS0.out)
    generalize w7 = w9 at HB9 ⊢
    have HR9 := Lib.hid (Kd.C_below HR.out HB9.out)
    clear heq
    refine (HIG.out w9 HR9.out).mono ?_
    rintro en w10 ⟨rfl, hB10⟩
    have HB10 := Lib.hid (below_next HB9.out hB10)
    have HR10 := Lib.hid (Kd.C_below HR9.out hB10)
    clear hB10 HB9 HR9
    by_cases her0 : er = 0
    · have hZ := HZ2.out
      have hm2 : mayF z0 z1 z2 z3 z4 z5 z6 = true ∧ rbytes z0 z1 z2 z3 z4 z5 z6 = raw := by
        rcases hZ with h | h | h
        · exact h.2
        · omega
        · omega
      have HPZ := Lib.hid (putI_ok hm2.1)
      rw [hm2.2] at HPZ
      clear hZ hm2
      subst her0
      go_wp2_with (first | ((with_reducible refine gate_dst (N := 13) rfl ?_); refine alloc_arr rfl 52 rfl .i64 [0, 0, 0, 0, 0, 0, 0] (fun w => Try.zeroValue52 w) (by first | (go_simp; done) | (go_simp; rfl)) ?_; intro wA1 hAA hBA; have HAA1 := Lib.hid hAA; have HXA1 := Lib.hid hBA; clear hAA hBA) | ((with_reducible refine gate_store (t := 52) (p := 13) rfl ?_); refine store_arr rfl 52 _ _ rfl w10.heap.size .i64 [z0, z1, z2, z3, z4, z5, z6] rfl (by rfl) 52 _ HAA1.out rfl (by kernel_rfl) ?_; intro w11 hAS hwS; have hb := below_setRow HXA1.out w10.heap.size (Nat.le_refl _) (nums .i64 [z0, z1, z2, z3, z4, z5, z6]).toArray; rw [← hwS] at hb; have HAS1 := Lib.hid hAS; have HBS1 := Lib.hid hb; clear hAS hwS hb) | ((with_reducible refine gate_dst (N := 51) rfl ?_); refine load_row rfl 52 _ rfl w10.heap.size rfl .i64 52 _ [z0, z1, z2, z3, z4, z5, z6] HAS1.out Try.underlying52 rfl (by kernel_rfl) ?_) | fail)
      have hp := iput_any z0 z1 z2 z3 z4 z5 z6 w11
      rw [HPZ.out] at hp
      refine hp.mono ?_
      rintro en w19 ⟨v19, rfl, hR19, hB19⟩
      obtain ⟨A19, c19, rfl, hl19, hC19⟩ := Kd.R_reads hR19
      have HB20 := Lib.hid (below_next (below_next HB10.out HBS1.out) hB19)
      have hrl2 : raw.length = n := HR10.out.1
      rw [hrl2] at hC19 ⊢
      have hs1 := Kd.C_string (P := Try.prog) (dst := 9) (c := c19) Try.underlying29 Try.underlying5 Try.underlying9 (hC19)
      have hs2 := Kd.C_string (P := Try.prog) (dst := 9) (c := c1) Try.underlying29 Try.underlying5 Try.underlying9 (Kd.C_below HR10.out (below_next HBS1.out hB19))
      clear hp hR19 hl19 hC19 hB19
      go_wp2_with fail
      clear hs1 hs2
      refine (inode_Need.calls x p1 _ HN1.out).mono ?_
      rintro en w21 ⟨rfl, hB21⟩
      have HB21 := Lib.hid (below_next HB20.out hB21)
      clear hB21
      go_wp2_with fail
      refine (inode_Need.calls (x + y) p2 _ HN2.out).mono ?_
      rintro en w22 ⟨rfl, hB22⟩
      have HB22 := Lib.hid (below_next HB21.out hB22)
      clear hB22
      go_wp2_with fail
      refine (knows13_any _).mono ?_
      rintro en w23 ⟨rfl, hB23⟩
      have HB23 := Lib.hid (below_next HB22.out hB23)
      clear hB23
      go_wp2_with fail
      go_ret
      exact ⟨rfl, HB23.out⟩
    · have her1 : (er == 0) = false := by simpa using her0
      clear her0
      go_wp2_with (first | ((with_reducible refine gate_dst (N := 13) rfl ?_); refine alloc_arr rfl 52 rfl .i64 [0, 0, 0, 0, 0, 0, 0] (fun w => Try.zeroValue52 w) (by first | (go_simp; done) | (go_simp; rfl)) ?_; intro wA1 hAA hBA; have HAA1 := Lib.hid hAA; have HXA1 := Lib.hid hBA; clear hAA hBA) | ((with_reducible refine gate_store (t := 52) (p := 13) rfl ?_); refine store_arr rfl 52 _ _ rfl w10.heap.size .i64 [z0, z1, z2, z3, z4, z5, z6] rfl (by rfl) 52 _ HAA1.out rfl (by kernel_rfl) ?_; intro w11 hAS hwS; have hb := below_setRow HXA1.out w10.heap.size (Nat.le_refl _) (nums .i64 [z0, z1, z2, z3, z4, z5, z6]).toArray; rw [← hwS] at hb; have HAS1 := Lib.hid hAS; have HBS1 := Lib.hid hb; clear hAS hwS hb) | fail)
      have HB20 := Lib.hid (below_next HB10.out HBS1.out)
      refine (inode_Need.calls x p1 _ HN1.out).mono ?_
      rintro en w21 ⟨rfl, hB21⟩
      have HB21 := Lib.hid (below_next HB20.out hB21)
      clear hB21
      go_wp2_with fail
      refine (inode_Need.calls (x + y) p2 _ HN2.out).mono ?_
      rintro en w22 ⟨rfl, hB22⟩
      have HB22 := Lib.hid (below_next HB21.out hB22)
      clear hB22
      go_wp2_with fail
      refine (knows13_any _).mono ?_
      rintro en w23 ⟨rfl, hB23⟩
      have HB23 := Lib.hid (below_next HB22.out hB23)
      clear hB23
      go_wp2_with fail
      go_ret
      exact ⟨rfl, HB23.out⟩
theorem inodeBack_walk (a0 : List Int) (a1 : Option Addr) (len1 cap1 : Nat) (z1 : List Int) (a2 a3 : Int) (w : World) (l0 : a0.length = 7) (b0 : ∀ z ∈ a0, (Lit.int .i64 z).wf = true)
    (w1 : (a1 = none ∧ len1 = 0 ∧ cap1 = 0 ∧ z1 = []) ∨ ∃ x, a1 = some x ∧ len1 ≤ cap1 ∧ cap1 ≤ maxLen ∧ z1.length = cap1 ∧ (∀ i, i < z1.length → w.cell? (x.add i) = some (.int .u8 (z1.getD i 0))) ∧ ∀ n ∈ z1, (Lit.int .u8 n).wf = true)
    (y1 : len1 * 1 ≤ 140737488351232) (w2 : (Lit.int .u16 a2).wf = true) (w3 : (Lit.int .u16 a3).wf = true) :
    Calls Try.prog 7 #[.agg (nums .i64 a0).toArray, .slice a1 len1 cap1, .int .u16 a2, .int .u16 a3] w fun e w' => e = .returned (.bool true) ∧ Below w.heap.size w w' := by
  obtain ⟨l, hlen, hr, hc, hb⟩ := Go.Proofs.Ytoiiacbbfhlocaa.Com.reads_of_row w1
  clear w1
  subst hlen
  match a0, l0 with
  | [K, B, a, b, c, d, e], _ =>
    by_cases hbig : 100 < l.length
    · exact iback_big K B a b c d e a1 l.length cap1 a2 a3 w hbig
    · exact iback_few K B a b c d e a1 l.length cap1 l a2 a3 w (by omega) (Com.rangeu16 w2) (Com.rangeu16 w3) hr hc hb
end Go.Proofs.Ytoiiacbbfhlocaa.HIa
