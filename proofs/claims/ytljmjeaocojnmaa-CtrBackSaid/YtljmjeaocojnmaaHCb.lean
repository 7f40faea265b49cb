/- Layer 4: ctr.Code, by hand. -/
import Derived.Test.YtljmjeaocojnmaaCom
import Derived.Test.YtljmjeaocojnmaaPTb
set_option linter.unusedVariables false
set_option linter.unusedSimpArgs false
namespace Go.Proofs.Ytljmjeaocojnmaa.HCa
open Go.RowKit Go.Proofs.YtljmjeaocojnmaaW.PrintWords Go.Proofs.YtljmjeaocojnmaaW.PrintLast Go.Proofs.YtljmjeaocojnmaaW.PrintMore Go.Proofs.Ytljmjeaocojnmaa.Kit Go.Proofs.Ytljmjeaocojnmaa.HAa
attribute [local go_sem ↓] Go.wp_at_zero Go.wp_at_succ
attribute [local irreducible] xN xV ksF encF
set_option maxHeartbeats 4000000 in
set_option maxRecDepth 100000 in
theorem code_any (key nonce : List Int) (A2 : Option Addr) (c2 : Nat) (l : List Int) (w : World) (hk : key.length = 16) (hkb : Bytes key) (hn : nonce.length = 12) (hnb : Bytes nonce) (hr : Kd.C (Kd.int .u8) w A2 l.length l) (hc : l.length ≤ c2) (hl : l.length ≤ 100000) :
    Calls Try.prog 22 #[.agg (nums .u8 key).toArray, .agg (nums .u8 nonce).toArray, .slice A2 l.length c2] w (Go.Proofs.Ytljmjeaocojnmaa.Com.OutB w (xN key nonce l l.length)) := by
  have HR := Lib.hid hr
  have HKL := Lib.hid hk
  have HNL := Lib.hid hn
  have HKB := Lib.hid hkb
  have HNB := Lib.hid hnb
  obtain ⟨n, hnl⟩ : ∃ n, n = l.length := ⟨_, rfl⟩
  have HN := Lib.hid hnl
  rw [← hnl] at hc hl HR ⊢
  clear hr hk hn hkb hnb hnl
  go_enter Try.func22, Try.ntmps22
  go_wp2_with (first
    | ((with_reducible refine gate_dst (N := 3) rfl ?_); refine arr_new rfl 39 .u8 key (by first | (go_simp; done) | (go_simp; rfl)) ?_; intro w1 hA1 hB1; have HA1 := Lib.hid hA1; have HB1 := Lib.hid hB1; clear hA1 hB1)
    | ((with_reducible refine gate_dst (N := 4) rfl ?_); refine arr_new rfl 40 .u8 nonce (by first | (go_simp; done) | (go_simp; rfl)) ?_; intro w2 hA2 hB2; have HA2 := Lib.hid hA2; have HA12 := Lib.hid (HA1.out.next hB2); have HB2 := Lib.hid (below_next HB1.out hB2); have HR2 := Lib.hid (Kd.C_below HR.out HB2.out); clear hA2 hB2)
    | ((with_reducible refine gate_dst (N := 13) rfl ?_); refine Kd.R_lit (Kd.int .u8) (w0 := w2) w2.heap.size 5 ?hg (N := 13) ?hd (xs := ([] : List Int)) (inner := []) (ok := fun _ => True) (okp := fun _ => True) ?hr ?hp (fun _ hk => hk) trivial (Below.refl _ _) (Nat.le_refl _) (by simp) ?_; (case hd => rfl); (case hg => rfl); (case hr => first | (go_simp; done) | (go_simp; rfl)); (case hp => exact (Reps.none _ _)); intro v3 w3 ho3 hb3 hg_ hnew_; clear hg_ hnew_; have HO3 := Aside0.mk ho3; have HB3 := Aside0.mk hb3; clear ho3 hb3)
    | ((with_reducible refine gate_builtin (b := .append) (xs := #[.tmp 13, .tmp 14]) rfl ?_); at_builtin; refine Kd.R_append_rows (Kd.int .u8) (w0 := w2) w2.heap.size rfl (.tmp 13) (.tmp 14) 22 5 (.int .u8 0) 1 rfl Try.underlying22 Go.Proofs.Ytljmjeaocojnmaa.Com.info5 rfl (by decide) (by omega) v3 [] l A2 n c2 (fun _ => True) (fun _ => False) rfl rfl HO3.out (by exact Kd.C_below HR2.out HB3.out) (fun _ _ h => h) (fun _ h => h.elim) (fun _ _ => trivial) HB3.out HB3.out.size (by simp; omega) ?_; intro v4 w4 ho4 hb4 hg4 hat4; rw [List.nil_append] at ho4; have HO4 := Lib.hid ho4; have HB4 := Lib.hid hb4; obtain ⟨A4, c4, hv4⟩ := Kd.R_slice ho4; rw [← HN.out] at hv4; subst hv4; have HA14 := Lib.hid (HA12.out.next hb4); have HA24 := Lib.hid (HA2.out.next hb4); clear ho4 hb4 hg4 hat4)
    | ((with_reducible refine gate_dst (N := 8) rfl ?_); refine alloc_arr rfl 39 rfl .u8 (List.replicate 16 0) (fun w => Try.zeroValue39 w) (by first | (go_simp; done) | (go_simp; rfl)) ?_; intro w5 hA5 hB5; have HA5 := Lib.hid hA5; have HA15 := Lib.hid (HA14.out.next hB5); have HA25 := Lib.hid (HA24.out.next hB5); have HO5 := Lib.hid (Kd.R_below HO4.out hB5); have HB45 := Lib.hid hB5; have HB5 := Lib.hid (below_next HB4.out hB5); clear hA5 hB5)
    | fail)
  have hown : n = 0 ∨ ∃ g, A4 = some ⟨g, 0, none⟩ ∧ w2.heap.size ≤ g ∧ g < w4.heap.size := by
    obtain ⟨inner, ho⟩ := Kd.R_own HO4.out
    rcases ho.2 with ⟨hv, _⟩ | ⟨g, cap, cur, hv, hbg, hh, _⟩
    · injection hv with h1 h2
      exact Or.inl h2
    · injection hv with h1 h2
      exact Or.inr ⟨g, h1, hbg, (Array.getElem?_eq_some_iff.1 hh).1⟩
  have hg1 : w.heap.size < w1.heap.size := HA1.out.lt
  have hg2 : w1.heap.size < w2.heap.size := HA2.out.lt
  have hg4 : w2.heap.size ≤ w4.heap.size := HB4.out.size
  have hcp := fun ty => copy_arr (P := Try.prog) w5.drew 22 22 ty 5 w4.heap.size 0 16 16 w1.heap.size 0 12 12 12 _ _ HA5.out.drew HA25.out.drew Try.underlying22 (by kernel_rfl) rfl (by simp) (by rw [HNL.out]; omega)
  have HBw : Hid (Below w.heap.size w w2) := HB2
  generalize hg8 : w4.heap.size = g8 at *
  have HG8 := Lib.hid hg8
  generalize hgn : w1.heap.size = gn at *
  generalize hgk : w.heap.size = gk at *
  obtain ⟨g2, hG2⟩ : ∃ g2, g2 = w2.heap.size := ⟨_, rfl⟩
  rw [← hG2] at hg2 hg4 HB5 HO5 HB3 HO3 HO4 HB4 hown
  have HOWN := Lib.hid hown
  have HG2 := Lib.hid hG2
  have HGK := Lib.hid hgk
  clear hG2 hgk hgn hg8 hown
  go_region
  go_wp2_with fail
  have hnt : nonce.take 12 = nonce := List.take_of_length_le (by rw [HNL.out]; omega)
  (try rw [List.drop_zero]); (try rw [hnt])
  have HA6 : Hid (Arr .u8 39 (w5.drew.setCells g8 0 (nums .u8 nonce)) g8 (nonce ++ [0, 0, 0, 0])) := Lib.hid (by
    have h := HA5.out.drew.cells nonce 0 (by rw [HNL.out]; simp)
    have e : (List.replicate 16 (0 : Int)).take 0 ++ nonce ++ (List.replicate 16 (0 : Int)).drop (0 + nonce.length) = nonce ++ [0, 0, 0, 0] := by rw [HNL.out]; rfl
    rwa [e] at h)
  have HK6 : Hid (Arr .u8 39 (w5.drew.setCells g8 0 (nums .u8 nonce)) gk key) := Lib.hid (Arr.sets_far (w := w5) (by omega) _ _ HA15.out.drew)
  have HB46 : Below w4.heap.size w4 (w5.drew.setCells g8 0 (nums .u8 nonce)) := by
    rw [HG8.out]
    exact below_sets (Nat.le_refl _) _ _ (below_drew (by have h := HB45.out; exact h))
  have HO6 := Lib.hid (Kd.R_below HO4.out HB46)
  have HB6 : Hid (Below gk w (w5.drew.setCells g8 0 (nums .u8 nonce))) := Lib.hid (below_sets (by omega) _ _ (below_drew ((HB2.out).trans (HB5.out.mono (by omega)))))
  generalize w5.drew.setCells g8 0 (nums .u8 nonce) = w6 at *
  clear hcp HA5 HA2 HA24 HA25 HA1 HB1 HA12 HB2 HA14 HA15 HBw HB4 HO4 HO3 HB3 HO5 HB5 HB46 HB45 hnt HR2
  go_loopw [9] (fun iv wr => ∃ (q : Nat) (t : List Int), iv = .int .i64 ((16 * q : Nat) : Int) ∧ 16 * q ≤ n + 16 ∧ t.length = 4 ∧ Hid (Kd.R (Kd.int .u8) 5 wr g2 (fun _ => True) (.slice A4 n c4) (xN key nonce l (16 * q))) ∧ Hid (Arr .u8 39 wr g8 (nonce ++ t)) ∧ Hid (Arr .u8 39 wr gk key) ∧ Hid (Below gk w wr)) (fun iv _ => n + 16 - (intOf iv).toNat)
  case atStart => exact ⟨0, [0, 0, 0, 0], rfl, by omega, rfl, Lib.hid (by rw [Nat.mul_zero, xN_zero]; exact HO6.out), HA6, HK6, HB6⟩
  case round =>
    clear HA6 HK6 HO6 HB6
    obtain ⟨q, t, rfl, hq, ht, hO, hA, hK, hB⟩ := hrel
    by_cases hqn : 16 * q < n
    · obtain ⟨wo, hwo⟩ : ∃ wo : World, wo = wr := ⟨_, rfl⟩
      subst hwo
      have hdv : ((16 * q : Nat) : Int) / 16 = (q : Int) := by omega
      obtain ⟨i0, hi0⟩ : ∃ i0, i0 = 16 * q := ⟨_, rfl⟩
      rw [← hi0] at hdv hqn hq hO ⊢
      have HI := Lib.hid hi0
      have hlen : (nonce ++ t).length = 16 := by rw [List.length_append, HNL.out, ht]
      have hc12 := hA.out.cellN 12 (by rw [hlen]; omega)
      have hc13 := hA.out.cellN 13 (by rw [hlen]; omega)
      have hc14 := hA.out.cellN 14 (by rw [hlen]; omega)
      have hc15 := hA.out.cellN 15 (by rw [hlen]; omega)
      have hf12 := hA.out.free 12
      have hf13 := hA.out.free 13
      have hf14 := hA.out.free 14
      have hf15 := hA.out.free 15
      have hq9 : q ≤ 6300 := by omega
      have hset : ((((nonce ++ t).set 12 ((q : Int) / 16777216)).set 13 ((q : Int) / 65536)).set 14 ((q : Int) / 256)).set 15 ((q : Int) % 256) = nonce ++ bg4 q := by
        have h12 := HNL.out
        match t, ht with
        | [t0, t1, t2, t3], _ =>
          have e0 : ∀ x : Int, (nonce ++ [t0, t1, t2, t3]).set 12 x = nonce ++ [x, t1, t2, t3] := fun x => set_tail nonce _ h12 0 x
          have e1 : ∀ a x : Int, (nonce ++ [a, t1, t2, t3]).set 13 x = nonce ++ [a, x, t2, t3] := fun a x => set_tail nonce _ h12 1 x
          have e2 : ∀ a b x : Int, (nonce ++ [a, b, t2, t3]).set 14 x = nonce ++ [a, b, x, t3] := fun a b x => set_tail nonce _ h12 2 x
          have e3 : ∀ a b c x : Int, (nonce ++ [a, b, c, t3]).set 15 x = nonce ++ [a, b, c, x] := fun a b c x => set_tail nonce _ h12 3 x
          rw [e0, e1, e2, e3]
          unfold bg4
          rw [show (q : Int) / 16777216 % 256 = (q : Int) / 16777216 from by omega, show (q : Int) / 65536 % 256 = (q : Int) / 65536 from by omega, show (q : Int) / 256 % 256 = (q : Int) / 256 from by omega]
      have hne : gk ≠ g8 := by omega
      have hty : ∀ z, z ∈ 5 :: (Kd.int .u8).E → z ≠ 39 := by decide
      have HA7 := Lib.hid ((((hA.out.put 12 ((q : Int) / 16777216)).put 13 ((q : Int) / 65536)).put 14 ((q : Int) / 256)).put 15 ((q : Int) % 256))
      rw [hset] at HA7
      have HK7 := Lib.hid ((((hK.out.far ⟨g8, 12, none⟩ hne (.int .u8 ((q : Int) / 16777216))).far ⟨g8, 13, none⟩ hne (.int .u8 ((q : Int) / 65536))).far ⟨g8, 14, none⟩ hne (.int .u8 ((q : Int) / 256))).far ⟨g8, 15, none⟩ hne (.int .u8 ((q : Int) % 256)))
      have HB7 := Lib.hid (below_setCell (below_setCell (below_setCell (below_setCell hB.out g8 12 (by omega) (.int .u8 ((q : Int) / 16777216))) g8 13 (by omega) (.int .u8 ((q : Int) / 65536))) g8 14 (by omega) (.int .u8 ((q : Int) / 256))) g8 15 (by omega) (.int .u8 ((q : Int) % 256)))
      have HO7 := Lib.hid (Kd.R_set (Kd.R_set (Kd.R_set (Kd.R_set hO.out hA.out.out hty 12 (.int .u8 ((q : Int) / 16777216))) (hA.out.put 12 ((q : Int) / 16777216)).out hty 13 (.int .u8 ((q : Int) / 65536))) ((hA.out.put 12 ((q : Int) / 16777216)).put 13 ((q : Int) / 65536)).out hty 14 (.int .u8 ((q : Int) / 256))) (((hA.out.put 12 ((q : Int) / 16777216)).put 13 ((q : Int) / 65536)).put 14 ((q : Int) / 256)).out hty 15 (.int .u8 ((q : Int) % 256)))
      have HBL : Hid ((nonce ++ bg4 q).length = 16) := Lib.hid (by rw [List.length_append, HNL.out]; rfl)
      have HBB : Hid (Bytes (nonce ++ bg4 q)) := Lib.hid (by
        intro y hy
        rcases List.mem_append.1 hy with h | h
        · exact HNB.out y h
        · simp only [bg4, List.mem_cons, List.not_mem_nil, or_false] at h
          omega)
      clear hi0 hlen ht hset hne hty
      go_wp2_with (first
        | ((with_reducible refine gate_dst (N := 43) rfl ?_); refine load_arr rfl 39 _ rfl gk rfl .u8 _ _ _ _ HK7.out Try.underlying39 (by rw [HKL.out]; kernel_rfl) ?_)
        | ((with_reducible refine gate_dst (N := 44) rfl ?_); refine load_arr rfl 39 _ rfl g8 rfl .u8 _ _ _ _ HA7.out Try.underlying39 (by rw [HBL.out]; kernel_rfl) ?_)
        | fail)
      refine (encrypt_any key (nonce ++ bg4 q) _ HKL.out HBL.out HKB.out HBB.out).mono ?_
      rintro e w8 ⟨rfl, hB8⟩
      obtain ⟨ks, hks⟩ : ∃ ks, ks = ksF key nonce q := ⟨_, rfl⟩
      have hks' : encF key (nonce ++ bg4 q) = ks := by rw [hks]; unfold ksF; rfl
      have HKSL : Hid (ks.length = 16) := Lib.hid (by rw [← hks']; unfold encF; rw [encN_length, HBL.out])
      rw [hks']
      have HKS := Lib.hid hks
      have HO8 := Lib.hid (Kd.R_below HO7.out hB8)
      have HA8 := Lib.hid (HA7.out.next hB8)
      have HK8 := Lib.hid (HK7.out.next hB8)
      have HB8 := Lib.hid (HB7.out.trans (hB8.mono (Nat.le_of_lt HK7.out.lt)))
      clear hks hks' hB8 HO7 HA7 HK7 HB7 hO hA hK hB
      go_wp2_with fail
      go_loopw [46] (fun jv wq => ∃ j : Nat, jv = .int .i64 j ∧ j ≤ 16 ∧ Hid (Kd.R (Kd.int .u8) 5 wq g2 (fun _ => True) (.slice A4 n c4) (xN key nonce l (i0 + j))) ∧ Hid (Arr .u8 39 wq g8 (nonce ++ bg4 q)) ∧ Hid (Arr .u8 39 wq gk key) ∧ Hid (Below gk w wq)) (fun jv _ => 16 - (intOf jv).toNat)
      case atStart => exact ⟨0, rfl, by omega, HO8, HA8, HK8, HB8⟩
      case round =>
        clear HO8 HA8 HK8 HB8
        obtain ⟨j, rfl, hj, hO, hA, hK, hB⟩ := hrel
        by_cases hj16 : j < 16
        · have hix := Go.Proofs.Ytljmjeaocojnmaa.Kit.index_nums (P := Try.prog) 39 5 16 .u8 ks j Try.underlying39 Try.underlying5 (by kernel_rfl) HKSL.out hj16
          by_cases hin : i0 + j < n
          · obtain ⟨g, hA4, hg2g, hgg8⟩ : ∃ g, A4 = some ⟨g, 0, none⟩ ∧ g2 ≤ g ∧ g < g8 := by
              rcases HOWN.out with h | h
              · omega
              · exact h
            subst hA4
            have hcs := (Kd.R_reads' hO.out).2.2
            rw [xN_length, ← HN.out] at hcs
            obtain ⟨b, off, e1, hcell⟩ := C_cells hcs (by omega)
            have hx := hcell (i0 + j) hin
            injection e1 with e1
            injection e1 with e1 e2
            subst e1 e2
            rw [Nat.zero_add, xN_at _ _ _ _ (by rw [← HN.out]; exact hin)] at hx
            obtain ⟨y, hy⟩ : ∃ y, y = l.getD (i0 + j) 0 := ⟨_, rfl⟩
            obtain ⟨z, hz⟩ : ∃ z, z = ks.getD j 0 := ⟨_, rfl⟩
            rw [← hy] at hx
            rw [← hz] at hix
            have HV : Hid (xV key nonce l (i0 + j) = Go.bits .xor .u8 y z) := Lib.hid (by
              unfold xV
              rw [show (i0 + j) / 16 = q from by rw [HI.out]; omega, show (i0 + j) % 16 = j from by rw [HI.out]; omega, ← HKS.out, ← hy, ← hz])
            have HXN := Lib.hid (xN_succ key nonce l (i0 + j) (by rw [← HN.out]; exact hin))
            have h1 : (0 : Int) ≤ (i0 : Int) + (j : Int) := by omega
            have h2 : (i0 : Int) + (j : Int) < (n : Int) := by omega
            have h3 : ((i0 : Int) + (j : Int)).toNat = i0 + j := by omega
            have h4 : wrap64 ((i0 : Int) + (j : Int)) = (i0 : Int) + (j : Int) := by unfold wrap64; omega
            have hfz := (Kd.R_celln (0 : Int) hO.out ((i0 + j : Nat) : Int) (Int.natCast_nonneg _) (Int.ofNat_lt.2 hin)).2
            rw [Int.toNat_natCast] at hfz
            clear hcs hcell hy hz
            go_wp2_with fail
            go_roundw
            case rel => exact ⟨j + 1, by go_num, by omega, Lib.hid (by rw [← Nat.add_assoc, HXN.out, HV.out]; exact Kd.R_putn hO.out ((i0 + j : Nat) : Int) _), Lib.hid (hA.out.far _ (by show g8 ≠ g; omega) _), Lib.hid (hK.out.far _ (by show gk ≠ g; omega) _), Lib.hid (below_setCell hB.out _ _ (by omega) _)⟩
            case measure => simp [intOf]; omega
          · have hp : xN key nonce l (i0 + (j + 1)) = xN key nonce l (i0 + j) := by
              rw [xN_past _ _ _ (i0 + (j + 1)) (by rw [← HN.out]; omega), ← xN_past _ _ _ (i0 + j) (by rw [← HN.out]; omega)]
            have HP := Lib.hid hp
            clear hp
            go_wp2_with fail
            go_roundw
            case rel => exact ⟨j + 1, by go_num, by omega, Lib.hid (by rw [HP.out]; exact hO.out), hA, hK, hB⟩
            case measure => simp [intOf]; omega
        · have hj' : j = 16 := by omega
          subst hj'
          go_wp2_with fail
          go_roundw
          case rel => exact ⟨q + 1, bg4 q, by first | go_num | (rw [HI.out]; go_num), by have := HI.out; omega, rfl, Lib.hid (by have h := hO.out; rw [HI.out] at h; exact h), hA, hK, hB⟩
          case measure => have := HI.out; simp [intOf]; omega
    · go_wp2_with fail
      go_ret
      exact ⟨_, rfl, Kd.R_lower (by have h := hO.out; rw [xN_past _ _ _ _ (by rw [← HN.out]; omega), ← HN.out] at h; exact h) (by rw [HGK.out]; omega), by have h := hB.out; rw [← HGK.out] at h; exact h⟩
end Go.Proofs.Ytljmjeaocojnmaa.HCa
