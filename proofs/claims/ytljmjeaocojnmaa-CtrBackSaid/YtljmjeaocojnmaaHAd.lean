/- Contracts of aes's functions, by hand: Encrypt. -/
import Derived.Test.YtljmjeaocojnmaaHAc
set_option linter.unusedVariables false
set_option linter.unusedSimpArgs false
namespace Go.Proofs.Ytljmjeaocojnmaa.HAa
open Go.RowKit Go.Proofs.YtljmjeaocojnmaaW.PrintWords Go.Proofs.YtljmjeaocojnmaaW.PrintLast Go.Proofs.YtljmjeaocojnmaaW.PrintMore Go.Proofs.Ytljmjeaocojnmaa.Kit
attribute [local go_sem ↓] Go.wp_at_zero Go.wp_at_succ
def subV (box old : List Int) (i : Nat) : Int := box.getD (old.getD ((i + i % 4 * 4) % 16) 0).toNat 0
def subN (box old : List Int) : Nat → List Int
  | 0 => old
  | i + 1 => (subN box old i).set i (subV box old i)
def mixAll (xs : List Int) : Nat → List Int
  | 0 => xs
  | j + 1 => mixN (mixAll xs j) (4 * j) 4
def roundF (all box xs : List Int) (r : Nat) : List Int := addN all r (if r < 10 then mixAll (subN box xs 16) 4 else subN box xs 16) 16
def encN (all box block : List Int) : Nat → List Int
  | 0 => addN all 0 block 16
  | n + 1 => roundF all box (encN all box block n) (n + 1)
def encF (key block : List Int) : List Int := encN (keyN key boxT 40) boxT block 10
theorem subN_length (box old : List Int) : ∀ n, (subN box old n).length = old.length
  | 0 => rfl
  | n + 1 => by simp [subN, subN_length box old n]
theorem subN_b (box old : List Int) (hb : Bytes box) (ho : Bytes old) : ∀ n, Bytes (subN box old n)
  | 0 => ho
  | n + 1 => bytes_set (subN_b box old hb ho n) _ _ (byte_at hb _)
theorem mixAll_length (xs : List Int) : ∀ n, (mixAll xs n).length = xs.length
  | 0 => rfl
  | n + 1 => by rw [mixAll, mixN_length, mixAll_length xs n]
theorem mixAll_b (xs : List Int) (h : Bytes xs) : ∀ n, Bytes (mixAll xs n)
  | 0 => h
  | n + 1 => mixN_b _ _ (mixAll_b xs h n) 4
theorem addN_b (all : List Int) (r : Nat) (xs : List Int) (ha : Bytes all) (h : Bytes xs) : ∀ n, Bytes (addN all r xs n)
  | 0 => by unfold addN; exact h
  | n + 1 => by
    have := addN_b all r xs ha h n
    unfold addN
    exact bytes_set this _ _ (bxor_b _ _ (byte_at this _) (byte_at ha _))
theorem roundF_length (all box xs : List Int) (r : Nat) : (roundF all box xs r).length = xs.length := by
  unfold roundF
  rw [addN_length]
  split
  · rw [mixAll_length, subN_length]
  · rw [subN_length]
theorem roundF_b (all box xs : List Int) (r : Nat) (ha : Bytes all) (hb : Bytes box) (h : Bytes xs) : Bytes (roundF all box xs r) := by
  unfold roundF
  apply addN_b _ _ _ ha
  split
  · exact mixAll_b _ (subN_b _ _ hb h _) _
  · exact subN_b _ _ hb h _
theorem encN_length (all box block : List Int) : ∀ n, (encN all box block n).length = block.length
  | 0 => by rw [encN, addN_length]
  | n + 1 => by rw [encN, roundF_length, encN_length all box block n]
theorem encN_b (all box block : List Int) (ha : Bytes all) (hb : Bytes box) (h : Bytes block) : ∀ n, Bytes (encN all box block n)
  | 0 => addN_b _ _ _ ha h _
  | n + 1 => roundF_b _ _ _ _ ha hb (encN_b all box block ha hb h n)
theorem boxT_b : Bytes boxT := by
  unfold Bytes
  decide +kernel
attribute [local irreducible] encN keyN boxT subN mixAll addN mixN
set_option maxHeartbeats 2000000 in
set_option maxRecDepth 100000 in
theorem encrypt_any (key block : List Int) (w : World) (h16 : key.length = 16) (hb16 : block.length = 16) (hkb : Bytes key) (hbb : Bytes block) :
    Calls Try.prog 64 #[.agg (nums .u8 key).toArray, .agg (nums .u8 block).toArray] w (GivesA .u8 (encF key block) w) := by
  have HL := Lib.hid h16
  have HLB := Lib.hid hb16
  have HKB := Lib.hid hkb
  have HBB := Lib.hid hbb
  have HXL : Hid (boxT.length = 256) := Lib.hid (by unfold boxT; rfl)
  obtain ⟨box, hbox⟩ : ∃ b, b = boxT := ⟨_, rfl⟩
  have HXE := Lib.hid hbox
  rw [← hbox] at HXL
  have HXB : Hid (Bytes box) := Lib.hid (by rw [hbox]; exact boxT_b)
  clear h16 hb16 hkb hbb hbox
  have hmf : ∀ (fn : Fn) (first cap : Array Value) (w : World), (Instr.makeFunc fn first cap).run Try.prog w = .ok (.func fn first cap) w := fun _ _ _ _ => rfl
  go_enter Try.func64, Try.ntmps64
  go_wp2_with (first
    | ((with_reducible refine gate_dst (N := 2) rfl ?_); refine arr_new rfl 39 .u8 key (by first | (go_simp; done) | (go_simp; rfl)) ?_; intro w1 hA1 hB1)
    | ((with_reducible refine gate_dst (N := 3) rfl ?_); refine arr_new rfl 39 .u8 block (by first | (go_simp; done) | (go_simp; rfl)) ?_; intro w2 hA2 hB2)
    | ((with_reducible refine gate_dst (N := 4) rfl ?_); refine alloc_arr rfl 39 rfl .u8 (List.replicate 16 0) (fun w => Try.zeroValue39 w) (by first | (go_simp; done) | (go_simp; rfl)) ?_; intro w3 hA3 hB3)
    | fail)
  refine (boxes_any _).mono ?_
  rintro e w4 ⟨rfl, hB4⟩
  rw [← HXE.out]
  have hg12 : w.heap.size < w1.heap.size := hA1.lt
  have hg23 : w1.heap.size < w2.heap.size := hA2.lt
  have hg34 : w2.heap.size < w3.heap.size := hA3.lt
  have hg35 : w3.heap.size ≤ w4.heap.size := hB4.size
  have HA1 := Lib.hid (((hA1.next hB2).next hB3).next hB4)
  have HA2 := Lib.hid ((hA2.next hB3).next hB4)
  have HA3 := Lib.hid (hA3.next hB4)
  have HB := Lib.hid (below_next (below_next (below_next hB1 hB2) hB3) hB4)
  clear hA1 hA2 hA3 hB1 hB2 hB3 hB4
  generalize hg4 : w2.heap.size = g4 at *
  generalize hg3 : w1.heap.size = g3 at *
  generalize hg2 : w.heap.size = g2 at *
  have HG2 := Lib.hid hg2
  clear hg2 hg3 hg4
  go_wp2_with (first
    | ((with_reducible refine gate_dst (N := 5) rfl ?_); refine alloc_arr rfl 138 rfl .u8 (List.replicate 256 0) (fun w => Try.zeroValue138 w) (by first | (go_simp; done) | (go_simp; rfl)) ?_; intro w5 hA5 hB5)
    | ((with_reducible refine gate_store (t := 138) (p := 5) rfl ?_); refine store_arr rfl 138 _ _ rfl w4.heap.size .u8 box rfl rfl 138 _ hA5 (by rw [HXL.out]; rfl) (by rw [HXL.out]; kernel_rfl) ?_; intro w6 hA6 hw6; have hB6 := below_setRow hB5 w4.heap.size (Nat.le_refl _) (nums .u8 box).toArray; rw [← hw6] at hB6; have HA16 := Lib.hid (HA1.out.next hB6); have HA26 := Lib.hid (HA2.out.next hB6); have HA36 := Lib.hid (HA3.out.next hB6); have HA5 := Lib.hid hA6; have HB6 := Lib.hid (HB.out.trans (hB6.mono (by omega))); have hs6 : w4.heap.size < w6.heap.size := hA6.lt; clear hw6 hA6 hA5 hB5 hB6)
    | ((with_reducible refine gate_dst (N := 13) rfl ?_); refine load_arr rfl 39 _ rfl g2 rfl .u8 _ _ _ _ HA16.out Try.underlying39 (by rw [HL.out]; kernel_rfl) ?_)
    | ((with_reducible refine gate_dst (N := 14) rfl ?_); refine load_arr rfl 138 _ rfl w4.heap.size rfl .u8 _ _ _ _ HA5.out Try.underlying138 (by rw [HXL.out]; kernel_rfl) ?_)
    | fail)
  refine (keys_any key box _ HL.out HXL.out HKB.out HXB.out).mono ?_
  rintro e w7 ⟨rfl, hB7⟩
  obtain ⟨ks, hks⟩ : ∃ k, k = keyN key box 40 := ⟨_, rfl⟩
  have HKL : Hid (ks.length = 176) := Lib.hid (by rw [hks]; exact keyN_length key box HL.out 40)
  have HKY : Hid (Bytes ks) := Lib.hid (by rw [hks]; exact keyN_b key box HKB.out HXB.out 40)
  rw [← hks]
  have HKE := Lib.hid hks
  have hs67 := hB7.size
  have HA7 := Lib.hid (HA26.out.next hB7)
  have HR7 := Lib.hid (HA36.out.next hB7)
  have HX7 := Lib.hid (HA5.out.next hB7)
  have HB7 := Lib.hid (HB6.out.trans (hB7.mono (by have := HB6.out.size; have := HG2.out; omega)))
  have hg45 : g4 < w4.heap.size := by omega
  clear hks HA1 HA2 HA3 HB HA16 HA26 HA36 HA5 HB6 hB7
  generalize w4.heap.size = g5 at *
  go_wp2_with (first
    | ((with_reducible refine gate_dst (N := 6) rfl ?_); refine alloc_arr rfl 140 rfl .u8 (List.replicate 176 0) (fun w => Try.zeroValue140 w) (by first | (go_simp; done) | (go_simp; rfl)) ?_; intro w8 hA8 hB8)
    | ((with_reducible refine gate_store (t := 140) (p := 6) rfl ?_); refine store_arr rfl 140 _ _ rfl w7.heap.size .u8 ks rfl rfl 140 _ hA8 (by rw [HKL.out]; rfl) (by rw [HKL.out]; kernel_rfl) ?_; intro w9 hA9 hw9; have hB9 := below_setRow hB8 w7.heap.size (Nat.le_refl _) (nums .u8 ks).toArray; rw [← hw9] at hB9; have HA9 := Lib.hid (HA7.out.next hB9); have HR9 := Lib.hid (HR7.out.next hB9); have HX9 := Lib.hid (HX7.out.next hB9); have HK9 := Lib.hid hA9; have HB9 := Lib.hid (HB7.out.trans (hB9.mono (by have := HB7.out.size; have := HG2.out; omega))); clear hw9 hA9 hA8 hB8 hB9)
    | fail)
  have hg56 : g5 < w7.heap.size := by omega
  generalize w7.heap.size = g6 at *
  clear HA7 HR7 HX7 HB7
  have hadd : Calls Try.prog 87 #[.int .i64 0, .pointer (some ⟨g3, 0, none⟩), .pointer (some ⟨g6, 0, none⟩)] w9 (Turns .u8 39 w9 g3 (addN ks 0 block 16)) := add_any g3 g6 0 block ks w9 HA9.out HK9.out HLB.out HKL.out (by omega)
  refine hadd.mono ?_
  rintro e w0 ⟨rfl, hAd, hGd⟩
  have HA0 : Hid (Arr .u8 39 w0 g3 (encN ks box block 0)) := Lib.hid (by unfold encN; exact hAd)
  have HR0 := Lib.hid (HR9.out.grown_ hGd (by omega))
  have HX0 := Lib.hid (HX9.out.grown_ hGd (by omega))
  have HK0 := Lib.hid (HK9.out.grown_ hGd (by omega))
  have HB0 := Lib.hid (below_grown HB9.out (by have := HB9.out.size; have := HG2.out; omega) (by omega) hGd)
  clear hadd hAd hGd HA9 HR9 HX9 HK9 HB9
  go_wp2_with fail
  go_loopw [8] (fun iv wr => ∃ (n r : Nat), iv = .int .i64 r ∧ r = n + 1 ∧ n ≤ 10 ∧ Hid (Arr .u8 39 wr g3 (encN ks box block n)) ∧ Hid (w0.grownBy wr (some g3))) (fun iv _ => 11 - (intOf iv).toNat)
  case atStart => exact ⟨0, 1, rfl, rfl, by omega, HA0, Lib.hid (grown_of_below (Below.refl _ _) _)⟩
  case round =>
    clear HA0
    obtain ⟨n, r, rfl, hr, hn, hA, hB⟩ := hrel
    have hlen := encN_length ks box block n
    rw [HLB.out] at hlen
    have hbN := encN_b ks box block HKY.out HXB.out HBB.out n
    by_cases hn10 : n < 10
    · have HR := Lib.hid hr
      have hr10 : r ≤ 10 := by omega
      have hr1 : 1 ≤ r := by omega
      clear hr
      have HES : Hid (encN ks box block (n + 1) = roundF ks box (encN ks box block n) r) := Lib.hid (by rw [encN, HR.out])
      obtain ⟨xs, hxs⟩ : ∃ x, x = encN ks box block n := ⟨_, rfl⟩
      rw [← hxs] at hA hlen hbN HES
      have HXSL := Lib.hid hlen
      have HXSB := Lib.hid hbN
      have hg3r : g3 < wr.heap.size := hA.out.lt
      have hs0r := hB.out.size
      have hg6 := HK0.out.lt
      clear hlen hbN hxs
      go_wp2_with (first
        | ((with_reducible refine gate_dst (N := 23) rfl ?_); refine load_arr rfl 39 _ rfl g3 rfl .u8 _ _ _ _ hA.out Try.underlying39 (by rw [HXSL.out]; kernel_rfl) ?_)
        | ((with_reducible refine gate_dst (N := 9) rfl ?_); refine alloc_arr rfl 39 rfl .u8 (List.replicate 16 0) (fun w => Try.zeroValue39 w) (by first | (go_simp; done) | (go_simp; rfl)) ?_; intro w10 hA10 hB10)
        | ((with_reducible refine gate_store (t := 39) (p := 9) rfl ?_); refine store_arr rfl 39 _ _ rfl wr.heap.size .u8 xs rfl rfl 39 _ hA10 (by rw [HXSL.out]; rfl) (by rw [HXSL.out]; kernel_rfl) ?_; intro w11 hA11 hw11; have hB11 := below_setRow hB10 wr.heap.size (Nat.le_refl _) (nums .u8 xs).toArray; rw [← hw11] at hB11; have HO := Lib.hid hA11; have HA11 := Lib.hid (hA.out.next hB11); have HG11 := Lib.hid (grown_below hB.out hB11); clear hw11 hA10 hB10 hA11 hB11)
        | fail)
      generalize wr.heap.size = g9 at *
      have HA110 : Hid (Arr .u8 39 w11 g3 (subN box xs 0)) := Lib.hid (by unfold subN; exact HA11.out)
      go_loopw [24] (fun iv wq => ∃ k : Nat, iv = .int .i64 k ∧ k ≤ 16 ∧ Hid (Arr .u8 39 wq g3 (subN box xs k)) ∧ Hid (w11.grownBy wq (some g3))) (fun iv _ => 16 - (intOf iv).toNat)
      case atStart => exact ⟨0, rfl, by omega, HA110, Lib.hid (grown_of_below (Below.refl _ _) _)⟩
      case round =>
        clear HA110
        obtain ⟨k, rfl, hk, hAk, hBk⟩ := hrel
        by_cases hk16 : k < 16
        · have hj : (k + k % 4 * 4) % 16 < 16 := Nat.mod_lt _ (by omega)
          have hco := (HO.out.grown_ hBk.out (by omega)).cellN ((k + k % 4 * 4) % 16) (by rw [HXSL.out]; omega)
          obtain ⟨hy0, hy1⟩ := byte_at HXSB.out ((k + k % 4 * 4) % 16)
          have hcx := (((HX0.out.grown_ HG11.out (by omega))).grown_ hBk.out (by omega)).cellN (xs.getD ((k + k % 4 * 4) % 16) 0).toNat (by rw [HXL.out]; omega)
          have HSV : Hid (subV box xs k = box.getD (xs.getD ((k + k % 4 * 4) % 16) 0).toNat 0) := Lib.hid rfl
          obtain ⟨y, hy⟩ : ∃ y, y = xs.getD ((k + k % 4 * 4) % 16) 0 := ⟨_, rfl⟩
          rw [← hy] at hco hcx hy0 hy1 HSV
          have hc := hAk.out.cellN k (by rw [subN_length, HXSL.out]; omega)
          have hf := hAk.out.free k
          have HS : Hid (subN box xs (k + 1) = (subN box xs k).set k (box.getD y.toNat 0)) := Lib.hid (by rw [subN, HSV.out])
          have hm0 : (0 : Int) ≤ ((k : Int) + (k : Int) % 4 * 4) % 16 := by omega
          have hm1 : ((k : Int) + (k : Int) % 4 * 4) % 16 < 16 := by omega
          have hm2 : (((k : Int) + (k : Int) % 4 * 4) % 16).toNat = (k + k % 4 * 4) % 16 := by omega
          clear hy
          go_wp2
          go_roundw
          case rel => exact ⟨k + 1, by go_num, by omega, Lib.hid (by rw [HS.out]; exact hAk.out.put k _), Lib.hid (grown_set hBk.out _ _)⟩
          case measure => simp [intOf]; omega
        · have hk' : k = 16 := by omega
          subst hk'
          obtain ⟨S, hS⟩ : ∃ S, S = subN box xs 16 := ⟨_, rfl⟩
          rw [← hS] at hAk
          have HSL : Hid (S.length = 16) := Lib.hid (by rw [hS, subN_length, HXSL.out])
          have HSB : Hid (Bytes S) := Lib.hid (by rw [hS]; exact subN_b _ _ HXB.out HXSB.out _)
          have HSE := Lib.hid hS
          have HG12 := Lib.hid (grown_then HG11.out hBk.out)
          clear hS
          go_wp2_with fail
          obtain ⟨wb, hwb⟩ : ∃ wb : World, wb = wr := ⟨_, rfl⟩
          subst hwb
          by_cases hr9 : r < 10
          focus
            rw [show ((16 : Nat) : Int) = 16 from rfl]
            have hRF : Hid (∀ M, M = mixAll S 4 → roundF ks box xs r = addN ks r M 16) := Lib.hid (fun M hM => by unfold roundF; rw [if_pos hr9, hM, HSE.out])
            have HM0 : Hid (Arr .u8 39 wb g3 (mixAll S 0)) := Lib.hid (by unfold mixAll; exact hAk.out)
            go_loopw [11] (fun iv wq => ∃ (j i : Nat), iv = .int .i64 i ∧ i = 4 * j ∧ j ≤ 4 ∧ Hid (Arr .u8 39 wq g3 (mixAll S j)) ∧ Hid (wb.grownBy wq (some g3))) (fun iv _ => 16 - (intOf iv).toNat)
            case atStart => exact ⟨0, 0, rfl, rfl, by omega, HM0, Lib.hid (grown_of_below (Below.refl _ _) _)⟩
            case round =>
              clear HM0
              obtain ⟨j, i, rfl, hi, hj, hAj, hBj⟩ := hrel
              by_cases hj4 : j < 4
              · have HI := Lib.hid hi
                have hi1 : i ≤ 12 := by omega
                clear hi
                have hsl : ∀ W : World, (Instr.sliceAt 39 (.pointer (some ⟨g3, 0, none⟩)) (some (.int .i64 (i : Int))) (some (.int .i64 ((i : Int) + 4))) none).run Try.prog W = .ok (.slice (some ⟨g3, i, none⟩) 4 (16 - i)) W := fun W => by
                  have h := sliceAt_arr (P := Try.prog) 39 5 16 Try.underlying39 (by kernel_rfl) g3 (i : Int) ((i : Int) + 4) i (i + 4) rfl (by omega) (by omega) (by omega) (by omega) W
                  rwa [show i + 4 - i = 4 from by omega] at h
                have HMS : Hid (mixAll S (j + 1) = mixN (mixAll S j) i 4) := Lib.hid (by rw [mixAll, HI.out])
                go_wp2_with fail
                refine (mix_any g3 i (16 - i) (mixAll S j) wr hAj.out (by rw [mixAll_length, HSL.out]) (by omega) (by omega) (mixAll_b S HSB.out j)).mono ?_
                rintro e w13 ⟨rfl, hA13, hG13⟩
                have HA13 := Lib.hid hA13
                have HG13 := Lib.hid (grown_then hBj.out hG13)
                clear hA13 hG13 hsl
                go_wp2
                go_roundw
                case rel => exact ⟨j + 1, i + 4, by go_num, by have := HI.out; omega, by omega, Lib.hid (by rw [HMS.out]; exact HA13.out), HG13⟩
                case measure => simp [intOf]; omega
              · have hj' : j = 4 := by omega
                subst hj'
                have hi16 : i = 16 := by omega
                subst hi16
                obtain ⟨M, hM⟩ : ∃ M, M = mixAll S 4 := ⟨_, rfl⟩
                rw [← hM] at hAj
                have HML : Hid (M.length = 16) := Lib.hid (by rw [hM, mixAll_length, HSL.out])
                have HRF := Lib.hid (hRF.out M hM)
                have HG14 := Lib.hid (grown_then HG12.out hBj.out)
                have HK14 := Lib.hid (HK0.out.grown_ HG14.out (by omega))
                clear hM
                go_wp2_with fail
                refine (add_any g3 g6 r M ks _ hAj.out HK14.out HML.out HKL.out hr10).mono ?_
                rintro e w15 ⟨rfl, hA15, hG15⟩
                have HA15 := Lib.hid hA15
                have HG15 := Lib.hid (grown_then HG14.out hG15)
                clear hA15 hG15
                go_wp2
                go_roundw
                case rel => exact ⟨n + 1, r + 1, by go_num, by have := HR.out; omega, by omega, Lib.hid (by rw [HES.out, HRF.out]; exact HA15.out), HG15⟩
                case measure => simp [intOf]; omega
          rotate_left
          focus
            have hr' : r = 10 := by omega
            have HRF : Hid (roundF ks box xs r = addN ks r S 16) := Lib.hid (by unfold roundF; rw [if_neg hr9, HSE.out])
            have HK14 := Lib.hid (HK0.out.grown_ HG12.out (by omega))
            clear hr9
            go_loopw [11] (fun iv wq => iv = .int .i64 0 ∧ wq = wb) (fun iv _ => 16 - (intOf iv).toNat)
            case atStart => exact ⟨rfl, rfl⟩
            case round =>
              obtain ⟨rfl, rfl⟩ := hrel
              have h10 : (r : Int) = 10 := by omega
              have h10' : ¬ (r : Int) < 10 := by omega
              have h10d : decide ((r : Int) < 10) = false := by simpa using h10'
              clear h10 h10' hr'
              go_wp2_with fail
              refine (add_any g3 g6 r S ks _ hAk.out HK14.out HSL.out HKL.out hr10).mono ?_
              rintro e w15 ⟨rfl, hA15, hG15⟩
              have HA15 := Lib.hid hA15
              have HG15 := Lib.hid (grown_then HG12.out hG15)
              clear hA15 hG15
              go_wp2
              go_roundw
              case rel => exact ⟨n + 1, r + 1, by go_num, by have := HR.out; omega, by omega, Lib.hid (by rw [HES.out, HRF.out]; exact HA15.out), HG15⟩
              case measure => simp [intOf]; omega
    · have hn' : n = 10 := by omega
      subst hn'
      subst hr
      have HXSL := Lib.hid hlen
      obtain ⟨xs, hxs⟩ : ∃ x, x = encN ks box block 10 := ⟨_, rfl⟩
      rw [← hxs] at hA HXSL
      have HE : Hid (encF key block = xs) := Lib.hid (by unfold encF; rw [hxs, HKE.out, HXE.out])
      have HR4 := Lib.hid (HR0.out.grown_ hB.out (by omega))
      have HBr := Lib.hid (below_grown HB0.out (by have := HB0.out.size; have := HG2.out; omega) (by omega) hB.out)
      clear hxs hlen hbN
      go_wp2_with (first
        | ((with_reducible refine gate_dst (N := 56) rfl ?_); refine load_arr rfl 39 _ rfl g3 rfl .u8 _ _ _ _ hA.out Try.underlying39 (by rw [HXSL.out]; kernel_rfl) ?_)
        | ((with_reducible refine gate_store (t := 39) (p := 4) rfl ?_); refine store_arr rfl 39 _ _ rfl g4 .u8 xs rfl rfl 39 _ HR4.out (by rw [HXSL.out]; rfl) (by rw [HXSL.out]; kernel_rfl) ?_; intro w8 hA8 hw8; subst hw8)
        | fail)
      exact bodyPost_ret (results_arr rfl _ _ g4 .u8 _ _ _ xs rfl hA8 Try.underlying39 (by rw [HXSL.out]; kernel_rfl)) rfl ⟨by rw [HE.out], by rw [HG2.out]; exact below_setRow HBr.out _ (by omega) _⟩
end Go.Proofs.Ytljmjeaocojnmaa.HAa
