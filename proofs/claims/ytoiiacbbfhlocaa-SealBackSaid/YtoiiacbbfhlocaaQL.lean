/- Texts of this claim, laid together by a program of this session (wip/tools/pack.py); the print's own words among them are those that print.sh OWN=1 lays for the claim, as far as they are named. -/
import Derived.Test.YtoiiacbbfhlocaaQJ
import Derived.Test.YtoiiacbbfhlocaaQK
section
set_option linter.unusedVariables false
set_option linter.unusedSimpArgs false
namespace Go.Proofs.Ytoiiacbbfhlocaa.HEa
open Go.RowKit Go.Proofs.YtoiiacbbfhlocaaW.PrintWords Go.Proofs.YtoiiacbbfhlocaaW.PrintLast Go.Proofs.YtoiiacbbfhlocaaW.PrintMore Go.Proofs.Ytoiiacbbfhlocaa.Kit Go.Proofs.Ytoiiacbbfhlocaa.HHa Go.Proofs.Ytoiiacbbfhlocaa.HSa Go.Proofs.Ytoiiacbbfhlocaa.HAa Go.Proofs.Ytoiiacbbfhlocaa.HCa Go.Proofs.Ytoiiacbbfhlocaa.Cb
attribute [local go_sem ↓] Go.wp_at_zero Go.wp_at_succ
attribute [local irreducible] tagF sealF xN nN encF verN plainF sumF padX inF hmF jN jF padK boxT Wl keyN bigL b4
theorem big8_drop (f c : Int) (hf : 0 ≤ f ∧ f < 4294967296) (hc : 0 ≤ c ∧ c < 18446744073709551616) : bigL c 8 = (nN f c 12).drop 4 := by
  rw [← nN_big f c hf hc, List.drop_left' (bigL_length 4 f)]
end Go.Proofs.Ytoiiacbbfhlocaa.HEa
end
section
set_option linter.unusedVariables false
set_option linter.unusedSimpArgs false
namespace Go.Proofs.Ytoiiacbbfhlocaa.HEa
open Go.RowKit Go.Proofs.YtoiiacbbfhlocaaW.PrintWords Go.Proofs.YtoiiacbbfhlocaaW.PrintLast Go.Proofs.YtoiiacbbfhlocaaW.PrintMore Go.Proofs.Ytoiiacbbfhlocaa.Kit Go.Proofs.Ytoiiacbbfhlocaa.HHa Go.Proofs.Ytoiiacbbfhlocaa.HSa Go.Proofs.Ytoiiacbbfhlocaa.HAa Go.Proofs.Ytoiiacbbfhlocaa.HCa Go.Proofs.Ytoiiacbbfhlocaa.Cb
attribute [local go_sem ↓] Go.wp_at_zero Go.wp_at_succ
attribute [local irreducible] tagF sealF xN nN encF verN plainF sumF padX inF hmF jN jF padK boxT Wl keyN bigL b4 dEnc dMac
end Go.Proofs.Ytoiiacbbfhlocaa.HEa
end
section
set_option linter.unusedVariables false
set_option linter.unusedSimpArgs false
namespace Go.Proofs.Ytoiiacbbfhlocaa.HEa
open Go.RowKit Go.Proofs.YtoiiacbbfhlocaaW.PrintWords Go.Proofs.YtoiiacbbfhlocaaW.PrintLast Go.Proofs.YtoiiacbbfhlocaaW.PrintMore Go.Proofs.Ytoiiacbbfhlocaa.Kit Go.Proofs.Ytoiiacbbfhlocaa.HHa Go.Proofs.Ytoiiacbbfhlocaa.HSa Go.Proofs.Ytoiiacbbfhlocaa.HAa Go.Proofs.Ytoiiacbbfhlocaa.HCa Go.Proofs.Ytoiiacbbfhlocaa.Cb
attribute [local go_sem ↓] Go.wp_at_zero Go.wp_at_succ
def tSec : List Int := [115, 101, 99, 114, 101, 116]
def z64 : List Int := List.replicate 64 0
def kLit : List Int := [97, 103, 168, 155, 68, 28, 241, 246, 124, 237, 11, 177, 135, 47, 181, 238, 202, 125, 249, 1, 230, 154, 34, 23, 225, 162, 139, 21, 56, 99, 194, 216, 195, 95, 243, 251, 216, 183, 149, 4, 129, 209, 59, 24, 228, 116, 158, 131]
def sLit : List Int := [0, 0, 0, 0, 0, 0, 0, 5, 103, 174, 69, 51, 66, 119, 218, 117, 114, 47, 124, 246, 247, 51, 155, 140, 93, 14, 67, 75, 97, 172, 179, 141, 205, 126, 163, 63, 229, 85, 181, 12, 189, 205, 128, 15, 233, 202, 137, 161, 113, 67, 115, 7, 116, 137, 212, 220, 12, 228, 190, 62, 138, 145, 240, 168, 116, 193, 164, 126, 202, 172, 209, 99]
set_option maxRecDepth 100000 in
theorem kk_lit : kkF tSec = kLit := by decide +kernel
set_option maxRecDepth 100000 in
theorem ks_lit0 : ksF (kLit.take 16) (nN 3 5 12) 0 = [103, 174, 69, 51, 66, 119, 218, 117, 114, 47, 124, 246, 247, 51, 155, 140] := by decide +kernel
set_option maxRecDepth 100000 in
theorem ks_lit1 : ksF (kLit.take 16) (nN 3 5 12) 1 = [93, 14, 67, 75, 97, 172, 179, 141, 205, 126, 163, 63, 229, 85, 181, 12] := by decide +kernel
set_option maxRecDepth 100000 in
theorem ks_lit2 : ksF (kLit.take 16) (nN 3 5 12) 2 = [189, 205, 128, 15, 233, 202, 137, 161, 113, 67, 115, 7, 116, 137, 212, 220] := by decide +kernel
set_option maxRecDepth 100000 in
theorem ks_lit3 : ksF (kLit.take 16) (nN 3 5 12) 3 = [12, 228, 190, 62, 138, 145, 240, 168, 116, 193, 164, 126, 202, 172, 209, 99] := by decide +kernel
def kl : Nat → List Int
  | 0 => [103, 174, 69, 51, 66, 119, 218, 117, 114, 47, 124, 246, 247, 51, 155, 140]
  | 1 => [93, 14, 67, 75, 97, 172, 179, 141, 205, 126, 163, 63, 229, 85, 181, 12]
  | 2 => [189, 205, 128, 15, 233, 202, 137, 161, 113, 67, 115, 7, 116, 137, 212, 220]
  | _ => [12, 228, 190, 62, 138, 145, 240, 168, 116, 193, 164, 126, 202, 172, 209, 99]
def xNf (kf : Nat → List Int) (l : List Int) : List Int := (List.range l.length).map fun i => Go.bits .xor .u8 (l.getD i 0) ((kf (i / 16)).getD (i % 16) 0)
theorem xN_f (key nonce l : List Int) : xN key nonce l l.length = xNf (ksF key nonce) l := by
  rw [← cN_all]
  rfl
theorem xNf_congr (kf kg : Nat → List Int) (l : List Int) (h : ∀ i, i < l.length → kf (i / 16) = kg (i / 16)) : xNf kf l = xNf kg l := by
  unfold xNf
  refine List.map_congr_left (fun i hi => ?_)
  rw [h i (List.mem_range.1 hi)]
set_option maxRecDepth 100000 in
theorem xs_lit : xNf kl z64 = sLit.drop 8 := by decide +kernel
theorem n_lit : (nN 3 5 12).drop 4 = sLit.take 8 := by decide +kernel
theorem seal_lit : sealF kLit 3 5 z64 = sLit := by
  unfold sealF
  rw [xN_f, n_lit, xNf_congr (ksF (kLit.take 16) (nN 3 5 12)) kl z64 (fun i hi => by
    have hi' : i < 64 := hi
    rcases (show i / 16 = 0 ∨ i / 16 = 1 ∨ i / 16 = 2 ∨ i / 16 = 3 by omega) with h | h | h | h
    · rw [h]; exact ks_lit0
    · rw [h]; exact ks_lit1
    · rw [h]; exact ks_lit2
    · rw [h]; exact ks_lit3), xs_lit, List.take_append_drop]
set_option maxRecDepth 100000 in
theorem tag_lit : (tagF kLit 3 sLit).getD 0 0 = 202 := by decide +kernel
theorem ver_lit : verN sLit 8 = 5 := by decide +kernel
end Go.Proofs.Ytoiiacbbfhlocaa.HEa
end
section
set_option linter.unusedVariables false
set_option linter.unusedSimpArgs false
namespace Go.Proofs.Ytoiiacbbfhlocaa.HEa
open Go.RowKit Go.Proofs.YtoiiacbbfhlocaaW.PrintWords Go.Proofs.YtoiiacbbfhlocaaW.PrintLast Go.Proofs.YtoiiacbbfhlocaaW.PrintMore Go.Proofs.Ytoiiacbbfhlocaa.Kit Go.Proofs.Ytoiiacbbfhlocaa.HHa Go.Proofs.Ytoiiacbbfhlocaa.HSa Go.Proofs.Ytoiiacbbfhlocaa.HAa Go.Proofs.Ytoiiacbbfhlocaa.HCa Go.Proofs.Ytoiiacbbfhlocaa.Cb
attribute [local go_sem ↓] Go.wp_at_zero Go.wp_at_succ
def Tells7 (w : World) (e : Ending) (w' : World) : Prop := e = .returned (.bool true) ∧ Below w.heap.size w w'
theorem bytes_dec (l : List Int) (h : l.all (fun x => decide (0 ≤ x) && decide (x < 256)) = true) : Bytes l := by
  intro x hx
  have := List.all_eq_true.1 h x hx
  simpa using this
theorem kLit_b : Bytes kLit := bytes_dec _ (by decide +kernel)
theorem sLit_b : Bytes sLit := bytes_dec _ (by decide +kernel)
theorem plainF_length (kk : List Int) (f : Int) (raw : List Int) (h : raw.length = 72) : (plainF kk f raw).length = 64 := by
  unfold plainF
  rw [xN_length, List.length_drop, h]
attribute [local irreducible] tagF sealF xN nN encF verN plainF sumF padX inF hmF jN jF padK boxT Wl keyN bigL b4 dEnc dMac kLit sLit kkF
set_option maxHeartbeats 4000000 in
set_option maxRecDepth 100000 in
theorem knows7_any (w : World) : Calls Try.prog 17 #[] w (Tells7 w) := by
  obtain ⟨K, hK⟩ : ∃ K, K = kLit := ⟨_, rfl⟩
  obtain ⟨S, hSS⟩ : ∃ S, S = sLit := ⟨_, rfl⟩
  obtain ⟨TG, hTG⟩ : ∃ T, T = tagF K 3 S := ⟨_, rfl⟩
  have HKL : Hid (K.length = 48) := Lib.hid (by rw [hK]; decide +kernel)
  have HSL : Hid (S.length = 72) := Lib.hid (by rw [hSS]; decide +kernel)
  have HTL : Hid (TG.length = 32) := Lib.hid (by rw [hTG]; exact tagF_length _ _ _)
  have HKB : Hid (Bytes K) := Lib.hid (by rw [hK]; exact kLit_b)
  have HSB : Hid (Bytes S) := Lib.hid (by rw [hSS]; exact sLit_b)
  have HKK : Hid (kkF tSec = K) := Lib.hid (by rw [hK]; exact kk_lit)
  have HS7 : Hid (S.getD 7 0 = 5) := Lib.hid (by rw [hSS]; decide +kernel)
  have HVR : Hid (verN S 8 = 5) := Lib.hid (by rw [hSS]; exact ver_lit)
  have HTN : Hid (tagF K 3 S ≠ List.replicate 32 0) := Lib.hid (by
    intro h
    have h2 := tag_lit
    rw [← hK, ← hSS, h] at h2
    revert h2
    decide)
  have HTT : Hid (tagF K 3 S = TG) := Lib.hid hTG.symm
  have HCL : Hid (∀ (W : World) (A : Option Addr), Kd.C (Kd.int .u8) W A 64 z64 → Calls Try.prog 15 #[.agg (nums .u8 K).toArray, .int .i64 3, .int .u64 5, .slice A 64 64] W (CloseOut K 3 S TG 0 W)) := Lib.hid (fun W A h => by
    have h := close_any K 3 3 5 (by decide) (by decide) A 64 z64 W HKL.out HKB.out h (by decide)
    have e : sealF K 3 5 z64 = S := by rw [hK, hSS]; exact seal_lit
    rw [e, ← hTG] at h
    exact h)
  have HDR : Hid (∀ (W : World) (A : Option Addr), Kd.C (Kd.int .u8) W A 6 tSec → Calls Try.prog 85 #[.slice A 6 6] W (GivesArr .u8 K W)) := Lib.hid (fun W A h => by
    have h := derive_any A 6 tSec W h (by decide) (by decide)
    rw [HKK.out] at h
    exact h)
  clear hK hSS hTG
  go_enter Try.func17, Try.ntmps17
  have kc1 := fun (C : Array Value) (n c : Nat) => Lib.run_convert_bytes_const (P := Try.prog) w 29 5 C n c Try.underlying29 Try.underlying5
  go_wp2_with fail
  refine (show Calls _ _ _ _ (GivesArr .u8 K _) from HDR.out (w.alloc (.cells (nums .u8 tSec).toArray 5 (6, 7))) _ (lit_C w 5 (6, 7) tSec 6 rfl (by decide))).mono ?_
  rintro e w2 ⟨rfl, hB2⟩
  have HB2 := Lib.hid (below_next (below_alloc (Below.refl w.heap.size w) (.cells (nums .u8 tSec).toArray 5 (6, 7))) hB2)
  clear hB2 kc1 HDR
  go_wp2_with (first
    | ((with_reducible refine gate_dst (N := 1) rfl ?_); refine alloc_arr rfl 26 rfl .u8 (List.replicate 48 0) (fun w => Try.zeroValue26 w) (by first | (go_simp; done) | (go_simp; rfl)) ?_; intro w3 hA3 hB3)
    | ((with_reducible refine gate_store (t := 26) (p := 1) rfl ?_); refine store_arr rfl 26 _ _ rfl w2.heap.size .u8 K rfl rfl 26 _ hA3 (by rw [HKL.out]; rfl) (by rw [HKL.out]; kernel_rfl) ?_; intro w4 hA4 hw4; have hB4 := below_setRow (below_next HB2.out hB3) w2.heap.size HB2.out.size (nums .u8 K).toArray; rw [← hw4] at hB4; have HA4 := Lib.hid hA4; have HB4 := Lib.hid hB4; clear hw4 hA4 hB4 hA3 hB3)
    | fail)
  generalize w2.heap.size = g1 at *
  have HAK := Lib.hid HA4.out.drew
  have HBd := Lib.hid (below_drew HB4.out)
  clear HA4 HB4 HB2
  simp only [Act.put, List.setIfInBounds_toArray, List.set_cons_zero, List.set_cons_succ]
  refine s_region (fun u => Below w4.drew.heap.size w4.drew u) (by kernel_rfl) 11 (by kernel_rfl) (Below.refl _ _) (fun hS => ?_)
  generalize w4.drew = w4d at *
  refine s_take 0 (.agg (nums .u8 K).toArray) hS rfl (by kernel_rfl) (by kernel_rfl) (by kernel_rfl) (fun _ _ _ h => h) rfl (fun w' hw' => run_load_row 26 _ rfl g1 rfl .u8 _ _ K (HAK.out.next hw') Try.underlying26 rfl (by rw [HKL.out]; kernel_rfl)) ?_
  simp only [Act.put, List.setIfInBounds_toArray, List.set_cons_zero, List.set_cons_succ]
  refine s_two 1 7 rfl rfl (by kernel_rfl) ?_ ?_
  rotate_left
  focus
    refine g_event (.pointer (some ⟨w4d.heap.size, 0, none⟩)) (w4d.alloc (.cells (nums .u8 (List.replicate 32 0)).toArray 24)) rfl (by (unfold execOp; simp [go_sem, Act.put, Act.eval]; first | done | rfl)) (below_alloc (hS) _) (fun hS_ => ?_)
    simp only [Act.put, List.setIfInBounds_toArray, List.set_cons_zero, List.set_cons_succ]
    obtain ⟨Wt, hWt⟩ : ∃ W, W = w4d.alloc (.cells (nums .u8 (List.replicate 32 0)).toArray 24) := ⟨_, rfl⟩
    have HT := Arr.new w4d .u8 24 (List.replicate 32 0)
    have hbWt := below_alloc (Below.refl w4d.heap.size w4d) (.cells (nums .u8 (List.replicate 32 0)).toArray 24)
    rw [← hWt] at HT hbWt hS_ ⊢
    have hSWt := hS_
    refine s_one 1 rfl (by kernel_rfl) ?_
    refine g_event (.slice (some ⟨Wt.heap.size, 0, none⟩) 64 64) (Wt.alloc (.cells (nums .u8 z64).toArray 5)) rfl (by (have hk : (Instr.makeSlice 29 (.int .i64 64) (.int .i64 64)).run Try.prog (Wt) = .ok (.slice (some ⟨Wt.heap.size, 0, none⟩) 64 64) (Wt.alloc (.cells (nums .u8 z64).toArray 5)) := by kernel_rfl); unfold execOp; simp only [Act.eval]; simp [go_sem, Act.put, Act.eval, hk]) (below_alloc (hSWt) _) (fun hS_ => ?_)
    simp only [Act.put, List.setIfInBounds_toArray, List.set_cons_zero, List.set_cons_succ]
    obtain ⟨Wz, hWz⟩ : ∃ W, W = Wt.alloc (.cells (nums .u8 z64).toArray 5) := ⟨_, rfl⟩
    have HZ := Arr.new Wt .u8 5 z64
    have hbWz := below_alloc (Below.refl Wt.heap.size Wt) (.cells (nums .u8 z64).toArray 5)
    rw [← hWz] at HZ hbWz hS_ ⊢
    have hSWz := hS_
    refine s_one 2 rfl (by kernel_rfl) ?_
    refine g_call rfl 15 _ _ Try.func15 (by kernel_rfl) rfl _ _ #[.agg (nums .u8 K).toArray, .int .i64 3, .int .u64 5, .slice (some ⟨Wt.heap.size, 0, none⟩) 64 64] rfl (by simp [Act.put, Act.eval]) (HCL.out Wz (some ⟨Wt.heap.size, 0, none⟩) (HZ.reads 64 rfl (by decide))) ?_
    rintro e W2 ⟨A2, c2, rfl, hl2, hR2, hB2⟩
    rw [HSL.out] at hl2 hR2 ⊢
    have hb2 := below_next (hSWz) hB2
    refine ⟨_, rfl, hb2, ?_⟩
    simp only [Act.put, List.setIfInBounds_toArray, List.set_cons_zero, List.set_cons_succ]
    obtain ⟨Wx, hWx⟩ : ∃ Wx, Wx = W2 := ⟨_, rfl⟩
    have HSx : Below w4d.heap.size w4d Wx := by rw [hWx]; exact hb2
    have HAx : Arr .u8 24 Wx (w4d.heap.size) (List.replicate 32 0) := by rw [hWx]; exact (HT.next hbWz).next hB2
    have HRx : Kd.R (Kd.int .u8) 5 Wx w4d.heap.size (fun _ => True) (.slice A2 72 c2) S := by rw [hWx]; exact Kd.R_lower hR2 hSWz.size
    have hne : ∀ k, some (w4d.heap.size) = some k → some k ≠ (Value.slice A2 72 c2).ownBlock := fun k hk he => by injection hk with hk; have h1 := ((Kd.R_bound hR2).1 k he.symm).2.1; have h2 := (HT.next hbWz).lt; omega
    have hgx : w4d.heap.size ≤ w4d.heap.size := Nat.le_refl _
    have hS := HSx
    rw [← hWx]
    refine s_take 3 (_) hS rfl (by kernel_rfl) (by kernel_rfl) (by kernel_rfl) (fun _ _ _ h => h) rfl (fun w' hw' => run_move_at _ rfl w') ?_
    simp only [Act.put, List.setIfInBounds_toArray, List.set_cons_zero, List.set_cons_succ]
    refine s_take 4 (.slice A2 72 c2) hS rfl (by kernel_rfl) (by kernel_rfl) (by kernel_rfl) (fun _ _ _ h => h) rfl (fun w' hw' => by (unfold execOp; simp [go_sem, Act.put, Act.eval])) ?_
    simp only [Act.put, List.setIfInBounds_toArray, List.set_cons_zero, List.set_cons_succ]
    refine s_take 5 (.agg (nums .u8 TG).toArray) hS rfl (by kernel_rfl) (by kernel_rfl) (by kernel_rfl) (fun _ _ _ h => h) rfl (fun w' hw' => by (unfold execOp; simp [go_sem, Act.put, Act.eval])) ?_
    simp only [Act.put, List.setIfInBounds_toArray, List.set_cons_zero, List.set_cons_succ]
    refine s_take 6 (.int .i64 0) hS rfl (by kernel_rfl) (by kernel_rfl) (by kernel_rfl) (fun _ _ _ h => h) rfl (fun w' hw' => by (unfold execOp; simp [go_sem, Act.put, Act.eval])) ?_
    simp only [Act.put, List.setIfInBounds_toArray, List.set_cons_zero, List.set_cons_succ]
    refine s_take 8 (_) hS rfl (by kernel_rfl) (by kernel_rfl) (by kernel_rfl) (fun _ _ _ h => h) rfl (fun w' hw' => BigFrame.run_assign _ rfl w') ?_
    simp only [Act.put, List.setIfInBounds_toArray, List.set_cons_zero, List.set_cons_succ]
    refine s_store_arr 9 rfl (by kernel_rfl) rfl 24 _ _ rfl (w4d.heap.size) .u8 TG rfl rfl 24 (List.replicate 32 0) HAx (by rw [HTL.out]; rfl) (by rw [HTL.out]; kernel_rfl) (below_setRow hS _ hgx _) (fun hA9 => ?_)
    simp only [Act.put, List.setIfInBounds_toArray, List.set_cons_zero, List.set_cons_succ]
    have hR9 := Kd.R_grown2 HRx rfl (grown_row (g := w4d.heap.size) (w := Wx) (W := Wx) ⟨rfl, rfl, rfl, Nat.le_refl _, fun _ _ _ => rfl⟩ (nums .u8 TG).toArray) hne
    have hB9 := below_setRow HSx (w4d.heap.size) hgx (nums .u8 TG).toArray
    obtain ⟨W9, hW9⟩ : ∃ W9, W9 = Wx.setRow (w4d.heap.size) (nums .u8 TG).toArray := ⟨_, rfl⟩
    rw [← hW9] at hA9 hR9 hB9 ⊢
    have hS := hB9
    refine s_take 10 (_) hS rfl (by kernel_rfl) (by kernel_rfl) (by kernel_rfl) (fun _ _ _ h => h) rfl (fun w' hw' => BigFrame.run_assign _ rfl w') ?_
    simp only [Act.put, List.setIfInBounds_toArray, List.set_cons_zero, List.set_cons_succ]
    refine s_done (by kernel_rfl) ?_
    have HA9 := Lib.hid hA9
    have HR9 := Lib.hid (Kd.R_reads' hR9)
    have HB9 := Lib.hid hB9
    obtain ⟨g3, hg3⟩ : ∃ g3, g3 = w4d.heap.size := ⟨_, rfl⟩
    have HG3 := Lib.hid hg3
  rotate_left
  refine g_event (.slice (some ⟨w4d.heap.size, 0, none⟩) 64 64) (w4d.alloc (.cells (nums .u8 z64).toArray 5)) rfl (by (have hk : (Instr.makeSlice 29 (.int .i64 64) (.int .i64 64)).run Try.prog (w4d) = .ok (.slice (some ⟨w4d.heap.size, 0, none⟩) 64 64) (w4d.alloc (.cells (nums .u8 z64).toArray 5)) := by kernel_rfl); unfold execOp; simp only [Act.eval]; simp [go_sem, Act.put, Act.eval, hk]) (below_alloc (hS) _) (fun hS_ => ?_)
  simp only [Act.put, List.setIfInBounds_toArray, List.set_cons_zero, List.set_cons_succ]
  obtain ⟨Wz, hWz⟩ : ∃ W, W = w4d.alloc (.cells (nums .u8 z64).toArray 5) := ⟨_, rfl⟩
  have HZ := Arr.new w4d .u8 5 z64
  have hbWz := below_alloc (Below.refl w4d.heap.size w4d) (.cells (nums .u8 z64).toArray 5)
  rw [← hWz] at HZ hbWz hS_ ⊢
  have hSWz := hS_
  refine s_two 2 7 rfl rfl (by kernel_rfl) ?_ ?_
  rotate_left
  focus
    refine g_event (.pointer (some ⟨Wz.heap.size, 0, none⟩)) (Wz.alloc (.cells (nums .u8 (List.replicate 32 0)).toArray 24)) rfl (by (unfold execOp; simp [go_sem, Act.put, Act.eval]; first | done | rfl)) (below_alloc (hSWz) _) (fun hS_ => ?_)
    simp only [Act.put, List.setIfInBounds_toArray, List.set_cons_zero, List.set_cons_succ]
    obtain ⟨Wt, hWt⟩ : ∃ W, W = Wz.alloc (.cells (nums .u8 (List.replicate 32 0)).toArray 24) := ⟨_, rfl⟩
    have HT := Arr.new Wz .u8 24 (List.replicate 32 0)
    have hbWt := below_alloc (Below.refl Wz.heap.size Wz) (.cells (nums .u8 (List.replicate 32 0)).toArray 24)
    rw [← hWt] at HT hbWt hS_ ⊢
    have hSWt := hS_
    refine s_one 2 rfl (by kernel_rfl) ?_
    refine g_call rfl 15 _ _ Try.func15 (by kernel_rfl) rfl _ _ #[.agg (nums .u8 K).toArray, .int .i64 3, .int .u64 5, .slice (some ⟨w4d.heap.size, 0, none⟩) 64 64] rfl (by simp [Act.put, Act.eval]) (HCL.out Wt (some ⟨w4d.heap.size, 0, none⟩) ((HZ.next hbWt).reads 64 rfl (by decide))) ?_
    rintro e W2 ⟨A2, c2, rfl, hl2, hR2, hB2⟩
    rw [HSL.out] at hl2 hR2 ⊢
    have hb2 := below_next (hSWt) hB2
    refine ⟨_, rfl, hb2, ?_⟩
    simp only [Act.put, List.setIfInBounds_toArray, List.set_cons_zero, List.set_cons_succ]
    obtain ⟨Wx, hWx⟩ : ∃ Wx, Wx = W2 := ⟨_, rfl⟩
    have HSx : Below w4d.heap.size w4d Wx := by rw [hWx]; exact hb2
    have HAx : Arr .u8 24 Wx (Wz.heap.size) (List.replicate 32 0) := by rw [hWx]; exact HT.next hB2
    have HRx : Kd.R (Kd.int .u8) 5 Wx w4d.heap.size (fun _ => True) (.slice A2 72 c2) S := by rw [hWx]; exact Kd.R_lower hR2 hSWt.size
    have hne : ∀ k, some (Wz.heap.size) = some k → some k ≠ (Value.slice A2 72 c2).ownBlock := fun k hk he => by injection hk with hk; have h1 := ((Kd.R_bound hR2).1 k he.symm).2.1; have h2 := HT.lt; omega
    have hgx : w4d.heap.size ≤ Wz.heap.size := hSWz.size
    have hS := HSx
    rw [← hWx]
    refine s_take 3 (_) hS rfl (by kernel_rfl) (by kernel_rfl) (by kernel_rfl) (fun _ _ _ h => h) rfl (fun w' hw' => run_move_at _ rfl w') ?_
    simp only [Act.put, List.setIfInBounds_toArray, List.set_cons_zero, List.set_cons_succ]
    refine s_take 4 (.slice A2 72 c2) hS rfl (by kernel_rfl) (by kernel_rfl) (by kernel_rfl) (fun _ _ _ h => h) rfl (fun w' hw' => by (unfold execOp; simp [go_sem, Act.put, Act.eval])) ?_
    simp only [Act.put, List.setIfInBounds_toArray, List.set_cons_zero, List.set_cons_succ]
    refine s_take 5 (.agg (nums .u8 TG).toArray) hS rfl (by kernel_rfl) (by kernel_rfl) (by kernel_rfl) (fun _ _ _ h => h) rfl (fun w' hw' => by (unfold execOp; simp [go_sem, Act.put, Act.eval])) ?_
    simp only [Act.put, List.setIfInBounds_toArray, List.set_cons_zero, List.set_cons_succ]
    refine s_take 6 (.int .i64 0) hS rfl (by kernel_rfl) (by kernel_rfl) (by kernel_rfl) (fun _ _ _ h => h) rfl (fun w' hw' => by (unfold execOp; simp [go_sem, Act.put, Act.eval])) ?_
    simp only [Act.put, List.setIfInBounds_toArray, List.set_cons_zero, List.set_cons_succ]
    refine s_take 8 (_) hS rfl (by kernel_rfl) (by kernel_rfl) (by kernel_rfl) (fun _ _ _ h => h) rfl (fun w' hw' => BigFrame.run_assign _ rfl w') ?_
    simp only [Act.put, List.setIfInBounds_toArray, List.set_cons_zero, List.set_cons_succ]
    refine s_store_arr 9 rfl (by kernel_rfl) rfl 24 _ _ rfl (Wz.heap.size) .u8 TG rfl rfl 24 (List.replicate 32 0) HAx (by rw [HTL.out]; rfl) (by rw [HTL.out]; kernel_rfl) (below_setRow hS _ hgx _) (fun hA9 => ?_)
    simp only [Act.put, List.setIfInBounds_toArray, List.set_cons_zero, List.set_cons_succ]
    have hR9 := Kd.R_grown2 HRx rfl (grown_row (g := Wz.heap.size) (w := Wx) (W := Wx) ⟨rfl, rfl, rfl, Nat.le_refl _, fun _ _ _ => rfl⟩ (nums .u8 TG).toArray) hne
    have hB9 := below_setRow HSx (Wz.heap.size) hgx (nums .u8 TG).toArray
    obtain ⟨W9, hW9⟩ : ∃ W9, W9 = Wx.setRow (Wz.heap.size) (nums .u8 TG).toArray := ⟨_, rfl⟩
    rw [← hW9] at hA9 hR9 hB9 ⊢
    have hS := hB9
    refine s_take 10 (_) hS rfl (by kernel_rfl) (by kernel_rfl) (by kernel_rfl) (fun _ _ _ h => h) rfl (fun w' hw' => BigFrame.run_assign _ rfl w') ?_
    simp only [Act.put, List.setIfInBounds_toArray, List.set_cons_zero, List.set_cons_succ]
    refine s_done (by kernel_rfl) ?_
    have HA9 := Lib.hid hA9
    have HR9 := Lib.hid (Kd.R_reads' hR9)
    have HB9 := Lib.hid hB9
    obtain ⟨g3, hg3⟩ : ∃ g3, g3 = Wz.heap.size := ⟨_, rfl⟩
    have HG3 := Lib.hid hg3
  rotate_left 2
  focus
    refine g_call rfl 15 _ _ Try.func15 (by kernel_rfl) rfl _ _ #[.agg (nums .u8 K).toArray, .int .i64 3, .int .u64 5, .slice (some ⟨w4d.heap.size, 0, none⟩) 64 64] rfl (by simp [Act.put, Act.eval]) (HCL.out Wz (some ⟨w4d.heap.size, 0, none⟩) (HZ.reads 64 rfl (by decide))) ?_
    rintro e W2 ⟨A2, c2, rfl, hl2, hR2, hB2⟩
    rw [HSL.out] at hl2 hR2 ⊢
    have hb2 := below_next (hSWz) hB2
    refine ⟨_, rfl, hb2, ?_⟩
    simp only [Act.put, List.setIfInBounds_toArray, List.set_cons_zero, List.set_cons_succ]
    have hS := hb2
    refine s_take 3 (_) hS rfl (by kernel_rfl) (by kernel_rfl) (by kernel_rfl) (fun _ _ _ h => h) rfl (fun w' hw' => run_move_at _ rfl w') ?_
    simp only [Act.put, List.setIfInBounds_toArray, List.set_cons_zero, List.set_cons_succ]
    refine s_take 4 (.slice A2 72 c2) hS rfl (by kernel_rfl) (by kernel_rfl) (by kernel_rfl) (fun _ _ _ h => h) rfl (fun w' hw' => by (unfold execOp; simp [go_sem, Act.put, Act.eval])) ?_
    simp only [Act.put, List.setIfInBounds_toArray, List.set_cons_zero, List.set_cons_succ]
    refine s_take 5 (.agg (nums .u8 TG).toArray) hS rfl (by kernel_rfl) (by kernel_rfl) (by kernel_rfl) (fun _ _ _ h => h) rfl (fun w' hw' => by (unfold execOp; simp [go_sem, Act.put, Act.eval])) ?_
    simp only [Act.put, List.setIfInBounds_toArray, List.set_cons_zero, List.set_cons_succ]
    refine s_take 6 (.int .i64 0) hS rfl (by kernel_rfl) (by kernel_rfl) (by kernel_rfl) (fun _ _ _ h => h) rfl (fun w' hw' => by (unfold execOp; simp [go_sem, Act.put, Act.eval])) ?_
    simp only [Act.put, List.setIfInBounds_toArray, List.set_cons_zero, List.set_cons_succ]
    refine s_one 7 rfl (by kernel_rfl) ?_
    refine g_event (.pointer (some ⟨W2.heap.size, 0, none⟩)) (W2.alloc (.cells (nums .u8 (List.replicate 32 0)).toArray 24)) rfl (by (unfold execOp; simp [go_sem, Act.put, Act.eval]; first | done | rfl)) (below_alloc (hb2) _) (fun hS_ => ?_)
    simp only [Act.put, List.setIfInBounds_toArray, List.set_cons_zero, List.set_cons_succ]
    obtain ⟨Wt, hWt⟩ : ∃ W, W = W2.alloc (.cells (nums .u8 (List.replicate 32 0)).toArray 24) := ⟨_, rfl⟩
    have HT := Arr.new W2 .u8 24 (List.replicate 32 0)
    have hbWt := below_alloc (Below.refl W2.heap.size W2) (.cells (nums .u8 (List.replicate 32 0)).toArray 24)
    rw [← hWt] at HT hbWt hS_ ⊢
    have hSWt := hS_
    obtain ⟨Wx, hWx⟩ : ∃ Wx, Wx = Wt := ⟨_, rfl⟩
    have HSx : Below w4d.heap.size w4d Wx := by rw [hWx]; exact hSWt
    have HAx : Arr .u8 24 Wx (W2.heap.size) (List.replicate 32 0) := by rw [hWx]; exact HT
    have HRx : Kd.R (Kd.int .u8) 5 Wx w4d.heap.size (fun _ => True) (.slice A2 72 c2) S := by rw [hWx]; exact Kd.R_lower (Kd.R_below hR2 hbWt) hSWz.size
    have hne : ∀ k, some (W2.heap.size) = some k → some k ≠ (Value.slice A2 72 c2).ownBlock := fun k hk he => by injection hk with hk; have h1 := ((Kd.R_bound hR2).1 k he.symm).2.2.1; omega
    have hgx : w4d.heap.size ≤ W2.heap.size := hb2.size
    have hS := HSx
    rw [← hWx]
    refine s_take 8 (_) hS rfl (by kernel_rfl) (by kernel_rfl) (by kernel_rfl) (fun _ _ _ h => h) rfl (fun w' hw' => BigFrame.run_assign _ rfl w') ?_
    simp only [Act.put, List.setIfInBounds_toArray, List.set_cons_zero, List.set_cons_succ]
    refine s_store_arr 9 rfl (by kernel_rfl) rfl 24 _ _ rfl (W2.heap.size) .u8 TG rfl rfl 24 (List.replicate 32 0) HAx (by rw [HTL.out]; rfl) (by rw [HTL.out]; kernel_rfl) (below_setRow hS _ hgx _) (fun hA9 => ?_)
    simp only [Act.put, List.setIfInBounds_toArray, List.set_cons_zero, List.set_cons_succ]
    have hR9 := Kd.R_grown2 HRx rfl (grown_row (g := W2.heap.size) (w := Wx) (W := Wx) ⟨rfl, rfl, rfl, Nat.le_refl _, fun _ _ _ => rfl⟩ (nums .u8 TG).toArray) hne
    have hB9 := below_setRow HSx (W2.heap.size) hgx (nums .u8 TG).toArray
    obtain ⟨W9, hW9⟩ : ∃ W9, W9 = Wx.setRow (W2.heap.size) (nums .u8 TG).toArray := ⟨_, rfl⟩
    rw [← hW9] at hA9 hR9 hB9 ⊢
    have hS := hB9
    refine s_take 10 (_) hS rfl (by kernel_rfl) (by kernel_rfl) (by kernel_rfl) (fun _ _ _ h => h) rfl (fun w' hw' => BigFrame.run_assign _ rfl w') ?_
    simp only [Act.put, List.setIfInBounds_toArray, List.set_cons_zero, List.set_cons_succ]
    refine s_done (by kernel_rfl) ?_
    have HA9 := Lib.hid hA9
    have HR9 := Lib.hid (Kd.R_reads' hR9)
    have HB9 := Lib.hid hB9
    obtain ⟨g3, hg3⟩ : ∃ g3, g3 = W2.heap.size := ⟨_, rfl⟩
    have HG3 := Lib.hid hg3
  all_goals
    clear hWz hWt hWx hW9 hne HAx HRx hS hgx hA9 hR9 hB9 HSx HT HZ hR2 hB2
    have HK9 := Lib.hid (HAK.out.next HB9.out)
    have HW9 := Lib.hid (below_next HBd.out HB9.out)
    have HC9 : Hid (Kd.C (Kd.int .u8) W9 A2 72 S) := Lib.hid (by have h := HR9.out.2.2; rw [HSL.out] at h; exact h)
    have HL9 : Hid (72 ≤ c2) := Lib.hid HR9.out.2.1
    have HOP := Lib.hid (open_any K TG 3 3 (by decide) A2 c2 S W9 HKL.out HKB.out HTL.out HC9.out HSB.out HL9.out)
    rw [← HG3.out] at HA9 ⊢
    clear hg3 HAK HBd HB9 HR9
    go_wp2_with (first
      | ((with_reducible refine gate_dst (N := 25) rfl ?_); refine load_row rfl 26 _ rfl g1 rfl .u8 _ _ K HK9.out Try.underlying26 rfl (by rw [HKL.out]; kernel_rfl) ?_)
      | ((with_reducible refine gate_dst (N := 27) rfl ?_); refine load_row rfl 24 _ rfl g3 rfl .u8 _ _ TG HA9.out Try.underlying24 rfl (by rw [HTL.out]; kernel_rfl) ?_)
      | fail)
    refine HOP.out.mono ?_
    rintro e w10 ⟨hp, -⟩
    obtain ⟨Ax, cx, rfl, hlx, hCx, hB10⟩ := hp HTT.out
    rw [plainF_length K 3 S HSL.out, HVR.out]
    have HK10 := Lib.hid (HK9.out.next hB10)
    have HC10 := Lib.hid (Kd.C_below HC9.out hB10)
    have HW10 := Lib.hid (below_next HW9.out hB10)
    have HOZ := Lib.hid (open_any K (List.replicate 32 0) 3 3 (by decide) A2 c2 S w10 HKL.out HKB.out (by decide) HC10.out HSB.out HL9.out)
    clear hp hlx hCx hB10 HOP HK9 HC9 HW9 HA9
    go_wp2_with (first
      | ((with_reducible refine gate_dst (N := 33) rfl ?_); refine load_row rfl 26 _ rfl g1 rfl .u8 _ _ K HK10.out Try.underlying26 rfl (by rw [HKL.out]; kernel_rfl) ?_)
      | fail)
    refine HOZ.out.mono ?_
    rintro e w11 ⟨-, hp⟩
    obtain ⟨Ay, cy, rfl, hly, hCy, hB11⟩ := hp HTN.out
    have HK11 := Lib.hid (HK10.out.next hB11)
    have HC11 := Lib.hid (Kd.C_below HC10.out hB11)
    have HW11 := Lib.hid (below_next HW10.out hB11)
    have HCB := Lib.hid (close_bad K 3 5 3 none 0 0 w11 HKL.out (by decide))
    clear hp hly hCy hB11 HOZ HK10 HC10 HW10
    go_wp2_with (first
      | ((with_reducible refine gate_dst (N := 41) rfl ?_); refine load_row rfl 26 _ rfl g1 rfl .u8 _ _ K HK11.out Try.underlying26 rfl (by rw [HKL.out]; kernel_rfl) ?_)
      | fail)
    refine HCB.out.mono ?_
    rintro e w12 ⟨Aq, cq, rfl, hlq, hRq, hB12⟩
    have HC12 := Lib.hid (Kd.C_below HC11.out hB12)
    have HW12 := Lib.hid (below_next HW11.out hB12)
    clear hlq hRq hB12 HCB HK11 HC11 HW11
    go_wp2_with (first
      | ((with_reducible refine gate_dst (N := 12) rfl ?_); refine alloc_arr rfl 24 rfl .u8 (List.replicate 32 0) (fun w => Try.zeroValue24 w) (by first | (go_simp; done) | (go_simp; rfl)) ?_; intro w13 hA13 hB13)
      | ((with_reducible refine gate_store (t := 24) (p := 12) rfl ?_); refine store_arr rfl 24 _ _ rfl w12.heap.size .u8 (List.replicate 32 0) rfl (by rfl) 24 _ hA13 rfl (by kernel_rfl) ?_; intro w14 hA14 hw14; have hB14 := below_setRow hB13 w12.heap.size (Nat.le_refl _) (nums .u8 (List.replicate 32 0)).toArray; rw [← hw14] at hB14; have HC14 := Lib.hid (Kd.C_below HC12.out hB14); have HW14 := Lib.hid (below_next HW12.out hB14); obtain ⟨bs, os, es, hcs⟩ := C_cells HC14.out (by decide); have h7 := hcs 7 (by decide); rw [HS7.out] at h7; subst es; clear hw14 hA14 hB14 hA13 hB13 hcs)
      | fail)
    go_ret
    exact ⟨rfl, HW14.out⟩
end Go.Proofs.Ytoiiacbbfhlocaa.HEa
end
section
set_option linter.unusedVariables false
set_option linter.unusedSimpArgs false
namespace Go.Proofs.Ytoiiacbbfhlocaa.HEa
open Go.RowKit Go.Proofs.YtoiiacbbfhlocaaW.PrintWords Go.Proofs.YtoiiacbbfhlocaaW.PrintLast Go.Proofs.YtoiiacbbfhlocaaW.PrintMore Go.Proofs.Ytoiiacbbfhlocaa.Kit Go.Proofs.Ytoiiacbbfhlocaa.HHa Go.Proofs.Ytoiiacbbfhlocaa.HSa Go.Proofs.Ytoiiacbbfhlocaa.HAa Go.Proofs.Ytoiiacbbfhlocaa.HCa Go.Proofs.Ytoiiacbbfhlocaa.Cb
attribute [local go_sem ↓] Go.wp_at_zero Go.wp_at_succ
theorem sealF_bytes (kk plain : List Int) (f c : Int) (hk : Bytes kk) (hp : Bytes plain) (hf : 0 ≤ f ∧ f < 4294967296) (hc : 0 ≤ c ∧ c < 18446744073709551616) : Bytes (sealF kk f c plain) := by
  unfold sealF
  intro y hy
  rcases List.mem_append.1 hy with h | h
  · exact nN_bytes f c hf hc y (List.mem_of_mem_drop h)
  · exact xN_bytes _ _ _ (nN_length _ _ _) (fun z hz => hk z (List.mem_of_mem_take hz)) (nN_bytes f c hf hc) hp y h
attribute [local irreducible] tagF sealF xN nN encF verN plainF sumF padX inF hmF jN jF padK boxT Wl keyN bigL b4 dEnc dMac kkF
end Go.Proofs.Ytoiiacbbfhlocaa.HEa
end
section
set_option linter.unusedVariables false
set_option linter.unusedSimpArgs false
namespace Go.Proofs.Ytoiiacbbfhlocaa.HEa
open Go.RowKit Go.Proofs.Ytoiiacbbfhlocaa.Kit Go.Proofs.Ytoiiacbbfhlocaa.HAa Go.Proofs.Ytoiiacbbfhlocaa.HCa
theorem verN_big : ∀ (n : Nat) (x : Int) (t : List Int), 0 ≤ x → x < 256 ^ n → verN (bigL x n ++ t) n = x
  | 0, x, t, h0, h1 => by
    rw [Int.pow_zero] at h1
    unfold verN
    omega
  | n + 1, x, t, h0, h1 => by
    rw [Int.pow_succ] at h1
    have e : bigL x (n + 1) = bigL (x / 256) n ++ [x % 256] := rfl
    have hl : (bigL (x / 256) n).length = n := bigL_length n _
    rw [verN_succ, e, List.append_assoc, verN_big n (x / 256) ([x % 256] ++ t) (by omega) (by omega)]
    have hg : (bigL (x / 256) n ++ ([x % 256] ++ t)).getD n 0 = x % 256 := by
      rw [List.getD_eq_getElem?_getD, List.getElem?_append_right (by omega), hl, Nat.sub_self]
      rfl
    rw [hg]
    omega
theorem verN_seal (kk plain : List Int) (f c : Int) (hf : 0 ≤ f ∧ f < 4294967296) (hc : 0 ≤ c ∧ c < 18446744073709551616) : verN (sealF kk f c plain) 8 = c := by
  unfold sealF
  rw [← big8_drop f c hf hc]
  exact verN_big 8 c _ hc.1 (by have := hc.2; omega)
theorem seal_drop (kk plain : List Int) (f c : Int) : (sealF kk f c plain).drop 8 = xN (kk.take 16) (nN f c 12) plain plain.length := by
  unfold sealF
  exact List.drop_left' (by rw [List.length_drop, nN_length])
theorem plainF_seal (kk plain : List Int) (f c : Int) (hk : Bytes kk) (hp : Bytes plain) (hl : plain.length = 64) (hf : 0 ≤ f ∧ f < 4294967296) (hc : 0 ≤ c ∧ c < 18446744073709551616) : plainF kk f (sealF kk f c plain) = plain := by
  unfold plainF
  rw [verN_seal kk plain f c hf hc, seal_drop, ← hl]
  exact xN_back (kk.take 16) (nN f c 12) plain (nN_length _ _ _) (fun y hy => hk y (List.mem_of_mem_take hy)) (nN_bytes f c hf hc) hp
end Go.Proofs.Ytoiiacbbfhlocaa.HEa
end
section
set_option linter.unusedVariables false
set_option linter.unusedSimpArgs false
namespace Go.Proofs.Ytoiiacbbfhlocaa.HEa
open Go.RowKit Go.Proofs.YtoiiacbbfhlocaaW.PrintWords Go.Proofs.YtoiiacbbfhlocaaW.PrintLast Go.Proofs.YtoiiacbbfhlocaaW.PrintMore Go.Proofs.Ytoiiacbbfhlocaa.Kit Go.Proofs.Ytoiiacbbfhlocaa.HHa Go.Proofs.Ytoiiacbbfhlocaa.HSa Go.Proofs.Ytoiiacbbfhlocaa.HAa Go.Proofs.Ytoiiacbbfhlocaa.HCa Go.Proofs.Ytoiiacbbfhlocaa.Cb
attribute [local go_sem ↓] Go.wp_at_zero Go.wp_at_succ
attribute [local irreducible] tagF sealF xN nN encF verN plainF sumF padX inF hmF jN jF padK boxT Wl keyN bigL b4 dEnc dMac kkF
set_option maxHeartbeats 4000000 in
set_option maxRecDepth 100000 in
theorem sealBack_all (K : List Int) (b c : Int) (PL : List Int) (w : World) (hk : K.length = 48) (hkb : Bytes K) (hc : 0 ≤ c ∧ c < 18446744073709551616) (hl : PL.length = 64) (hpb : Bytes PL) :
    Calls Try.prog 3 #[.agg (nums .u8 K).toArray, .int .i64 b, .int .u64 c, .agg (nums .u8 PL).toArray] w (Tells7 w) := by
  obtain ⟨f, hf⟩ : ∃ f, f = b % 4294967296 := ⟨_, rfl⟩
  have hfb : 0 ≤ f ∧ f < 4294967296 := by omega
  obtain ⟨S, hSS⟩ : ∃ S, S = sealF K f c PL := ⟨_, rfl⟩
  obtain ⟨TG, hTG⟩ : ∃ T, T = tagF K f S := ⟨_, rfl⟩
  have HKL := Lib.hid hk
  have HPL := Lib.hid hl
  have HKB := Lib.hid hkb
  have HPB := Lib.hid hpb
  have HSL : Hid (S.length = 72) := Lib.hid (by rw [hSS]; rw [sealF_length, hl])
  have HTL : Hid (TG.length = 32) := Lib.hid (by rw [hTG]; exact tagF_length _ _ _)
  have HSB : Hid (Bytes S) := Lib.hid (by rw [hSS]; exact sealF_bytes K PL f c hkb hpb hfb hc)
  have HVR : Hid (verN S 8 = c) := Lib.hid (by rw [hSS]; exact verN_seal K PL f c hfb hc)
  have HPX : Hid (plainF K f S = PL) := Lib.hid (by rw [hSS]; exact plainF_seal K PL f c hkb hpb hl hfb hc)
  have HTT : Hid (tagF K f S = TG) := Lib.hid hTG.symm
  have HCL : Hid (∀ (W : World) {g : Nat}, Kd.C (Kd.int .u8) W (some ⟨g, 0, none⟩) 64 PL → Calls Try.prog 15 #[.agg (nums .u8 K).toArray, .int .i64 b, .int .u64 c, .slice (some ⟨g, 0, none⟩) 64 64] W (CloseOut K f S TG 0 W)) := Lib.hid (fun W g h => by
    have h := close_any K b f c hf.symm hc (some ⟨g, 0, none⟩) 64 PL W HKL.out HKB.out h (by decide)
    rw [← hSS, ← hTG] at h
    exact h)
  have HOP : Hid (∀ (W : World) (A : Option Addr) (c2 : Nat), Kd.C (Kd.int .u8) W A 72 S → 72 ≤ c2 → Calls Try.prog 16 #[.agg (nums .u8 K).toArray, .int .i64 b, .slice A 72 c2, .agg (nums .u8 TG).toArray] W (OpenPost TG TG PL c W)) := Lib.hid (fun W A c2 h hc2 => by
    have h := open_any K TG b f hf.symm A c2 S W HKL.out HKB.out HTL.out h HSB.out hc2
    rw [HTT.out, HPX.out, HVR.out] at h
    exact h)
  clear hk hkb hl hpb hf hfb hSS hTG hc
  go_enter Try.func3, Try.ntmps3
  go_wp2_with (first
    | ((with_reducible refine gate_dst (N := 4) rfl ?_); refine arr_new rfl 26 .u8 K (by first | (go_simp; done) | (go_simp; rfl)) ?_; intro w1 hA1 hB1; have HA1 := Lib.hid hA1; have HB1 := Lib.hid hB1; clear hA1 hB1)
    | ((with_reducible refine gate_dst (N := 7) rfl ?_); refine arr_new rfl 28 .u8 PL (by first | (go_simp; done) | (go_simp; rfl)) ?_; intro w4 hA2 hB2; have HT2 := Lib.hid hA2; have HA2 := Lib.hid (HA1.out.next hB2); have HB2 := Lib.hid (below_next HB1.out hB2); clear hA2 hB2)
    | fail)
  generalize w1.heap.size = g7 at *
  generalize w.heap.size = g4 at HA2 ⊢
  have HAK := HA2.out.drew
  have HAP := HT2.out.drew
  have HBd := Lib.hid (below_drew (by exact HB2.out))
  clear HA1 HB1 HA2 HT2 HB2
  refine s_region (fun u => Below w4.drew.heap.size w4.drew u) (by kernel_rfl) 13 (by kernel_rfl) (Below.refl _ _) (fun hS => ?_)
  generalize w4.drew = w4d at *
  refine s_take 0 (.agg (nums .u8 K).toArray) hS rfl (by kernel_rfl) (by kernel_rfl) (by kernel_rfl) (fun _ _ _ h => h) rfl (fun w' hw' => run_load_row 26 _ rfl g4 rfl .u8 _ _ K (HAK.next hw') Try.underlying26 rfl (by rw [HKL.out]; kernel_rfl)) ?_
  simp only [Act.put, List.setIfInBounds_toArray, List.set_cons_zero, List.set_cons_succ]
  refine s_take 1 (_) hS rfl (by kernel_rfl) (by kernel_rfl) (by kernel_rfl) (fun _ _ _ h => h) rfl (fun w' hw' => run_move_at _ rfl w') ?_
  simp only [Act.put, List.setIfInBounds_toArray, List.set_cons_zero, List.set_cons_succ]
  refine s_take 2 (_) hS rfl (by kernel_rfl) (by kernel_rfl) (by kernel_rfl) (fun _ _ _ h => h) rfl (fun w' hw' => run_move_at _ rfl w') ?_
  simp only [Act.put, List.setIfInBounds_toArray, List.set_cons_zero, List.set_cons_succ]
  refine s_take 3 (.slice (some ⟨g7, 0, none⟩) 64 64) hS rfl (by kernel_rfl) (by kernel_rfl) (by kernel_rfl) (fun _ _ _ h => h) rfl (fun w' hw' => by (unfold execOp; simp [go_sem, Act.put, Act.eval])) ?_
  simp only [Act.put, List.setIfInBounds_toArray, List.set_cons_zero, List.set_cons_succ]
  refine s_two 4 9 rfl rfl (by kernel_rfl) ?_ ?_
  rotate_left
  focus
    refine g_event (.pointer (some ⟨w4d.heap.size, 0, none⟩)) (w4d.alloc (.cells (nums .u8 (List.replicate 32 0)).toArray 24)) rfl (by (unfold execOp; simp [go_sem, Act.put, Act.eval]; first | done | rfl)) (below_alloc (hS) _) (fun hS_ => ?_)
    simp only [Act.put, List.setIfInBounds_toArray, List.set_cons_zero, List.set_cons_succ]
    obtain ⟨Wt, hWt⟩ : ∃ W, W = w4d.alloc (.cells (nums .u8 (List.replicate 32 0)).toArray 24) := ⟨_, rfl⟩
    have HT := Arr.new w4d .u8 24 (List.replicate 32 0)
    have hbWt := below_alloc (Below.refl w4d.heap.size w4d) (.cells (nums .u8 (List.replicate 32 0)).toArray 24)
    rw [← hWt] at HT hbWt hS_ ⊢
    have hSWt := hS_
    refine s_one 4 rfl (by kernel_rfl) ?_
    refine g_call rfl 15 _ _ Try.func15 (by kernel_rfl) rfl _ _ #[.agg (nums .u8 K).toArray, .int .i64 b, .int .u64 c, .slice (some ⟨g7, 0, none⟩) 64 64] rfl (by simp [Act.put, Act.eval]) (HCL.out Wt ((HAP.next (hSWt)).reads 64 HPL.out (by decide))) ?_
    rintro e W2 ⟨A2, c2, rfl, hl2, hR2, hB2⟩
    rw [HSL.out] at hl2 hR2 ⊢
    have hb2 := below_next (hSWt) hB2
    refine ⟨_, rfl, hb2, ?_⟩
    simp only [Act.put, List.setIfInBounds_toArray, List.set_cons_zero, List.set_cons_succ]
    obtain ⟨Wx, hWx⟩ : ∃ Wx, Wx = W2 := ⟨_, rfl⟩
    have HSx : Below w4d.heap.size w4d Wx := by rw [hWx]; exact hb2
    have HAx : Arr .u8 24 Wx (w4d.heap.size) (List.replicate 32 0) := by rw [hWx]; exact HT.next hB2
    have HRx : Kd.R (Kd.int .u8) 5 Wx w4d.heap.size (fun _ => True) (.slice A2 72 c2) S := by rw [hWx]; exact Kd.R_lower hR2 hSWt.size
    have hne : ∀ k, some (w4d.heap.size) = some k → some k ≠ (Value.slice A2 72 c2).ownBlock := fun k hk he => by injection hk with hk; have h1 := ((Kd.R_bound hR2).1 k he.symm).2.1; have h2 := HT.lt; omega
    have hgx : w4d.heap.size ≤ w4d.heap.size := Nat.le_refl _
    have hS := HSx
    rw [← hWx]
    refine s_take 5 (_) hS rfl (by kernel_rfl) (by kernel_rfl) (by kernel_rfl) (fun _ _ _ h => h) rfl (fun w' hw' => run_move_at _ rfl w') ?_
    simp only [Act.put, List.setIfInBounds_toArray, List.set_cons_zero, List.set_cons_succ]
    refine s_take 6 (.slice A2 72 c2) hS rfl (by kernel_rfl) (by kernel_rfl) (by kernel_rfl) (fun _ _ _ h => h) rfl (fun w' hw' => by (unfold execOp; simp [go_sem, Act.put, Act.eval])) ?_
    simp only [Act.put, List.setIfInBounds_toArray, List.set_cons_zero, List.set_cons_succ]
    refine s_take 7 (.agg (nums .u8 TG).toArray) hS rfl (by kernel_rfl) (by kernel_rfl) (by kernel_rfl) (fun _ _ _ h => h) rfl (fun w' hw' => by (unfold execOp; simp [go_sem, Act.put, Act.eval])) ?_
    simp only [Act.put, List.setIfInBounds_toArray, List.set_cons_zero, List.set_cons_succ]
    refine s_take 8 (.int .i64 0) hS rfl (by kernel_rfl) (by kernel_rfl) (by kernel_rfl) (fun _ _ _ h => h) rfl (fun w' hw' => by (unfold execOp; simp [go_sem, Act.put, Act.eval])) ?_
    simp only [Act.put, List.setIfInBounds_toArray, List.set_cons_zero, List.set_cons_succ]
    refine s_take 10 (_) hS rfl (by kernel_rfl) (by kernel_rfl) (by kernel_rfl) (fun _ _ _ h => h) rfl (fun w' hw' => BigFrame.run_assign _ rfl w') ?_
    simp only [Act.put, List.setIfInBounds_toArray, List.set_cons_zero, List.set_cons_succ]
    refine s_store_arr 11 rfl (by kernel_rfl) rfl 24 _ _ rfl (w4d.heap.size) .u8 TG rfl rfl 24 (List.replicate 32 0) HAx (by rw [HTL.out]; rfl) (by rw [HTL.out]; kernel_rfl) (below_setRow hS _ hgx _) (fun hA9 => ?_)
    simp only [Act.put, List.setIfInBounds_toArray, List.set_cons_zero, List.set_cons_succ]
    have hR9 := Kd.R_grown2 HRx rfl (grown_row (g := w4d.heap.size) (w := Wx) (W := Wx) ⟨rfl, rfl, rfl, Nat.le_refl _, fun _ _ _ => rfl⟩ (nums .u8 TG).toArray) hne
    have hB9 := below_setRow HSx (w4d.heap.size) hgx (nums .u8 TG).toArray
    obtain ⟨W9, hW9⟩ : ∃ W9, W9 = Wx.setRow (w4d.heap.size) (nums .u8 TG).toArray := ⟨_, rfl⟩
    rw [← hW9] at hA9 hR9 hB9 ⊢
    have hS := hB9
    refine s_take 12 (_) hS rfl (by kernel_rfl) (by kernel_rfl) (by kernel_rfl) (fun _ _ _ h => h) rfl (fun w' hw' => BigFrame.run_assign _ rfl w') ?_
    simp only [Act.put, List.setIfInBounds_toArray, List.set_cons_zero, List.set_cons_succ]
    refine s_done (by kernel_rfl) ?_
    have HA9 := Lib.hid hA9
    have HR9 := Lib.hid (Kd.R_reads' hR9)
    have HB9 := Lib.hid hB9
    obtain ⟨g3, hg3⟩ : ∃ g3, g3 = w4d.heap.size := ⟨_, rfl⟩
    have HG3 := Lib.hid hg3
  rotate_left
  focus
    have hS0 := hS.size
    refine g_call rfl 15 _ _ Try.func15 (by kernel_rfl) rfl _ _ #[.agg (nums .u8 K).toArray, .int .i64 b, .int .u64 c, .slice (some ⟨g7, 0, none⟩) 64 64] rfl (by simp [Act.put, Act.eval]) (HCL.out w4d ((HAP.next (hS)).reads 64 HPL.out (by decide))) ?_
    rintro e W2 ⟨A2, c2, rfl, hl2, hR2, hB2⟩
    rw [HSL.out] at hl2 hR2 ⊢
    have hb2 := below_next (hS) hB2
    refine ⟨_, rfl, hb2, ?_⟩
    simp only [Act.put, List.setIfInBounds_toArray, List.set_cons_zero, List.set_cons_succ]
    have hS := hb2
    refine s_take 5 (_) hS rfl (by kernel_rfl) (by kernel_rfl) (by kernel_rfl) (fun _ _ _ h => h) rfl (fun w' hw' => run_move_at _ rfl w') ?_
    simp only [Act.put, List.setIfInBounds_toArray, List.set_cons_zero, List.set_cons_succ]
    refine s_take 6 (.slice A2 72 c2) hS rfl (by kernel_rfl) (by kernel_rfl) (by kernel_rfl) (fun _ _ _ h => h) rfl (fun w' hw' => by (unfold execOp; simp [go_sem, Act.put, Act.eval])) ?_
    simp only [Act.put, List.setIfInBounds_toArray, List.set_cons_zero, List.set_cons_succ]
    refine s_take 7 (.agg (nums .u8 TG).toArray) hS rfl (by kernel_rfl) (by kernel_rfl) (by kernel_rfl) (fun _ _ _ h => h) rfl (fun w' hw' => by (unfold execOp; simp [go_sem, Act.put, Act.eval])) ?_
    simp only [Act.put, List.setIfInBounds_toArray, List.set_cons_zero, List.set_cons_succ]
    refine s_take 8 (.int .i64 0) hS rfl (by kernel_rfl) (by kernel_rfl) (by kernel_rfl) (fun _ _ _ h => h) rfl (fun w' hw' => by (unfold execOp; simp [go_sem, Act.put, Act.eval])) ?_
    simp only [Act.put, List.setIfInBounds_toArray, List.set_cons_zero, List.set_cons_succ]
    refine s_one 9 rfl (by kernel_rfl) ?_
    refine g_event (.pointer (some ⟨W2.heap.size, 0, none⟩)) (W2.alloc (.cells (nums .u8 (List.replicate 32 0)).toArray 24)) rfl (by (unfold execOp; simp [go_sem, Act.put, Act.eval]; first | done | rfl)) (below_alloc (hb2) _) (fun hS_ => ?_)
    simp only [Act.put, List.setIfInBounds_toArray, List.set_cons_zero, List.set_cons_succ]
    obtain ⟨Wt, hWt⟩ : ∃ W, W = W2.alloc (.cells (nums .u8 (List.replicate 32 0)).toArray 24) := ⟨_, rfl⟩
    have HT := Arr.new W2 .u8 24 (List.replicate 32 0)
    have hbWt := below_alloc (Below.refl W2.heap.size W2) (.cells (nums .u8 (List.replicate 32 0)).toArray 24)
    rw [← hWt] at HT hbWt hS_ ⊢
    have hSWt := hS_
    obtain ⟨Wx, hWx⟩ : ∃ Wx, Wx = Wt := ⟨_, rfl⟩
    have HSx : Below w4d.heap.size w4d Wx := by rw [hWx]; exact hSWt
    have HAx : Arr .u8 24 Wx (W2.heap.size) (List.replicate 32 0) := by rw [hWx]; exact HT
    have HRx : Kd.R (Kd.int .u8) 5 Wx w4d.heap.size (fun _ => True) (.slice A2 72 c2) S := by rw [hWx]; exact Kd.R_lower (Kd.R_below hR2 hbWt) hS0
    have hne : ∀ k, some (W2.heap.size) = some k → some k ≠ (Value.slice A2 72 c2).ownBlock := fun k hk he => by injection hk with hk; have h1 := ((Kd.R_bound hR2).1 k he.symm).2.2.1; omega
    have hgx : w4d.heap.size ≤ W2.heap.size := hb2.size
    have hS := HSx
    rw [← hWx]
    refine s_take 10 (_) hS rfl (by kernel_rfl) (by kernel_rfl) (by kernel_rfl) (fun _ _ _ h => h) rfl (fun w' hw' => BigFrame.run_assign _ rfl w') ?_
    simp only [Act.put, List.setIfInBounds_toArray, List.set_cons_zero, List.set_cons_succ]
    refine s_store_arr 11 rfl (by kernel_rfl) rfl 24 _ _ rfl (W2.heap.size) .u8 TG rfl rfl 24 (List.replicate 32 0) HAx (by rw [HTL.out]; rfl) (by rw [HTL.out]; kernel_rfl) (below_setRow hS _ hgx _) (fun hA9 => ?_)
    simp only [Act.put, List.setIfInBounds_toArray, List.set_cons_zero, List.set_cons_succ]
    have hR9 := Kd.R_grown2 HRx rfl (grown_row (g := W2.heap.size) (w := Wx) (W := Wx) ⟨rfl, rfl, rfl, Nat.le_refl _, fun _ _ _ => rfl⟩ (nums .u8 TG).toArray) hne
    have hB9 := below_setRow HSx (W2.heap.size) hgx (nums .u8 TG).toArray
    obtain ⟨W9, hW9⟩ : ∃ W9, W9 = Wx.setRow (W2.heap.size) (nums .u8 TG).toArray := ⟨_, rfl⟩
    rw [← hW9] at hA9 hR9 hB9 ⊢
    have hS := hB9
    refine s_take 12 (_) hS rfl (by kernel_rfl) (by kernel_rfl) (by kernel_rfl) (fun _ _ _ h => h) rfl (fun w' hw' => BigFrame.run_assign _ rfl w') ?_
    simp only [Act.put, List.setIfInBounds_toArray, List.set_cons_zero, List.set_cons_succ]
    refine s_done (by kernel_rfl) ?_
    have HA9 := Lib.hid hA9
    have HR9 := Lib.hid (Kd.R_reads' hR9)
    have HB9 := Lib.hid hB9
    obtain ⟨g3, hg3⟩ : ∃ g3, g3 = W2.heap.size := ⟨_, rfl⟩
    have HG3 := Lib.hid hg3
  all_goals
    clear hWt hWx hW9 hne HAx HRx hS hgx hA9 hR9 hB9 HSx HT hR2 hB2
    have HK9 := Lib.hid (HAK.next HB9.out)
    have HP9 := Lib.hid (HAP.next HB9.out)
    have HW9 := Lib.hid (below_next HBd.out HB9.out)
    have HC9 : Hid (Kd.C (Kd.int .u8) W9 A2 72 S) := Lib.hid (by have h := HR9.out.2.2; rw [HSL.out] at h; exact h)
    have HL9 : Hid (72 ≤ c2) := Lib.hid HR9.out.2.1
    rw [← HG3.out] at HA9 ⊢
    clear hg3 HAK HAP HBd HB9 HR9
    go_wp2_with (first
      | ((with_reducible refine gate_dst (N := 25) rfl ?_); refine load_row rfl 26 _ rfl g4 rfl .u8 _ _ K HK9.out Try.underlying26 rfl (by rw [HKL.out]; kernel_rfl) ?_)
      | ((with_reducible refine gate_dst (N := 28) rfl ?_); refine load_row rfl 24 _ rfl g3 rfl .u8 _ _ TG HA9.out Try.underlying24 rfl (by rw [HTL.out]; kernel_rfl) ?_)
      | fail)
    refine (HOP.out W9 A2 c2 HC9.out HL9.out).mono ?_
    rintro e w10 ⟨hp, -⟩
    obtain ⟨Ax, cx, rfl, hlx, hCx, hB10⟩ := hp rfl
    rw [HPL.out] at hlx hCx ⊢
    have HX10 := Lib.hid hCx
    have HP10 := Lib.hid (HP9.out.next hB10)
    have HW10 := Lib.hid (below_next HW9.out hB10)
    clear hp hlx hCx hB10 HK9 HC9 HW9 HA9 HP9
    go_wp2_with fail
    refine chain_region (by kernel_rfl) 27 (by kernel_rfl) ?_
    refine chain_take 0 (_) rfl (by kernel_rfl) (by kernel_rfl) (by kernel_rfl) (fun _ _ _ h => h) rfl (fun w' hw' => run_move_at _ rfl w') ?_
    simp only [Act.put, List.setIfInBounds_toArray, List.set_cons_zero, List.set_cons_succ]
    refine chain_take 1 (.bool true) rfl (by kernel_rfl) (by kernel_rfl) (by kernel_rfl) (fun _ _ _ h => h) rfl (fun w' hw' => by (unfold execOp; simp [go_sem, Act.put, Act.eval])) ?_
    simp only [Act.put, List.setIfInBounds_toArray, List.set_cons_zero, List.set_cons_succ]
    refine chain_take 2 (_) rfl (by kernel_rfl) (by kernel_rfl) (by kernel_rfl) (fun _ _ _ h => h) rfl (fun w' hw' => run_move_at _ rfl w') ?_
    simp only [Act.put, List.setIfInBounds_toArray, List.set_cons_zero, List.set_cons_succ]
    refine chain_take 3 (_) rfl (by kernel_rfl) (by kernel_rfl) (by kernel_rfl) (fun _ _ _ h => h) rfl (fun w' hw' => run_move_at _ rfl w') ?_
    simp only [Act.put, List.setIfInBounds_toArray, List.set_cons_zero, List.set_cons_succ]
    refine chain_take 4 (.string (strOfNums PL)) rfl (by kernel_rfl) (by kernel_rfl) (by kernel_rfl) (fun _ _ _ h => h) rfl (fun w' hw' => by (have hc0 := Kd.C_string (P := Try.prog) (dst := 9) (c := cx) Try.underlying29 Try.underlying5 Try.underlying9 (Kd.C_below (Kd.C_drew HX10.out) hw'); unfold execOp; simp [go_sem, Act.put, Act.eval, hc0])) ?_
    simp only [Act.put, List.setIfInBounds_toArray, List.set_cons_zero, List.set_cons_succ]
    refine chain_take 5 (.slice (some ⟨g7, 0, none⟩) 64 64) rfl (by kernel_rfl) (by kernel_rfl) (by kernel_rfl) (fun _ _ _ h => h) rfl (fun w' hw' => by (unfold execOp; simp [go_sem, Act.put, Act.eval])) ?_
    simp only [Act.put, List.setIfInBounds_toArray, List.set_cons_zero, List.set_cons_succ]
    refine chain_take 6 (.string (strOfNums PL)) rfl (by kernel_rfl) (by kernel_rfl) (by kernel_rfl) (fun _ _ _ h => h) rfl (fun w' hw' => by (have hc0 := Kd.C_string (P := Try.prog) (dst := 9) (c := 64) Try.underlying29 Try.underlying5 Try.underlying9 ((HP10.out.drew.next hw').reads 64 HPL.out (by decide)); unfold execOp; simp [go_sem, Act.put, Act.eval, hc0])) ?_
    simp only [Act.put, List.setIfInBounds_toArray, List.set_cons_zero, List.set_cons_succ]
    refine chain_take 7 (.bool true) rfl (by kernel_rfl) (by kernel_rfl) (by kernel_rfl) (fun _ _ _ h => h) rfl (fun w' hw' => by (unfold execOp; simp [go_sem, Act.put, Act.eval])) ?_
    simp only [Act.put, List.setIfInBounds_toArray, List.set_cons_zero, List.set_cons_succ]
    refine chain_take 8 (.bool true) rfl (by kernel_rfl) (by kernel_rfl) (by kernel_rfl) (fun _ _ _ h => h) rfl (fun w' hw' => by (unfold execOp; simp [go_sem, Act.put, Act.eval])) ?_
    simp only [Act.put, List.setIfInBounds_toArray, List.set_cons_zero, List.set_cons_succ]
    refine chain_take 9 (_) rfl (by kernel_rfl) (by kernel_rfl) (by kernel_rfl) (fun _ _ _ h => h) rfl (fun w' hw' => run_move_at _ rfl w') ?_
    simp only [Act.put, List.setIfInBounds_toArray, List.set_cons_zero, List.set_cons_succ]
    refine chain_take 10 (_) rfl (by kernel_rfl) (by kernel_rfl) (by kernel_rfl) (fun _ _ _ h => h) rfl (fun w' hw' => run_move_at _ rfl w') ?_
    simp only [Act.put, List.setIfInBounds_toArray, List.set_cons_zero, List.set_cons_succ]
    refine chain_take 11 (_) rfl (by kernel_rfl) (by kernel_rfl) (by kernel_rfl) (fun _ _ _ h => h) rfl (fun w' hw' => run_move_at _ rfl w') ?_
    simp only [Act.put, List.setIfInBounds_toArray, List.set_cons_zero, List.set_cons_succ]
    refine chain_take 12 (.bool true) rfl (by kernel_rfl) (by kernel_rfl) (by kernel_rfl) (fun _ _ _ h => h) rfl (fun w' hw' => by (unfold execOp; simp [go_sem, Act.put, Act.eval])) ?_
    simp only [Act.put, List.setIfInBounds_toArray, List.set_cons_zero, List.set_cons_succ]
    refine chain_take 13 (.bool true) rfl (by kernel_rfl) (by kernel_rfl) (by kernel_rfl) (fun _ _ _ h => h) rfl (fun w' hw' => by (unfold execOp; simp [go_sem, Act.put, Act.eval])) ?_
    simp only [Act.put, List.setIfInBounds_toArray, List.set_cons_zero, List.set_cons_succ]
    refine chain_take 14 (_) rfl (by kernel_rfl) (by kernel_rfl) (by kernel_rfl) (fun _ _ _ h => h) rfl (fun w' hw' => run_move_at _ rfl w') ?_
    simp only [Act.put, List.setIfInBounds_toArray, List.set_cons_zero, List.set_cons_succ]
    refine chain_take 15 (_) rfl (by kernel_rfl) (by kernel_rfl) (by kernel_rfl) (fun _ _ _ h => h) rfl (fun w' hw' => run_move_at _ rfl w') ?_
    simp only [Act.put, List.setIfInBounds_toArray, List.set_cons_zero, List.set_cons_succ]
    refine chain_take 16 (.bool true) rfl (by kernel_rfl) (by kernel_rfl) (by kernel_rfl) (fun _ _ _ h => h) rfl (fun w' hw' => by (unfold execOp; simp [go_sem, Act.put, Act.eval])) ?_
    simp only [Act.put, List.setIfInBounds_toArray, List.set_cons_zero, List.set_cons_succ]
    refine chain_take 17 (.bool true) rfl (by kernel_rfl) (by kernel_rfl) (by kernel_rfl) (fun _ _ _ h => h) rfl (fun w' hw' => by (unfold execOp; simp [go_sem, Act.put, Act.eval])) ?_
    simp only [Act.put, List.setIfInBounds_toArray, List.set_cons_zero, List.set_cons_succ]
    refine chain_take 18 (_) rfl (by kernel_rfl) (by kernel_rfl) (by kernel_rfl) (fun _ _ _ h => h) rfl (fun w' hw' => run_move_at _ rfl w') ?_
    simp only [Act.put, List.setIfInBounds_toArray, List.set_cons_zero, List.set_cons_succ]
    refine chain_take 19 (_) rfl (by kernel_rfl) (by kernel_rfl) (by kernel_rfl) (fun _ _ _ h => h) rfl (fun w' hw' => run_move_at _ rfl w') ?_
    simp only [Act.put, List.setIfInBounds_toArray, List.set_cons_zero, List.set_cons_succ]
    refine chain_take 20 (.int .i64 72) rfl (by kernel_rfl) (by kernel_rfl) (by kernel_rfl) (fun _ _ _ h => h) rfl (fun w' hw' => by (unfold execOp; simp [go_sem, Act.put, Act.eval])) ?_
    simp only [Act.put, List.setIfInBounds_toArray, List.set_cons_zero, List.set_cons_succ]
    refine chain_take 21 (.bool true) rfl (by kernel_rfl) (by kernel_rfl) (by kernel_rfl) (fun _ _ _ h => h) rfl (fun w' hw' => by (unfold execOp; simp [go_sem, Act.put, Act.eval])) ?_
    simp only [Act.put, List.setIfInBounds_toArray, List.set_cons_zero, List.set_cons_succ]
    refine chain_take 22 (.bool true) rfl (by kernel_rfl) (by kernel_rfl) (by kernel_rfl) (fun _ _ _ h => h) rfl (fun w' hw' => by (unfold execOp; simp [go_sem, Act.put, Act.eval])) ?_
    simp only [Act.put, List.setIfInBounds_toArray, List.set_cons_zero, List.set_cons_succ]
    refine chain_take 23 (_) rfl (by kernel_rfl) (by kernel_rfl) (by kernel_rfl) (fun _ _ _ h => h) rfl (fun w' hw' => run_move_at _ rfl w') ?_
    simp only [Act.put, List.setIfInBounds_toArray, List.set_cons_zero, List.set_cons_succ]
    refine chain_call 24 rfl (by kernel_rfl) rfl 17 _ _ Try.func17 (by kernel_rfl) rfl _ _ #[] rfl (by simp [Act.put, Act.eval]) (knows7_any _) ?_
    rintro e w15 ⟨rfl, hB15⟩
    refine ⟨_, rfl, hB15, ?_⟩
    simp only [Act.put, List.setIfInBounds_toArray, List.set_cons_zero, List.set_cons_succ]
    refine chain_take 25 (.bool true) rfl (by kernel_rfl) (by kernel_rfl) (by kernel_rfl) (fun _ _ _ h => h) rfl (fun w' hw' => by (unfold execOp; simp [go_sem, Act.put, Act.eval])) ?_
    simp only [Act.put, List.setIfInBounds_toArray, List.set_cons_zero, List.set_cons_succ]
    refine chain_take 26 (_) rfl (by kernel_rfl) (by kernel_rfl) (by kernel_rfl) (fun _ _ _ h => h) rfl (fun w' hw' => BigFrame.run_assign _ rfl w') ?_
    simp only [Act.put, List.setIfInBounds_toArray, List.set_cons_zero, List.set_cons_succ]
    refine chain_done (by kernel_rfl) ?_
    have HW15 := Lib.hid (below_next (below_drew HW10.out) hB15)
    clear hB15
    go_wp2_with fail
    go_ret
    exact ⟨rfl, HW15.out⟩
theorem sealBack_walk (a0 : List Int) (a1 a2 : Int) (a3 : List Int) (w : World) (l0 : a0.length = 48) (b0 : Bytes a0) (w1 : (Lit.int .i64 a1).wf = true) (w2 : (Lit.int .u64 a2).wf = true) (l3 : a3.length = 64) (b3 : Bytes a3) :
    Calls Try.prog 3 #[.agg (nums .u8 a0).toArray, .int .i64 a1, .int .u64 a2, .agg (nums .u8 a3).toArray] w fun e w' => e = .returned (.bool true) ∧ Below w.heap.size w w' :=
  sealBack_all a0 a1 a2 a3 w l0 b0 (Com.rangeu64 w2) l3 b3
end Go.Proofs.Ytoiiacbbfhlocaa.HEa
end
