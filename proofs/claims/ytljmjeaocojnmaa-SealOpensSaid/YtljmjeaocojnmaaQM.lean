/- Texts of this claim, laid together by a program of this session (wip/tools/pack2.py). -/
import Derived.WideKeyArr2
import Derived.ProofKit
import Derived.ChangeSame
import Derived.WideShapes
import Derived.Test.YtljmjeaocojnmaaQA
import Derived.Test.YtljmjeaocojnmaaQR
import Derived.Test.YtljmjeaocojnmaaQB
import Derived.Test.YtljmjeaocojnmaaQC
import Derived.Test.YtljmjeaocojnmaaQD
import Derived.Test.YtljmjeaocojnmaaQE
import Derived.Test.YtljmjeaocojnmaaQF
import Derived.Test.YtljmjeaocojnmaaQG
import Derived.Test.YtljmjeaocojnmaaQH
import Derived.Test.YtljmjeaocojnmaaQI
import Derived.Test.YtljmjeaocojnmaaQJ
import Derived.Test.YtljmjeaocojnmaaQK
import Derived.Test.YtljmjeaocojnmaaQL
section
set_option linter.unusedVariables false
set_option linter.unusedSimpArgs false
namespace Go.Proofs.Ytljmjeaocojnmaa.HEa
open Go.RowKit Go.Proofs.YtljmjeaocojnmaaW.PrintWords Go.Proofs.YtljmjeaocojnmaaW.PrintLast Go.Proofs.YtljmjeaocojnmaaW.PrintMore Go.Proofs.Ytljmjeaocojnmaa.Kit Go.Proofs.Ytljmjeaocojnmaa.HHa Go.Proofs.Ytljmjeaocojnmaa.HSa Go.Proofs.Ytljmjeaocojnmaa.HAa Go.Proofs.Ytljmjeaocojnmaa.HCa
attribute [local go_sem ↓] Go.wp_at_zero Go.wp_at_succ
attribute [local irreducible] tagF sealF xN nN encF verN plainF
theorem C_empty (w : World) : Kd.C (Kd.int .u8) w none 0 [] := ⟨rfl, by decide, fun h => absurd h (by decide)⟩
set_option maxHeartbeats 1000000 in
set_option maxRecDepth 100000 in
theorem open_bad (kk tg : List Int) (b : Int) (A2 : Option Addr) (n c2 : Nat) (w : World) (hk : kk.length = 48) (ht : tg.length = 32) (h : n ≠ 72) :
    Calls Try.prog 57 #[.agg (nums .u8 kk).toArray, .int .i64 b, .slice A2 n c2, .agg (nums .u8 tg).toArray] w (OpenOut [] 0 1 w) := by
  have HK := Lib.hid hk
  have HTL := Lib.hid ht
  clear hk ht
  have h' : (n : Int) ≠ 72 := by omega
  go_enter Try.func57, Try.ntmps57
  go_wp2_with (first
    | ((with_reducible refine gate_dst (N := 4) rfl ?_); refine arr_new rfl 87 .u8 kk (by first | (go_simp; done) | (go_simp; rfl)) ?_; intro w1 hA1 hB1; have HB1 := Lib.hid hB1; clear hA1 hB1)
    | ((with_reducible refine gate_dst (N := 7) rfl ?_); refine arr_new rfl 27 .u8 tg (by first | (go_simp; done) | (go_simp; rfl)) ?_; intro w2 hA2 hB2; have HB2 := Lib.hid (below_next HB1.out hB2); clear hA2 hB2)
    | fail)
  go_ret3
  exact ⟨none, 0, rfl, Nat.le_refl _, C_empty _, HB2.out⟩
end Go.Proofs.Ytljmjeaocojnmaa.HEa
end
section
set_option linter.unusedVariables false
set_option linter.unusedSimpArgs false
namespace Go.Proofs.Ytljmjeaocojnmaa.HEa
open Go.RowKit Go.Proofs.YtljmjeaocojnmaaW.PrintWords Go.Proofs.YtljmjeaocojnmaaW.PrintLast Go.Proofs.YtljmjeaocojnmaaW.PrintMore Go.Proofs.Ytljmjeaocojnmaa.Kit Go.Proofs.Ytljmjeaocojnmaa.HHa Go.Proofs.Ytljmjeaocojnmaa.HSa Go.Proofs.Ytljmjeaocojnmaa.HAa Go.Proofs.Ytljmjeaocojnmaa.HCa Go.Proofs.Ytljmjeaocojnmaa.Cb
attribute [local go_sem ↓] Go.wp_at_zero Go.wp_at_succ
attribute [local irreducible] tagF sealF xN nN encF verN plainF sumF padX inF hmF jN jF padK boxT Wl keyN bigL b4
def ShowOut (X : List Int) (V : Int) (w : World) (e : Ending) (w' : World) : Prop :=
  ∃ A c, e = .returned (.tuple #[.slice A 64 c, .int .u64 V]) ∧ 64 ≤ c ∧ Kd.C (Kd.int .u8) w' A 64 X ∧ Below w.heap.size w w'
set_option maxHeartbeats 4000000 in
set_option maxRecDepth 100000 in
theorem rshow_any (g : Nat) (enc mac : List Int) (Ae : Option Addr) (ce : Nat) (Am : Option Addr) (cm ge gm : Nat) (b : Int) (hb : -9223372036854775808 ≤ b ∧ b < 9223372036854775808) (A3 : Option Addr) (c3 : Nat) (raw : List Int) (w : World)
    (hK : KeyR w g enc mac Ae ce Am cm ge gm) (h16 : enc.length = 16) (hkb : Bytes enc) (hr : Kd.C (Kd.int .u8) w A3 72 raw) (hrb : Bytes raw) (hc3 : 72 ≤ c3) :
    Calls Try.prog 58 #[.pointer (some ⟨g, 0, none⟩), .int .i64 b, .slice A3 72 c3] w (ShowOut (xN enc (nN (b % 4294967296) (verN raw 8) 12) (raw.drop 8) 64) (verN raw 8) w) := by
  have hrl : raw.length = 72 := hr.1
  have hf : 0 ≤ b % 4294967296 ∧ b % 4294967296 < 4294967296 := by omega
  obtain ⟨V, hV⟩ : ∃ V, V = verN raw 8 := ⟨_, rfl⟩
  have hVb : 0 ≤ V ∧ V < 18446744073709551616 := by rw [hV]; exact verN_8 raw hrb
  obtain ⟨N, hN⟩ : ∃ N, N = nN (b % 4294967296) V 12 := ⟨_, rfl⟩
  obtain ⟨X, hX⟩ : ∃ X, X = xN enc N (raw.drop 8) 64 := ⟨_, rfl⟩
  have hdl : (raw.drop 8).length = 64 := by rw [List.length_drop, hrl]
  have HNL : Hid (N.length = 12) := Lib.hid (by rw [hN]; exact nN_length _ _ _)
  have hNB : Bytes N := by rw [hN]; exact nN_bytes _ V hf hVb
  have HXL : Hid (X.length = 64) := Lib.hid (by rw [hX, xN_length, hdl])
  have HNC : Hid (∀ W, Calls Try.prog 26 #[.int .i64 b, .int .u64 V] W (OutB W N)) := Lib.hid (fun W => by rw [hN]; exact rnonce_any b V W hb hVb)
  have HRB := Lib.hid hrb
  have HR := Lib.hid hr
  have HK := Lib.hid hK
  have HVV := Lib.hid hV
  have HC3 := Lib.hid hc3
  have HCQ : Hid (∀ (AD : Option Addr) (cD : Nat) (A2 : Option Addr) (c2 : Nat) (W : World), KeyR W g enc mac Ae ce Am cm ge gm → Kd.C (Kd.int .u8) W AD 64 (raw.drop 8) → 64 ≤ cD → Kd.C (Kd.int .u8) W A2 12 N → 12 ≤ c2 → Calls Try.prog 25 #[.pointer (some ⟨ge, 0, none⟩), .slice A2 12 c2, .slice AD 64 cD] W (OutB W X)) := Lib.hid (fun AD cD A2 c2 W hKW hD hcD h h2 => by
    obtain ⟨Aw, cw, Ab, cb, hS⟩ := hKW.E
    have h := rcode_any ge enc Aw cw Ab cb A2 c2 N AD cD (raw.drop 8) W h16 hkb HNL.out hNB (by rw [hdl]; decide) hS h h2 (by rw [hdl]; exact hD) (by rw [hdl]; exact hcD)
    rw [hdl, ← hX] at h
    exact h)
  rw [← hV, ← hN, ← hX]
  obtain ⟨hV0, hV1⟩ := hVb
  obtain ⟨b2, o2, e2, hcells⟩ := C_cells hr (by decide)
  have HCE := Lib.hid hcells
  subst e2
  clear hN hX hNB hf hK h16 hkb hr hrb hrl hdl hb hV hcells
  go_enter Try.func58, Try.ntmps58
  go_wp2_with fail
  go_loopw [8, 9] (fun v iv wr => ∃ (k : Nat) (p : Int), v = .int .u64 p ∧ iv = .int .i64 k ∧ k ≤ 8 ∧ Hid (p = verN raw k) ∧ w = wr) (fun _ iv _ => 8 - (intOf iv).toNat)
  case atStart =>
    refine ⟨0, 0, rfl, rfl, by omega, Lib.hid (by unfold verN; rfl), ?_⟩
    first | exact True.intro | rfl
  case round =>
    obtain ⟨k, p, rfl, rfl, hk8, HP, rfl⟩ := hrel
    by_cases hk : k < 8
    · have hx := HCE.out k (by omega)
      obtain ⟨x, hxe⟩ : ∃ x, x = raw.getD k 0 := ⟨_, rfl⟩
      have hxb := byte_at HRB.out k
      rw [← hxe] at hx hxb
      obtain ⟨hx0, hx1⟩ := hxb
      have hpb := verN_b raw HRB.out k
      rw [← HP.out] at hpb
      have hp56 : p < 72057594037927936 := by
        have h1 : (256 : Int) ^ k ≤ 256 ^ 7 := by
          have h2 : (256 : Nat) ^ k ≤ 256 ^ 7 := Nat.pow_le_pow_right (by decide) (by omega)
          exact_mod_cast h2
        have h3 : (256 : Int) ^ 7 = 72057594037927936 := by decide
        omega
      have hp0 := hpb.1
      have HXE' := Lib.hid hxe
      clear hpb hxe
      go_wp2_with fail
      go_roundw
      case rel =>
        refine ⟨k + 1, _, rfl, by go_num, by omega, Lib.hid ?_, ?_⟩
        · rw [verN_succ, ← HP.out, ← HXE'.out]
        · first | exact True.intro | rfl
      case measure => simp [intOf]; omega
    · have hk' : k = 8 := by omega
      subst hk'
      have hpv : V = p := by rw [HP.out, HVV.out]
      subst hpv
      obtain ⟨W5, hW5⟩ : ∃ W5 : World, W5 = w := ⟨_, rfl⟩
      subst hW5
      obtain ⟨AD, hAD⟩ : ∃ AD, AD = (if c3 = 8 then (some ⟨b2, o2, none⟩ : Option Addr) else (some (⟨b2, o2, none⟩ : Addr)).map (·.add 8)) := ⟨_, rfl⟩
      have HSD : Hid (∀ w' : World, (Instr.slice 22 (.slice (some ⟨b2, o2, none⟩) 72 c3) (some (.int .i64 (8 : Int))) none none).run Try.prog w' = .ok (.slice AD 64 (c3 - 8)) w') := Lib.hid (fun w' => by
        rw [hAD]
        exact slice_from 22 5 Try.underlying22 (by kernel_rfl) _ 72 c3 8 8 rfl (by decide) hc3 w')
      have HD5 : Hid (Kd.C (Kd.int .u8) W5 AD 64 (raw.drop 8)) := Lib.hid (by
        rw [hAD]
        have h := Kd.C_drop (m := 8) (c := c3) (by rw [HR.out.1]; exact HR.out) (by rw [HR.out.1]; decide) (by rw [HR.out.1]; exact hc3)
        rw [List.length_drop, HR.out.1] at h
        exact h)
      have HKR := Lib.hid HK.out.drew
      have HBd : Hid (Below W5.heap.size W5 W5.drew) := Lib.hid (below_drew (Below.refl _ _))
      have HCO : Hid (∀ (A2 : Option Addr) (c2 : Nat) (W : World), Below W5.drew.heap.size W5.drew W → Kd.C (Kd.int .u8) W A2 12 N → 12 ≤ c2 → Calls Try.prog 25 #[.pointer (some ⟨ge, 0, none⟩), .slice A2 12 c2, .slice AD 64 (c3 - 8)] W (OutB W X)) := Lib.hid (fun A2 c2 W hbb h h2 => HCQ.out AD (c3 - 8) A2 c2 W (HKR.out.next hbb) (Kd.C_below (Kd.C_drew HD5.out) hbb) (by omega) h h2)
      clear hAD
      go_wp2_with fail
      refine s_region (fun u => Below W5.drew.heap.size W5.drew u) (by kernel_rfl) 13 (by kernel_rfl) (Below.refl _ _) (fun hS => ?_)
      generalize W5.drew = wd at *
      refine s_take 0 (_) hS rfl (by kernel_rfl) (by kernel_rfl) (by kernel_rfl) (fun _ _ _ h => h) rfl (fun w' hw' => run_move_at _ rfl w') ?_
      simp only [Act.put, List.setIfInBounds_toArray, List.set_cons_zero, List.set_cons_succ]
      refine s_take 1 (.pointer (some ⟨g, 0, none⟩)) hS rfl (by kernel_rfl) (by kernel_rfl) (by kernel_rfl) (fun _ _ _ h => h) rfl (fun w' hw' => by (unfold execOp; simp [go_sem, Act.put, Act.eval])) ?_
      simp only [Act.put, List.setIfInBounds_toArray, List.set_cons_zero, List.set_cons_succ]
      refine s_take 2 (.pointer (some ⟨g, 2, none⟩)) hS rfl (by kernel_rfl) (by kernel_rfl) (by kernel_rfl) (fun _ _ _ h => h) rfl (fun w' hw' => by (unfold execOp; simp [go_sem, Act.put, Act.eval])) ?_
      simp only [Act.put, List.setIfInBounds_toArray, List.set_cons_zero, List.set_cons_succ]
      refine s_take 3 (.pointer (some ⟨ge, 0, none⟩)) hS rfl (by kernel_rfl) (by kernel_rfl) (by kernel_rfl) (fun _ _ _ h => h) rfl (fun w' hw' => by (have hc0 := (HKR.out.next hw').cell.2.2.1; unfold execOp; simp [go_sem, Act.put, Act.eval, hc0])) ?_
      simp only [Act.put, List.setIfInBounds_toArray, List.set_cons_zero, List.set_cons_succ]
      refine s_take 4 (_) hS rfl (by kernel_rfl) (by kernel_rfl) (by kernel_rfl) (fun _ _ _ h => h) rfl (fun w' hw' => run_move_at _ rfl w') ?_
      simp only [Act.put, List.setIfInBounds_toArray, List.set_cons_zero, List.set_cons_succ]
      refine s_take 5 (_) hS rfl (by kernel_rfl) (by kernel_rfl) (by kernel_rfl) (fun _ _ _ h => h) rfl (fun w' hw' => run_move_at _ rfl w') ?_
      simp only [Act.put, List.setIfInBounds_toArray, List.set_cons_zero, List.set_cons_succ]
      refine s_take 7 (_) hS rfl (by kernel_rfl) (by kernel_rfl) (by kernel_rfl) (fun _ _ _ h => h) rfl (fun w' hw' => run_move_at _ rfl w') ?_
      simp only [Act.put, List.setIfInBounds_toArray, List.set_cons_zero, List.set_cons_succ]
      refine s_take 8 (.slice AD 64 (c3 - 8)) hS rfl (by kernel_rfl) (by kernel_rfl) (by kernel_rfl) (fun _ _ _ h => h) rfl (fun w' hw' => by (have hc0 := HSD.out w'; unfold execOp; simp [go_sem, Act.put, Act.eval, hc0])) ?_
      simp only [Act.put, List.setIfInBounds_toArray, List.set_cons_zero, List.set_cons_succ]
      refine s_take 10 (_) hS rfl (by kernel_rfl) (by kernel_rfl) (by kernel_rfl) (fun _ _ _ h => h) rfl (fun w' hw' => run_move_at _ rfl w') ?_
      simp only [Act.put, List.setIfInBounds_toArray, List.set_cons_zero, List.set_cons_succ]
      refine s_one 6 rfl (by kernel_rfl) ?_
      refine g_call rfl 26 _ _ Try.func26 (by kernel_rfl) rfl _ _ #[.int .i64 b, .int .u64 V] rfl (by simp [Act.put, Act.eval]) (HNC.out _) ?_
      rintro e W2 ⟨v2, rfl, hO2, hB2⟩
      have hb2 := below_next hS hB2
      obtain ⟨A2, c2, e2, hl2, hr2⟩ := Kd.R_reads hO2
      rw [HNL.out] at e2 hl2 hr2
      subst e2
      refine ⟨_, rfl, hb2, ?_⟩
      simp only [Act.put, List.setIfInBounds_toArray, List.set_cons_zero, List.set_cons_succ]
      refine s_one 9 rfl (by kernel_rfl) ?_
      refine g_call rfl 25 _ _ Try.func25 (by kernel_rfl) rfl _ _ #[.pointer (some ⟨ge, 0, none⟩), .slice A2 12 c2, .slice AD 64 (c3 - 8)] rfl (by simp [Act.put, Act.eval]) (HCO.out _ _ _ hb2 hr2 hl2) ?_
      rintro e W3 ⟨v3, rfl, hO3, hB3⟩
      have hb3 := below_next hb2 hB3
      obtain ⟨A9, c9, e9, hl9, hr9⟩ := Kd.R_reads hO3
      rw [HXL.out] at e9 hl9 hr9
      subst e9
      refine ⟨_, rfl, hb3, ?_⟩
      simp only [Act.put, List.setIfInBounds_toArray, List.set_cons_zero, List.set_cons_succ]
      have hS := hb3
      refine s_take 11 (_) hS rfl (by kernel_rfl) (by kernel_rfl) (by kernel_rfl) (fun _ _ _ h => h) rfl (fun w' hw' => BigFrame.run_assign _ rfl w') ?_
      simp only [Act.put, List.setIfInBounds_toArray, List.set_cons_zero, List.set_cons_succ]
      refine s_take 12 (_) hS rfl (by kernel_rfl) (by kernel_rfl) (by kernel_rfl) (fun _ _ _ h => h) rfl (fun w' hw' => BigFrame.run_assign _ rfl w') ?_
      simp only [Act.put, List.setIfInBounds_toArray, List.set_cons_zero, List.set_cons_succ]
      refine s_done (by kernel_rfl) ?_
      have HF1 := Lib.hid hr9
      have HF2 := Lib.hid hl9
      have HF3 := Lib.hid (HBd.out.trans (hb3.mono HBd.out.size))
      clear hr9 hl9 hb3 hS hO3 hB3
      go_wp2_with fail
      exact bodyPost_ret (results_tmp2 rfl _ _ _) rfl ⟨A9, c9, rfl, HF2.out, HF1.out, HF3.out⟩
end Go.Proofs.Ytljmjeaocojnmaa.HEa
end
section
set_option linter.unusedVariables false
set_option linter.unusedSimpArgs false
namespace Go.Proofs.Ytljmjeaocojnmaa.HHa
open Go.RowKit Go.Proofs.YtljmjeaocojnmaaW.PrintWords Go.Proofs.YtljmjeaocojnmaaW.PrintLast Go.Proofs.YtljmjeaocojnmaaW.PrintMore Go.Proofs.Ytljmjeaocojnmaa.Kit Go.Proofs.Ytljmjeaocojnmaa.HSa
attribute [local go_sem ↓] Go.wp_at_zero Go.wp_at_succ
theorem map_inj : ∀ a b : List Int, Bytes a → Bytes b → (a.map fun n => UInt8.ofNat n.toNat) = (b.map fun n => UInt8.ofNat n.toNat) → a = b
  | [], [], _, _, _ => rfl
  | [], _ :: _, _, _, h => by simp at h
  | _ :: _, [], _, _, h => by simp at h
  | x :: a, y :: b, ha, hb, h => by
    simp only [List.map_cons, List.cons.injEq] at h
    have hx := ha x (by simp)
    have hy := hb y (by simp)
    have h2 := congrArg UInt8.toNat h.1
    simp only [UInt8.toNat_ofNat'] at h2
    have : x = y := by omega
    rw [this, map_inj a b (fun z hz => ha z (by simp [hz])) (fun z hz => hb z (by simp [hz])) h.2]
theorem str_inj (a b : List Int) (ha : Bytes a) (hb : Bytes b) (h : strOfNums a = strOfNums b) : a = b := by
  have h1 := congrArg (fun s : ByteArray => s.data.toList) h
  exact map_inj a b ha hb h1
def sameN (a b : List (List Int)) : Nat → Bool
  | 0 => decide (a.length = b.length)
  | k + 1 => sameN a b k && decide (a.getD k [] = b.getD k [])
theorem str_beq (x y : ByteArray) : (x.toList == y.toList) = decide (x = y) := by
  rw [Bool.eq_iff_iff, beq_iff_eq, decide_eq_true_iff, ByteArray.toList_eq, ByteArray.toList_eq]
  exact ⟨Go.WideShapes.bytes_inj, fun h => by rw [h]⟩
theorem part_same (a b : List Int) (ha : Bytes a) (hb : Bytes b) : decide (strOfNums a = strOfNums b) = decide (a = b) := by
  rw [Bool.eq_iff_iff, decide_eq_true_iff, decide_eq_true_iff]
  exact ⟨str_inj a b ha hb, fun h => by rw [h]⟩
attribute [local irreducible] sumF padX inF hmF jN jF iv consts allF comeN padK fillK kF sameN
end Go.Proofs.Ytljmjeaocojnmaa.HHa
end
section
set_option linter.unusedVariables false
set_option linter.unusedSimpArgs false
namespace Go.Proofs.Ytljmjeaocojnmaa.HEa
open Go.RowKit Go.Proofs.YtljmjeaocojnmaaW.PrintWords Go.Proofs.YtljmjeaocojnmaaW.PrintLast Go.Proofs.YtljmjeaocojnmaaW.PrintMore Go.Proofs.Ytljmjeaocojnmaa.Kit Go.Proofs.Ytljmjeaocojnmaa.HHa Go.Proofs.Ytljmjeaocojnmaa.HSa Go.Proofs.Ytljmjeaocojnmaa.HAa Go.Proofs.Ytljmjeaocojnmaa.HCa Go.Proofs.Ytljmjeaocojnmaa.Cb
attribute [local go_sem ↓] Go.wp_at_zero Go.wp_at_succ
theorem tagF_bytes (kk : List Int) (f : Int) (raw : List Int) : Bytes (tagF kk f raw) := by unfold tagF; exact hmF_bytes _ _
theorem run_neq_strs {P : Program} {o : Oper} {a : Act} (T : TypeId) (x y : Operand) (T2 : TypeId) (ho : o.op = .binOp .neq T x y T2) (xs ys : List Int) (hx : a.eval x = .string (strOfNums xs)) (hy : a.eval y = .string (strOfNums ys)) (hb : Bytes xs) (hb2 : Bytes ys) (w : World) :
    (execOp a.eval o).run P w = .ok (.value (.bool (!decide (xs = ys)))) w := by
  unfold execOp
  simp only [ho, hx, hy]
  have h := part_same xs ys hb hb2
  simp [go_sem, str_beq, h, Result.andThen]
attribute [local irreducible] tagF sealF xN nN encF verN plainF sumF padX inF hmF jN jF padK boxT Wl keyN bigL b4 dEnc dMac kkF
set_option maxHeartbeats 4000000 in
set_option maxRecDepth 100000 in
theorem sopens_few (K : List Int) (b : Int) (A2 : Option Addr) (n c2 : Nat) (raw tg : List Int) (rt : Bool) (w : World) (hk : K.length = 48) (hkb : Bytes K) (hb : -9223372036854775808 ≤ b ∧ b < 9223372036854775808) (hr : Kd.C (Kd.int .u8) w A2 n raw) (hc : n ≤ c2) (hl : n ≤ 200) (hrb : Bytes raw) (ht : tg.length = 32) (htb : Bytes tg) :
    Calls Try.prog 14 #[.agg (nums .u8 K).toArray, .int .i64 b, .slice A2 n c2, .agg (nums .u8 tg).toArray, .bool rt] w (Tells7 w) := by
  obtain ⟨f, hf⟩ : ∃ f, f = b % 4294967296 := ⟨_, rfl⟩
  have hfb : 0 ≤ f ∧ f < 4294967296 := by omega
  obtain ⟨ek, hek⟩ : ∃ e, e = K.take 16 := ⟨_, rfl⟩
  obtain ⟨mk, hmk⟩ : ∃ m, m = K.drop 16 := ⟨_, rfl⟩
  have hek16 : ek.length = 16 := by rw [hek, List.length_take, hk]; rfl
  have hmk32 : mk.length = 32 := by rw [hmk, List.length_drop, hk]
  have hekb : Bytes ek := by rw [hek]; intro y hy; exact hkb y (List.mem_of_mem_take hy)
  have hmkb : Bytes mk := by rw [hmk]; intro y hy; exact hkb y (List.mem_of_mem_drop hy)
  have HKL := Lib.hid hk
  have HTL := Lib.hid ht
  have HKB := Lib.hid hkb
  have HRB := Lib.hid hrb
  have HTB := Lib.hid htb
  have HC := Lib.hid hc
  have hrl : raw.length = n := hr.1
  obtain ⟨T1, hT1⟩ : ∃ T, T = tagF K f raw := ⟨_, rfl⟩
  have HT1L : Hid (T1.length = 32) := Lib.hid (by rw [hT1]; exact tagF_length _ _ _)
  have HT1B : Hid (Bytes T1) := Lib.hid (by rw [hT1]; exact tagF_bytes _ _ _)
  have HEK : Hid (∀ (W : World) (g : Nat), Arr .u8 87 W g K → Kd.C (Kd.int .u8) W (some ⟨g, 0, none⟩) 16 ek) := Lib.hid (fun W g h => by
    have h := h.reads_part 0 16 (by rw [HKL.out]; decide) (by decide)
    rw [List.drop_zero, ← hek] at h
    exact h)
  have HMK : Hid (∀ (W : World) (g : Nat), Arr .u8 87 W g K → Kd.C (Kd.int .u8) W (some ⟨g, 16, none⟩) 32 mk) := Lib.hid (fun W g h => by
    have h := h.reads_part 16 32 (by rw [HKL.out]; decide) (by decide)
    rw [← hmk, List.take_of_length_le (by rw [hmk32]; decide)] at h
    exact h)
  obtain ⟨g5, hg5⟩ : ∃ g, g = w.heap.size := ⟨_, rfl⟩
  have HOF : Hid (∀ W, Arr .u8 87 W g5 K → Calls Try.prog 56 #[.slice (some ⟨g5, 0, none⟩) 16 16, .slice (some ⟨g5, 16, none⟩) 32 32] W (OfOut W ek mk)) := Lib.hid (fun W h => rof_any g5 0 16 87 ek mk _ 32 W hek16 hekb (HEK.out W g5 h) (by decide) ⟨_, h.out⟩ (HMK.out W g5 h) hmkb (by decide))
  have HTG : Hid (∀ W, Kd.C (Kd.int .u8) W A2 n raw → Calls Try.prog 52 #[.agg (nums .u8 K).toArray, .int .i64 b, .slice A2 n c2] W (GivesArr .u8 T1 W)) := Lib.hid (fun W h => by rw [hT1]; exact tag_any K b f hf.symm A2 n c2 raw W hk h hc (by omega))
  have HRT : Hid (∀ (g : Nat) (Ae : Option Addr) (ce : Nat) (Am : Option Addr) (cm ge gm : Nat) (W : World), KeyR W g ek mk Ae ce Am cm ge gm → Kd.C (Kd.int .u8) W A2 n raw → Calls Try.prog 54 #[.pointer (some ⟨g, 0, none⟩), .int .i64 b, .slice A2 n c2] W (fun e w' => e = .returned (.string (strOfNums T1)) ∧ Below W.heap.size W w')) := Lib.hid (fun g Ae ce Am cm ge gm W hKW h => by
    have h := rtag_any g ek mk Ae ce Am cm ge gm b f hf.symm A2 n c2 raw W hKW hmkb h hc (by omega) hrb
    rw [hT1, tagF_eq K mk raw f hmk.symm]
    exact h)
  obtain ⟨V, hV⟩ : ∃ V, V = verN raw 8 := ⟨_, rfl⟩
  obtain ⟨X, hX⟩ : ∃ X, X = plainF K f raw := ⟨_, rfl⟩
  have HXL : Hid (n = 72 → X.length = 64) := Lib.hid (fun h => by rw [hX]; exact plainF_length K f raw (by rw [hrl, h]))
  have HOP : Hid (n = 72 → ∀ (TT : List Int) (Ao : Option Addr) (co : Nat) (W : World), TT.length = 32 → Kd.C (Kd.int .u8) W Ao n raw → n ≤ co → Calls Try.prog 57 #[.agg (nums .u8 K).toArray, .int .i64 b, .slice Ao n co, .agg (nums .u8 TT).toArray] W (OpenPost T1 TT X V W)) := Lib.hid (fun h TT Ao co W hT hC hco => by
    subst h
    rw [hT1, hX, hV]
    exact open_any K TT b f hf.symm Ao co raw W hk hkb hT hC hrb hco)
  have HOB : Hid (n ≠ 72 → ∀ (TT : List Int) (Ao : Option Addr) (co : Nat) (W : World), TT.length = 32 → Calls Try.prog 57 #[.agg (nums .u8 K).toArray, .int .i64 b, .slice Ao n co, .agg (nums .u8 TT).toArray] W (OpenOut [] 0 1 W)) := Lib.hid (fun h TT Ao co W hT => open_bad K TT b Ao n co W hk hT h)
  have HSH : Hid (n = 72 → ∀ (g : Nat) (Ae : Option Addr) (ce : Nat) (Am : Option Addr) (cm ge gm : Nat) (W : World), KeyR W g ek mk Ae ce Am cm ge gm → Kd.C (Kd.int .u8) W A2 n raw → Calls Try.prog 58 #[.pointer (some ⟨g, 0, none⟩), .int .i64 b, .slice A2 n c2] W (ShowOut X V W)) := Lib.hid (fun h g Ae ce Am cm ge gm W hKW hC => by
    subst h
    have h := rshow_any g ek mk Ae ce Am cm ge gm b hb A2 c2 raw W hKW hek16 hekb hC hrb hc
    rw [hX, hV]
    unfold plainF
    rw [← hek, hf]
    exact h)
  have HR := Lib.hid hr
  have HG5 := Lib.hid hg5
  have hl' : (n : Int) ≤ 200 := by omega
  clear hk hkb hb hr hc hrb ht htb hf hfb hek hmk hek16 hmk32 hekb hmkb hrl hT1 hV hX
  go_enter Try.func14, Try.ntmps14
  go_wp2_with (first
    | ((with_reducible refine gate_dst (N := 5) rfl ?_); refine arr_new rfl 87 .u8 K (by first | (go_simp; done) | (go_simp; rfl)) ?_; intro w1 hA1 hB1; have HA1 := Lib.hid hA1; have HB1 := Lib.hid hB1; clear hA1 hB1)
    | ((with_reducible refine gate_dst (N := 8) rfl ?_); refine arr_new rfl 27 .u8 tg (by first | (go_simp; done) | (go_simp; rfl)) ?_; intro w2 hA2 hB2; have HT2 := Lib.hid hA2; have HA2 := Lib.hid (HA1.out.next hB2); have HB2 := Lib.hid (below_next HB1.out hB2); clear hA2 hB2)
    | fail)
  rw [← HG5.out] at HA2 HA1 ⊢
  generalize w1.heap.size = g8 at *
  clear HA1 HB1 hg5
  refine chain_region (by kernel_rfl) 6 (by kernel_rfl) ?_
  refine chain_take 0 (.pointer (some ⟨g5, 0, none⟩)) rfl (by kernel_rfl) (by kernel_rfl) (by kernel_rfl) (fun _ _ _ h => h) rfl (fun w' hw' => by (unfold execOp; simp [go_sem, Act.put, Act.eval])) ?_
  simp only [Act.put, List.setIfInBounds_toArray, List.set_cons_zero, List.set_cons_succ]
  refine chain_take 1 (.slice (some ⟨g5, 0, none⟩) 16 16) rfl (by kernel_rfl) (by kernel_rfl) (by kernel_rfl) (fun _ _ _ h => h) rfl (fun w' hw' => by (unfold execOp; simp [go_sem, Act.put, Act.eval])) ?_
  simp only [Act.put, List.setIfInBounds_toArray, List.set_cons_zero, List.set_cons_succ]
  refine chain_take 2 (.pointer (some ⟨g5, 16, none⟩)) rfl (by kernel_rfl) (by kernel_rfl) (by kernel_rfl) (fun _ _ _ h => h) rfl (fun w' hw' => by (unfold execOp; simp [go_sem, Act.put, Act.eval])) ?_
  simp only [Act.put, List.setIfInBounds_toArray, List.set_cons_zero, List.set_cons_succ]
  refine chain_take 3 (.slice (some ⟨g5, 16, none⟩) 32 32) rfl (by kernel_rfl) (by kernel_rfl) (by kernel_rfl) (fun _ _ _ h => h) rfl (fun w' hw' => by (unfold execOp; simp [go_sem, Act.put, Act.eval])) ?_
  simp only [Act.put, List.setIfInBounds_toArray, List.set_cons_zero, List.set_cons_succ]
  refine chain_call 4 rfl (by kernel_rfl) rfl 56 _ _ Try.func56 (by kernel_rfl) rfl _ _ #[.slice (some ⟨g5, 0, none⟩) 16 16, .slice (some ⟨g5, 16, none⟩) 32 32] rfl (by simp [Act.put, Act.eval]) (HOF.out _ HA2.out.drew) ?_
  rintro e W1 ⟨gr, Ae, ce, Am, cm, ge, gm, rfl, hKR, hB1⟩
  refine ⟨_, rfl, hB1, ?_⟩
  simp only [Act.put, List.setIfInBounds_toArray, List.set_cons_zero, List.set_cons_succ]
  refine chain_take 5 (_) rfl (by kernel_rfl) (by kernel_rfl) (by kernel_rfl) (fun _ _ _ h => h) rfl (fun w' hw' => BigFrame.run_assign _ rfl w') ?_
  simp only [Act.put, List.setIfInBounds_toArray, List.set_cons_zero, List.set_cons_succ]
  refine chain_done (by kernel_rfl) ?_
  obtain ⟨wk, hwk⟩ : ∃ W : World, W = W1 := ⟨_, rfl⟩
  subst hwk
  have HK3 := Lib.hid hKR
  have HT3 := Lib.hid (HT2.out.drew.next hB1)
  have HA3 := Lib.hid (HA2.out.drew.next hB1)
  have HB3 := Lib.hid (below_next (below_drew (by have h := HB2.out; exact h)) hB1)
  have HR3 := Lib.hid (Kd.C_below HR.out HB3.out)
  clear hKR hB1 HT2 HA2 HB2 HOF
  cases rt
  rotate_left
  · -- the right tag
    go_wp2_with (first
      | ((with_reducible refine gate_dst (N := 28) rfl ?_); refine Kd.R_lit (Kd.int .u8) (w0 := wk) wk.heap.size 5 ?hg (N := 28) ?hd (xs := ([] : List Int)) (inner := []) (ok := fun _ => True) (okp := fun _ => True) ?hr ?hp (fun _ hk => hk) trivial (Below.refl _ _) (Nat.le_refl _) (by simp) ?_; (case hd => rfl); (case hg => rfl); (case hr => first | (go_simp; done) | (go_simp; rfl)); (case hp => exact (Reps.none _ _)); intro v3 w3 ho3 hb3 hg_ hnew_; clear hg_ hnew_; have HO3 := Aside0.mk ho3; have HBl := Aside0.mk hb3; clear ho3 hb3)
      | ((with_reducible refine gate_builtin (b := .append) (xs := #[.tmp 28, .tmp 29]) rfl ?_); at_builtin; refine Kd.R_append_rows (Kd.int .u8) (w0 := wk) wk.heap.size rfl (.tmp 28) (.tmp 29) 22 5 (.int .u8 0) 1 rfl Try.underlying22 Go.Proofs.Ytljmjeaocojnmaa.Com.info5 rfl (by decide) (by omega) v3 [] raw A2 n c2 (fun _ => True) (fun _ => False) rfl rfl HO3.out (by exact Kd.C_below HR3.out HBl.out) (fun _ _ h => h) (fun _ h => h.elim) (fun _ _ => trivial) HBl.out HBl.out.size (by simp; omega) ?_; intro v4 w4 ho4 hb4 hg4 hat4; rw [List.nil_append] at ho4; obtain ⟨Ao, co, hvo, hlo, hro⟩ := Kd.R_reads ho4; rw [HR.out.1] at hvo hlo hro; subst hvo; have HO4 := Lib.hid hro; have HLO := Lib.hid hlo; have HT4 := Lib.hid (HT3.out.next hb4); have HA4 := Lib.hid (HA3.out.next hb4); have HK4 := Lib.hid (HK3.out.next hb4); have HB4 := Lib.hid (below_next HB3.out hb4); clear ho4 hb4 hg4 hat4 hlo hro)
      | ((with_reducible refine gate_dst (N := 31) rfl ?_); refine load_row rfl 27 _ rfl g8 rfl .u8 _ _ tg HT4.out Try.underlying27 rfl (by rw [HTL.out]; kernel_rfl) ?_)
      | ((with_reducible refine gate_dst (N := 13) rfl ?_); refine alloc_arr rfl 27 rfl .u8 (List.replicate 32 0) (fun w => Try.zeroValue27 w) (by first | (go_simp; done) | (go_simp; rfl)) ?_; intro w5 hA5 hB5)
      | ((with_reducible refine gate_store (t := 27) (p := 13) rfl ?_); refine store_arr rfl 27 _ _ rfl w4.heap.size .u8 tg rfl (by rfl) 27 _ hA5 (by rw [HTL.out]; rfl) (by rw [HTL.out]; kernel_rfl) ?_; intro w6 hA6 hw6; have hB6 := below_setRow hB5 w4.heap.size (Nat.le_refl _) (nums .u8 tg).toArray; rw [← hw6] at hB6; have HT8 := Lib.hid hA6; have HA8 := Lib.hid (HA4.out.next hB6); have HK8 := Lib.hid (HK4.out.next hB6); have HO8 := Lib.hid (Kd.C_below HO4.out hB6); have HB8 := Lib.hid (below_next HB4.out hB6); have HB46 := Lib.hid hB6; clear hw6 hA6 hB6 hA5 hB5)
      | ((with_reducible refine gate_dst (N := 33) rfl ?_); refine load_row rfl 87 _ rfl g5 rfl .u8 _ _ K HA8.out Try.underlying87 rfl (by rw [HKL.out]; kernel_rfl) ?_)
      | fail)
    refine (HTG.out w6 (Kd.C_below HR.out HB8.out)).mono ?_
    rintro e w7 ⟨rfl, hB7⟩
    have HB47 := Lib.hid (below_next HB46.out hB7)
    have HT7 := Lib.hid (HT8.out.next hB7)
    clear hB7 HT8 HA8 HK8 HO8 HB8 HB46
    go_wp2_with (first
      | ((with_reducible refine gate_store (t := 27) (p := 13) rfl ?_); refine store_arr rfl 27 _ _ rfl w4.heap.size .u8 T1 rfl (by rfl) 27 _ HT7.out (by rw [HT1L.out, HTL.out]) (by rw [HT1L.out]; kernel_rfl) ?_; intro w8 hA8 hw8; have hB8 := below_setRow HB47.out w4.heap.size (Nat.le_refl _) (nums .u8 T1).toArray; rw [← hw8] at hB8; have HT8 := Lib.hid hA8; have HA8 := Lib.hid (HA4.out.next hB8); have HK8 := Lib.hid (HK4.out.next hB8); have HO8 := Lib.hid (Kd.C_below HO4.out hB8); have HB8 := Lib.hid (below_next HB4.out hB8); clear hA8 hw8 hB8)
      | ((with_reducible refine gate_dst (N := 38) rfl ?_); refine load_row rfl 87 _ rfl g5 rfl .u8 _ _ K HA8.out Try.underlying87 rfl (by rw [HKL.out]; kernel_rfl) ?_)
      | ((with_reducible refine gate_dst (N := 41) rfl ?_); refine load_row rfl 27 _ rfl w4.heap.size rfl .u8 _ _ T1 HT8.out Try.underlying27 rfl (by rw [HT1L.out]; kernel_rfl) ?_)
      | fail)
    generalize w4.heap.size = g13 at *
    obtain ⟨wo, hwo⟩ : ∃ W : World, W = w8 := ⟨_, rfl⟩
    subst hwo
    by_cases h72 : n = 72
    rotate_left
    · have h72' : (n : Int) ≠ 72 := by omega
      refine (HOB.out h72 T1 Ao co wo HT1L.out).mono ?_
      rintro e w10 ⟨Ab, cb, rfl, hlb, hCb, hB10⟩
      have HO10 := Lib.hid (Kd.C_below HO8.out hB10)
      have HB10 := Lib.hid (below_next HB8.out hB10)
      have HR10 := Lib.hid (Kd.C_below HR.out HB10.out)
      have hs1 := Kd.C_string (P := Try.prog) (dst := 9) (c := co) Try.underlying22 Try.underlying5 Try.underlying9 (HO10.out)
      have hs2 := Kd.C_string (P := Try.prog) (dst := 9) (c := c2) Try.underlying22 Try.underlying5 Try.underlying9 (HR10.out)
      clear hlb hCb hB10 HO8 HB8 HT8 HA8 HK8
      go_wp2_with fail
      refine (knows7_any w10).mono ?_
      rintro e w15 ⟨rfl, hB15⟩
      have HB15 := Lib.hid (below_next HB10.out hB15)
      clear hB15 hs1 hs2
      go_wp2_with fail
      go_ret
      exact ⟨rfl, HB15.out⟩
    · subst h72
      have HOx := Lib.hid (HOP.out rfl)
      have HXx := Lib.hid (HXL.out rfl)
      have HSx := Lib.hid (HSH.out rfl)
      clear HOP HOB HXL HSH
      refine (HOx.out T1 Ao co wo HT1L.out HO8.out HLO.out).mono ?_
      by_cases hE : T1 = T1
      rotate_left
      · have HE := Lib.hid hE
        clear hE
        rintro e w10 ⟨-, hp⟩
        obtain ⟨Ab, cb, rfl, hlb, hCb, hB10⟩ := hp HE.out
        have HO10 := Lib.hid (Kd.C_below HO8.out hB10)
        have HB10 := Lib.hid (below_next HB8.out hB10)
        have HR10 := Lib.hid (Kd.C_below HR.out HB10.out)
        have HT10 := Lib.hid (HT8.out.next hB10)
        have HK10 := Lib.hid (HK8.out.next hB10)
        have hs1 := Kd.C_string (P := Try.prog) (dst := 9) (c := co) Try.underlying22 Try.underlying5 Try.underlying9 (HO10.out)
        have hs2 := Kd.C_string (P := Try.prog) (dst := 9) (c := c2) Try.underlying22 Try.underlying5 Try.underlying9 (HR10.out)
        clear hp hlb hCb hB10 HO8 HB8 HT8 HA8 HK8 HOx
        go_wp2_with fail
        clear hs1 hs2
        refine chain_region (by kernel_rfl) 7 (by kernel_rfl) ?_
        refine chain_take 0 (_) rfl (by kernel_rfl) (by kernel_rfl) (by kernel_rfl) (fun _ _ _ h => h) rfl (fun w' hw' => run_move_at _ rfl w') ?_
        simp only [Act.put, List.setIfInBounds_toArray, List.set_cons_zero, List.set_cons_succ]
        refine chain_take 1 (_) rfl (by kernel_rfl) (by kernel_rfl) (by kernel_rfl) (fun _ _ _ h => h) rfl (fun w' hw' => run_move_at _ rfl w') ?_
        simp only [Act.put, List.setIfInBounds_toArray, List.set_cons_zero, List.set_cons_succ]
        refine chain_take 2 (_) rfl (by kernel_rfl) (by kernel_rfl) (by kernel_rfl) (fun _ _ _ h => h) rfl (fun w' hw' => run_move_at _ rfl w') ?_
        simp only [Act.put, List.setIfInBounds_toArray, List.set_cons_zero, List.set_cons_succ]
        refine chain_take 4 (.slice (some ⟨g13, 0, none⟩) 32 32) rfl (by kernel_rfl) (by kernel_rfl) (by kernel_rfl) (fun _ _ _ h => h) rfl (fun w' hw' => by (unfold execOp; simp [go_sem, Act.put, Act.eval])) ?_
        simp only [Act.put, List.setIfInBounds_toArray, List.set_cons_zero, List.set_cons_succ]
        refine chain_take 5 (.string (strOfNums T1)) rfl (by kernel_rfl) (by kernel_rfl) (by kernel_rfl) (fun _ _ _ h => h) rfl (fun w' hw' => by (have hc0 := Kd.C_string (P := Try.prog) (dst := 9) (c := 32) Try.underlying22 Try.underlying5 Try.underlying9 ((HT10.out.drew.next hw').reads 32 HT1L.out (by decide)); unfold execOp; simp [go_sem, Act.put, Act.eval, hc0])) ?_
        simp only [Act.put, List.setIfInBounds_toArray, List.set_cons_zero, List.set_cons_succ]
        refine chain_call 3 rfl (by kernel_rfl) rfl 54 _ _ Try.func54 (by kernel_rfl) rfl _ _ #[.pointer (some ⟨gr, 0, none⟩), .int .i64 b, .slice A2 72 c2] rfl (by simp [Act.put, Act.eval]) (HRT.out _ _ _ _ _ _ _ _ HK10.out.drew (Kd.C_drew HR10.out)) ?_
        rintro e W1 ⟨rfl, hB1⟩
        refine ⟨_, rfl, hB1, ?_⟩
        simp only [Act.put, List.setIfInBounds_toArray, List.set_cons_zero, List.set_cons_succ]
        refine chain_take 6 ((.bool true)) rfl (by kernel_rfl) (by kernel_rfl) (by kernel_rfl) (fun _ _ _ h => h) rfl (fun w' hw' => Eq.trans (run_neq_strs (P := Try.prog) 9 _ _ _ rfl T1 T1 rfl rfl HT1B.out HT1B.out w') (by first | (simp [HE.out]; done) | exact absurd True.intro HE.out)) ?_
        simp only [Act.put, List.setIfInBounds_toArray, List.set_cons_zero, List.set_cons_succ]
        refine chain_done (by kernel_rfl) ?_
        have HW13 := Lib.hid (below_next (below_drew HB10.out) hB1)
        clear hB1
        go_wp2_with fail
        refine (knows7_any W1).mono ?_
        rintro e w15 ⟨rfl, hB15⟩
        have HB15 := Lib.hid (below_next HW13.out hB15)
        clear hB15
        go_wp2_with fail
        go_ret
        exact ⟨rfl, HB15.out⟩
      · have HE := Lib.hid hE
        clear hE
        rintro e w10 ⟨hp, -⟩
        obtain ⟨Ab, cb, rfl, hlb, hCb, hB10⟩ := hp HE.out
        rw [HXx.out] at hlb hCb ⊢
        have HO10 := Lib.hid (Kd.C_below HO8.out hB10)
        have HB10 := Lib.hid (below_next HB8.out hB10)
        have HR10 := Lib.hid (Kd.C_below HR.out HB10.out)
        have HT10 := Lib.hid (HT8.out.next hB10)
        have HK10 := Lib.hid (HK8.out.next hB10)
        have HX10 := Lib.hid hCb
        have hs1 := Kd.C_string (P := Try.prog) (dst := 9) (c := co) Try.underlying22 Try.underlying5 Try.underlying9 (HO10.out)
        have hs2 := Kd.C_string (P := Try.prog) (dst := 9) (c := c2) Try.underlying22 Try.underlying5 Try.underlying9 (HR10.out)
        clear hp hlb hCb hB10 HO8 HB8 HT8 HA8 HK8 HOx
        go_wp2_with fail
        clear hs1 hs2
        refine chain_region (by kernel_rfl) 7 (by kernel_rfl) ?_
        refine chain_take 0 (_) rfl (by kernel_rfl) (by kernel_rfl) (by kernel_rfl) (fun _ _ _ h => h) rfl (fun w' hw' => run_move_at _ rfl w') ?_
        simp only [Act.put, List.setIfInBounds_toArray, List.set_cons_zero, List.set_cons_succ]
        refine chain_take 1 (_) rfl (by kernel_rfl) (by kernel_rfl) (by kernel_rfl) (fun _ _ _ h => h) rfl (fun w' hw' => run_move_at _ rfl w') ?_
        simp only [Act.put, List.setIfInBounds_toArray, List.set_cons_zero, List.set_cons_succ]
        refine chain_take 2 (_) rfl (by kernel_rfl) (by kernel_rfl) (by kernel_rfl) (fun _ _ _ h => h) rfl (fun w' hw' => run_move_at _ rfl w') ?_
        simp only [Act.put, List.setIfInBounds_toArray, List.set_cons_zero, List.set_cons_succ]
        refine chain_take 4 (.slice (some ⟨g13, 0, none⟩) 32 32) rfl (by kernel_rfl) (by kernel_rfl) (by kernel_rfl) (fun _ _ _ h => h) rfl (fun w' hw' => by (unfold execOp; simp [go_sem, Act.put, Act.eval])) ?_
        simp only [Act.put, List.setIfInBounds_toArray, List.set_cons_zero, List.set_cons_succ]
        refine chain_take 5 (.string (strOfNums T1)) rfl (by kernel_rfl) (by kernel_rfl) (by kernel_rfl) (fun _ _ _ h => h) rfl (fun w' hw' => by (have hc0 := Kd.C_string (P := Try.prog) (dst := 9) (c := 32) Try.underlying22 Try.underlying5 Try.underlying9 ((HT10.out.drew.next hw').reads 32 HT1L.out (by decide)); unfold execOp; simp [go_sem, Act.put, Act.eval, hc0])) ?_
        simp only [Act.put, List.setIfInBounds_toArray, List.set_cons_zero, List.set_cons_succ]
        refine chain_call 3 rfl (by kernel_rfl) rfl 54 _ _ Try.func54 (by kernel_rfl) rfl _ _ #[.pointer (some ⟨gr, 0, none⟩), .int .i64 b, .slice A2 72 c2] rfl (by simp [Act.put, Act.eval]) (HRT.out _ _ _ _ _ _ _ _ HK10.out.drew (Kd.C_drew HR10.out)) ?_
        rintro e W1 ⟨rfl, hB1⟩
        refine ⟨_, rfl, hB1, ?_⟩
        simp only [Act.put, List.setIfInBounds_toArray, List.set_cons_zero, List.set_cons_succ]
        refine chain_take 6 ((.bool false)) rfl (by kernel_rfl) (by kernel_rfl) (by kernel_rfl) (fun _ _ _ h => h) rfl (fun w' hw' => Eq.trans (run_neq_strs (P := Try.prog) 9 _ _ _ rfl T1 T1 rfl rfl HT1B.out HT1B.out w') (by first | (simp [HE.out]; done) | exact absurd True.intro HE.out)) ?_
        simp only [Act.put, List.setIfInBounds_toArray, List.set_cons_zero, List.set_cons_succ]
        refine chain_done (by kernel_rfl) ?_
        have HW13 := Lib.hid (below_next (below_drew HB10.out) hB1)
        have HX13 := Lib.hid (Kd.C_below (Kd.C_drew HX10.out) hB1)
        have HSw := Lib.hid (HSx.out gr Ae ce Am cm ge gm W1 (HK10.out.drew.next hB1) (Kd.C_below HR.out HW13.out))
        clear hB1 HX10 HK10 HT10 HR10 HO10
        go_wp2_with fail
        refine HSw.out.mono ?_
        rintro e w14 ⟨Aw, cw, rfl, hlw, hCw, hB14⟩
        have hs1 := Kd.C_string (P := Try.prog) (dst := 9) (c := cb) Try.underlying22 Try.underlying5 Try.underlying9 (Kd.C_below HX13.out hB14)
        have hs2 := Kd.C_string (P := Try.prog) (dst := 9) (c := cw) Try.underlying22 Try.underlying5 Try.underlying9 (hCw)
        have HW14 := Lib.hid (below_next HW13.out hB14)
        clear hlw hCw hB14 HSw
        go_wp2_with fail
        refine (knows7_any w14).mono ?_
        rintro e w15 ⟨rfl, hB15⟩
        have HB15 := Lib.hid (below_next HW14.out hB15)
        clear hB15 hs1 hs2
        go_wp2_with fail
        go_ret
        exact ⟨rfl, HB15.out⟩
  · go_wp2_with (first
      | ((with_reducible refine gate_dst (N := 28) rfl ?_); refine Kd.R_lit (Kd.int .u8) (w0 := wk) wk.heap.size 5 ?hg (N := 28) ?hd (xs := ([] : List Int)) (inner := []) (ok := fun _ => True) (okp := fun _ => True) ?hr ?hp (fun _ hk => hk) trivial (Below.refl _ _) (Nat.le_refl _) (by simp) ?_; (case hd => rfl); (case hg => rfl); (case hr => first | (go_simp; done) | (go_simp; rfl)); (case hp => exact (Reps.none _ _)); intro v3 w3 ho3 hb3 hg_ hnew_; clear hg_ hnew_; have HO3 := Aside0.mk ho3; have HBl := Aside0.mk hb3; clear ho3 hb3)
      | ((with_reducible refine gate_builtin (b := .append) (xs := #[.tmp 28, .tmp 29]) rfl ?_); at_builtin; refine Kd.R_append_rows (Kd.int .u8) (w0 := wk) wk.heap.size rfl (.tmp 28) (.tmp 29) 22 5 (.int .u8 0) 1 rfl Try.underlying22 Go.Proofs.Ytljmjeaocojnmaa.Com.info5 rfl (by decide) (by omega) v3 [] raw A2 n c2 (fun _ => True) (fun _ => False) rfl rfl HO3.out (by exact Kd.C_below HR3.out HBl.out) (fun _ _ h => h) (fun _ h => h.elim) (fun _ _ => trivial) HBl.out HBl.out.size (by simp; omega) ?_; intro v4 w4 ho4 hb4 hg4 hat4; rw [List.nil_append] at ho4; obtain ⟨Ao, co, hvo, hlo, hro⟩ := Kd.R_reads ho4; rw [HR.out.1] at hvo hlo hro; subst hvo; have HO4 := Lib.hid hro; have HLO := Lib.hid hlo; have HT4 := Lib.hid (HT3.out.next hb4); have HA4 := Lib.hid (HA3.out.next hb4); have HK4 := Lib.hid (HK3.out.next hb4); have HB4 := Lib.hid (below_next HB3.out hb4); clear ho4 hb4 hg4 hat4 hlo hro)
      | ((with_reducible refine gate_dst (N := 31) rfl ?_); refine load_row rfl 27 _ rfl g8 rfl .u8 _ _ tg HT4.out Try.underlying27 rfl (by rw [HTL.out]; kernel_rfl) ?_)
      | ((with_reducible refine gate_dst (N := 13) rfl ?_); refine alloc_arr rfl 27 rfl .u8 (List.replicate 32 0) (fun w => Try.zeroValue27 w) (by first | (go_simp; done) | (go_simp; rfl)) ?_; intro w5 hA5 hB5)
      | ((with_reducible refine gate_store (t := 27) (p := 13) rfl ?_); refine store_arr rfl 27 _ _ rfl w4.heap.size .u8 tg rfl (by rfl) 27 _ hA5 (by rw [HTL.out]; rfl) (by rw [HTL.out]; kernel_rfl) ?_; intro w6 hA6 hw6; have hB6 := below_setRow hB5 w4.heap.size (Nat.le_refl _) (nums .u8 tg).toArray; rw [← hw6] at hB6; have HT8 := Lib.hid hA6; have HA8 := Lib.hid (HA4.out.next hB6); have HK8 := Lib.hid (HK4.out.next hB6); have HO8 := Lib.hid (Kd.C_below HO4.out hB6); have HB8 := Lib.hid (below_next HB4.out hB6); have HB46 := Lib.hid hB6; clear hw6 hA6 hB6 hA5 hB5)
      | ((with_reducible refine gate_dst (N := 38) rfl ?_); refine load_row rfl 87 _ rfl g5 rfl .u8 _ _ K HA8.out Try.underlying87 rfl (by rw [HKL.out]; kernel_rfl) ?_)
      | ((with_reducible refine gate_dst (N := 41) rfl ?_); refine load_row rfl 27 _ rfl w4.heap.size rfl .u8 _ _ tg HT8.out Try.underlying27 rfl (by rw [HTL.out]; kernel_rfl) ?_)
      | fail)
    generalize w4.heap.size = g13 at *
    obtain ⟨wo, hwo⟩ : ∃ W : World, W = w6 := ⟨_, rfl⟩
    subst hwo
    by_cases h72 : n = 72
    rotate_left
    · have h72' : (n : Int) ≠ 72 := by omega
      refine (HOB.out h72 tg Ao co wo HTL.out).mono ?_
      rintro e w10 ⟨Ab, cb, rfl, hlb, hCb, hB10⟩
      have HO10 := Lib.hid (Kd.C_below HO8.out hB10)
      have HB10 := Lib.hid (below_next HB8.out hB10)
      have HR10 := Lib.hid (Kd.C_below HR.out HB10.out)
      have hs1 := Kd.C_string (P := Try.prog) (dst := 9) (c := co) Try.underlying22 Try.underlying5 Try.underlying9 (HO10.out)
      have hs2 := Kd.C_string (P := Try.prog) (dst := 9) (c := c2) Try.underlying22 Try.underlying5 Try.underlying9 (HR10.out)
      clear hlb hCb hB10 HO8 HB8 HT8 HA8 HK8
      go_wp2_with fail
      refine (knows7_any w10).mono ?_
      rintro e w15 ⟨rfl, hB15⟩
      have HB15 := Lib.hid (below_next HB10.out hB15)
      clear hB15 hs1 hs2
      go_wp2_with fail
      go_ret
      exact ⟨rfl, HB15.out⟩
    · subst h72
      have HOx := Lib.hid (HOP.out rfl)
      have HXx := Lib.hid (HXL.out rfl)
      have HSx := Lib.hid (HSH.out rfl)
      clear HOP HOB HXL HSH
      refine (HOx.out tg Ao co wo HTL.out HO8.out HLO.out).mono ?_
      by_cases hE : T1 = tg
      rotate_left
      · have HE := Lib.hid hE
        clear hE
        rintro e w10 ⟨-, hp⟩
        obtain ⟨Ab, cb, rfl, hlb, hCb, hB10⟩ := hp HE.out
        have HO10 := Lib.hid (Kd.C_below HO8.out hB10)
        have HB10 := Lib.hid (below_next HB8.out hB10)
        have HR10 := Lib.hid (Kd.C_below HR.out HB10.out)
        have HT10 := Lib.hid (HT8.out.next hB10)
        have HK10 := Lib.hid (HK8.out.next hB10)
        have hs1 := Kd.C_string (P := Try.prog) (dst := 9) (c := co) Try.underlying22 Try.underlying5 Try.underlying9 (HO10.out)
        have hs2 := Kd.C_string (P := Try.prog) (dst := 9) (c := c2) Try.underlying22 Try.underlying5 Try.underlying9 (HR10.out)
        clear hp hlb hCb hB10 HO8 HB8 HT8 HA8 HK8 HOx
        go_wp2_with fail
        clear hs1 hs2
        refine chain_region (by kernel_rfl) 7 (by kernel_rfl) ?_
        refine chain_take 0 (_) rfl (by kernel_rfl) (by kernel_rfl) (by kernel_rfl) (fun _ _ _ h => h) rfl (fun w' hw' => run_move_at _ rfl w') ?_
        simp only [Act.put, List.setIfInBounds_toArray, List.set_cons_zero, List.set_cons_succ]
        refine chain_take 1 (_) rfl (by kernel_rfl) (by kernel_rfl) (by kernel_rfl) (fun _ _ _ h => h) rfl (fun w' hw' => run_move_at _ rfl w') ?_
        simp only [Act.put, List.setIfInBounds_toArray, List.set_cons_zero, List.set_cons_succ]
        refine chain_take 2 (_) rfl (by kernel_rfl) (by kernel_rfl) (by kernel_rfl) (fun _ _ _ h => h) rfl (fun w' hw' => run_move_at _ rfl w') ?_
        simp only [Act.put, List.setIfInBounds_toArray, List.set_cons_zero, List.set_cons_succ]
        refine chain_take 4 (.slice (some ⟨g13, 0, none⟩) 32 32) rfl (by kernel_rfl) (by kernel_rfl) (by kernel_rfl) (fun _ _ _ h => h) rfl (fun w' hw' => by (unfold execOp; simp [go_sem, Act.put, Act.eval])) ?_
        simp only [Act.put, List.setIfInBounds_toArray, List.set_cons_zero, List.set_cons_succ]
        refine chain_take 5 (.string (strOfNums tg)) rfl (by kernel_rfl) (by kernel_rfl) (by kernel_rfl) (fun _ _ _ h => h) rfl (fun w' hw' => by (have hc0 := Kd.C_string (P := Try.prog) (dst := 9) (c := 32) Try.underlying22 Try.underlying5 Try.underlying9 ((HT10.out.drew.next hw').reads 32 HTL.out (by decide)); unfold execOp; simp [go_sem, Act.put, Act.eval, hc0])) ?_
        simp only [Act.put, List.setIfInBounds_toArray, List.set_cons_zero, List.set_cons_succ]
        refine chain_call 3 rfl (by kernel_rfl) rfl 54 _ _ Try.func54 (by kernel_rfl) rfl _ _ #[.pointer (some ⟨gr, 0, none⟩), .int .i64 b, .slice A2 72 c2] rfl (by simp [Act.put, Act.eval]) (HRT.out _ _ _ _ _ _ _ _ HK10.out.drew (Kd.C_drew HR10.out)) ?_
        rintro e W1 ⟨rfl, hB1⟩
        refine ⟨_, rfl, hB1, ?_⟩
        simp only [Act.put, List.setIfInBounds_toArray, List.set_cons_zero, List.set_cons_succ]
        refine chain_take 6 ((.bool true)) rfl (by kernel_rfl) (by kernel_rfl) (by kernel_rfl) (fun _ _ _ h => h) rfl (fun w' hw' => Eq.trans (run_neq_strs (P := Try.prog) 9 _ _ _ rfl T1 tg rfl rfl HT1B.out HTB.out w') (by first | (simp [HE.out]; done) | exact absurd True.intro HE.out)) ?_
        simp only [Act.put, List.setIfInBounds_toArray, List.set_cons_zero, List.set_cons_succ]
        refine chain_done (by kernel_rfl) ?_
        have HW13 := Lib.hid (below_next (below_drew HB10.out) hB1)
        clear hB1
        go_wp2_with fail
        refine (knows7_any W1).mono ?_
        rintro e w15 ⟨rfl, hB15⟩
        have HB15 := Lib.hid (below_next HW13.out hB15)
        clear hB15
        go_wp2_with fail
        go_ret
        exact ⟨rfl, HB15.out⟩
      · have HE := Lib.hid hE
        clear hE
        rintro e w10 ⟨hp, -⟩
        obtain ⟨Ab, cb, rfl, hlb, hCb, hB10⟩ := hp HE.out
        rw [HXx.out] at hlb hCb ⊢
        have HO10 := Lib.hid (Kd.C_below HO8.out hB10)
        have HB10 := Lib.hid (below_next HB8.out hB10)
        have HR10 := Lib.hid (Kd.C_below HR.out HB10.out)
        have HT10 := Lib.hid (HT8.out.next hB10)
        have HK10 := Lib.hid (HK8.out.next hB10)
        have HX10 := Lib.hid hCb
        have hs1 := Kd.C_string (P := Try.prog) (dst := 9) (c := co) Try.underlying22 Try.underlying5 Try.underlying9 (HO10.out)
        have hs2 := Kd.C_string (P := Try.prog) (dst := 9) (c := c2) Try.underlying22 Try.underlying5 Try.underlying9 (HR10.out)
        clear hp hlb hCb hB10 HO8 HB8 HT8 HA8 HK8 HOx
        go_wp2_with fail
        clear hs1 hs2
        refine chain_region (by kernel_rfl) 7 (by kernel_rfl) ?_
        refine chain_take 0 (_) rfl (by kernel_rfl) (by kernel_rfl) (by kernel_rfl) (fun _ _ _ h => h) rfl (fun w' hw' => run_move_at _ rfl w') ?_
        simp only [Act.put, List.setIfInBounds_toArray, List.set_cons_zero, List.set_cons_succ]
        refine chain_take 1 (_) rfl (by kernel_rfl) (by kernel_rfl) (by kernel_rfl) (fun _ _ _ h => h) rfl (fun w' hw' => run_move_at _ rfl w') ?_
        simp only [Act.put, List.setIfInBounds_toArray, List.set_cons_zero, List.set_cons_succ]
        refine chain_take 2 (_) rfl (by kernel_rfl) (by kernel_rfl) (by kernel_rfl) (fun _ _ _ h => h) rfl (fun w' hw' => run_move_at _ rfl w') ?_
        simp only [Act.put, List.setIfInBounds_toArray, List.set_cons_zero, List.set_cons_succ]
        refine chain_take 4 (.slice (some ⟨g13, 0, none⟩) 32 32) rfl (by kernel_rfl) (by kernel_rfl) (by kernel_rfl) (fun _ _ _ h => h) rfl (fun w' hw' => by (unfold execOp; simp [go_sem, Act.put, Act.eval])) ?_
        simp only [Act.put, List.setIfInBounds_toArray, List.set_cons_zero, List.set_cons_succ]
        refine chain_take 5 (.string (strOfNums tg)) rfl (by kernel_rfl) (by kernel_rfl) (by kernel_rfl) (fun _ _ _ h => h) rfl (fun w' hw' => by (have hc0 := Kd.C_string (P := Try.prog) (dst := 9) (c := 32) Try.underlying22 Try.underlying5 Try.underlying9 ((HT10.out.drew.next hw').reads 32 HTL.out (by decide)); unfold execOp; simp [go_sem, Act.put, Act.eval, hc0])) ?_
        simp only [Act.put, List.setIfInBounds_toArray, List.set_cons_zero, List.set_cons_succ]
        refine chain_call 3 rfl (by kernel_rfl) rfl 54 _ _ Try.func54 (by kernel_rfl) rfl _ _ #[.pointer (some ⟨gr, 0, none⟩), .int .i64 b, .slice A2 72 c2] rfl (by simp [Act.put, Act.eval]) (HRT.out _ _ _ _ _ _ _ _ HK10.out.drew (Kd.C_drew HR10.out)) ?_
        rintro e W1 ⟨rfl, hB1⟩
        refine ⟨_, rfl, hB1, ?_⟩
        simp only [Act.put, List.setIfInBounds_toArray, List.set_cons_zero, List.set_cons_succ]
        refine chain_take 6 ((.bool false)) rfl (by kernel_rfl) (by kernel_rfl) (by kernel_rfl) (fun _ _ _ h => h) rfl (fun w' hw' => Eq.trans (run_neq_strs (P := Try.prog) 9 _ _ _ rfl T1 tg rfl rfl HT1B.out HTB.out w') (by first | (simp [HE.out]; done) | exact absurd True.intro HE.out)) ?_
        simp only [Act.put, List.setIfInBounds_toArray, List.set_cons_zero, List.set_cons_succ]
        refine chain_done (by kernel_rfl) ?_
        have HW13 := Lib.hid (below_next (below_drew HB10.out) hB1)
        have HX13 := Lib.hid (Kd.C_below (Kd.C_drew HX10.out) hB1)
        have HSw := Lib.hid (HSx.out gr Ae ce Am cm ge gm W1 (HK10.out.drew.next hB1) (Kd.C_below HR.out HW13.out))
        clear hB1 HX10 HK10 HT10 HR10 HO10
        go_wp2_with fail
        refine HSw.out.mono ?_
        rintro e w14 ⟨Aw, cw, rfl, hlw, hCw, hB14⟩
        have hs1 := Kd.C_string (P := Try.prog) (dst := 9) (c := cb) Try.underlying22 Try.underlying5 Try.underlying9 (Kd.C_below HX13.out hB14)
        have hs2 := Kd.C_string (P := Try.prog) (dst := 9) (c := cw) Try.underlying22 Try.underlying5 Try.underlying9 (hCw)
        have HW14 := Lib.hid (below_next HW13.out hB14)
        clear hlw hCw hB14 HSw
        go_wp2_with fail
        refine (knows7_any w14).mono ?_
        rintro e w15 ⟨rfl, hB15⟩
        have HB15 := Lib.hid (below_next HW14.out hB15)
        clear hB15 hs1 hs2
        go_wp2_with fail
        go_ret
        exact ⟨rfl, HB15.out⟩
set_option maxHeartbeats 1000000 in
set_option maxRecDepth 100000 in
theorem sopens_big (K : List Int) (b : Int) (A2 : Option Addr) (n c2 : Nat) (tg : List Int) (rt : Bool) (w : World) (hk : K.length = 48) (ht : tg.length = 32) (h : 200 < n) :
    Calls Try.prog 14 #[.agg (nums .u8 K).toArray, .int .i64 b, .slice A2 n c2, .agg (nums .u8 tg).toArray, .bool rt] w (Tells7 w) := by
  have HKL := Lib.hid hk
  have HTL := Lib.hid ht
  clear hk ht
  have h' : (200 : Int) < (n : Int) := by omega
  go_enter Try.func14, Try.ntmps14
  go_wp2_with (first
    | ((with_reducible refine gate_dst (N := 5) rfl ?_); refine arr_new rfl 87 .u8 K (by first | (go_simp; done) | (go_simp; rfl)) ?_; intro w1 hA1 hB1; have HB1 := Lib.hid hB1; clear hA1 hB1)
    | ((with_reducible refine gate_dst (N := 8) rfl ?_); refine arr_new rfl 27 .u8 tg (by first | (go_simp; done) | (go_simp; rfl)) ?_; intro w2 hA2 hB2; have HB2 := Lib.hid (below_next HB1.out hB2); clear hA2 hB2)
    | fail)
  refine (knows7_any w2).mono ?_
  rintro e w3 ⟨rfl, hB⟩
  have HB := Lib.hid (below_next HB2.out hB)
  clear hB
  go_wp2_with fail
  go_ret
  exact ⟨rfl, HB.out⟩
theorem sealOpens_walk (a0 : List Int) (a1 : Int) (a2 : Option Addr) (len2 cap2 : Nat) (z2 : List Int) (a3 : List Int) (a4 : Bool) (w : World) (l0 : a0.length = 48) (b0 : Bytes a0) (w1 : (Lit.int .i64 a1).wf = true)
    (w2 : (a2 = none ∧ len2 = 0 ∧ cap2 = 0 ∧ z2 = []) ∨ ∃ x, a2 = some x ∧ len2 ≤ cap2 ∧ cap2 ≤ maxLen ∧ z2.length = cap2 ∧ (∀ i, i < z2.length → w.cell? (x.add i) = some (.int .u8 (z2.getD i 0))) ∧ ∀ n ∈ z2, (Lit.int .u8 n).wf = true)
    (y2 : len2 * 1 ≤ 140737488351232) (l3 : a3.length = 32) (b3 : Bytes a3) :
    Calls Try.prog 14 #[.agg (nums .u8 a0).toArray, .int .i64 a1, .slice a2 len2 cap2, .agg (nums .u8 a3).toArray, .bool a4] w fun e w' => e = .returned (.bool true) ∧ Below w.heap.size w w' := by
  obtain ⟨l, hlen, hr, hc, hb⟩ := Go.Proofs.Ytljmjeaocojnmaa.Com.reads_of_row w2
  clear w2
  subst hlen
  by_cases hbig : 200 < l.length
  · exact sopens_big a0 a1 a2 l.length cap2 a3 a4 w l0 l3 hbig
  · exact sopens_few a0 a1 a2 l.length cap2 l a3 a4 w l0 b0 (Com.range64 w1) hr hc (by omega) hb l3 b3
end Go.Proofs.Ytljmjeaocojnmaa.HEa
end
section
set_option linter.unusedVariables false
set_option linter.unusedSimpArgs false
namespace Go.Proofs.Ytljmjeaocojnmaa.Kit
open Go.RowKit Go.Proofs.YtljmjeaocojnmaaW.PrintWords Go.WideMaps
section
variable {H : Type} {enc : TypeId × Value → H} {P : Program} {k e : TypeId} {n : Nat} {q : IntKind} {W : World} {base : Nat} {sp : Nat → Bool} {held : Bool}
theorem cells_nums (he : P.underlying e = some (.int q)) {m : Nat} {cs : List Value} : ∀ (L : List Nat) (xs : List (DataW H × List MemPlace)),
    L.mapM (fun i => DataW.trod enc P W base sp held m e ((cs.drop (i * 1)).take 1)) = some xs → ∃ zs : List Int, zs.length = L.length ∧ (∀ (j i : Nat), L[j]? = some i → cs[i]? = some (Value.int q (zs.getD j 0))) ∧ ∀ z ∈ zs, (Lit.int q z).wf = true
  | [], xs, h => ⟨[], rfl, fun j i hj => by simp at hj, fun z hz => by simp at hz⟩
  | i :: L, xs, h => by
    rw [List.mapM_cons] at h
    simp only [bind, Option.bind_eq_some_iff, pure, Option.some.injEq] at h
    obtain ⟨y, hy, ys, hys, rfl⟩ := h
    obtain ⟨zs, hl, hc, hw⟩ := cells_nums he L ys hys
    obtain ⟨a, ea, rfl, wa⟩ := DataW.trod_int he hy
    refine ⟨a :: zs, by simp [hl], fun j i' hj => ?_, fun z hz => ?_⟩
    · cases j with
      | zero =>
        simp at hj
        subst hj
        have e1 : (cs.drop i)[0]? = some (.int q a) := by
          have h2 := congrArg (fun l : List Value => l[0]?) ea
          simpa [List.getElem?_take] using h2
        simpa using e1
      | succ j => exact hc j i' (by simpa using hj)
    · rcases List.mem_cons.1 hz with rfl | hz
      · exact wa
      · exact hw z hz
theorem open_nums (A : ArrKey P k e n) (he : P.underlying e = some (.int q)) {r : Reach} {b0 : Nat} {v : Value} (hval : Value.okWide P W r b0 k v) {d : DataW H} {ps : List MemPlace} (hd : DataW.Trod enc P W base sp held k v d ps) :
    ∃ zs : List Int, v = .agg (nums q zs).toArray ∧ zs.length = n ∧ ∀ z ∈ zs, (Lit.int q z).wf = true := by
  obtain ⟨xs, rfl, hn⟩ := okWide_arr A hval
  obtain ⟨fuel, hf⟩ := hd
  cases fuel with
  | zero => simp [DataW.trod] at hf
  | succ m =>
    rw [DataW.trod_step] at hf
    unfold DataW.trodStep at hf
    simp only [A.hu, Value.cells] at hf
    rw [if_pos (by rw [A.size]; simpa using hn)] at hf
    simp only [Option.map_eq_some_iff, A.one] at hf
    obtain ⟨ys, hy, e1⟩ := hf
    obtain ⟨zs, hl, hc, hw⟩ := cells_nums he _ ys hy
    have hzl : zs.length = n := by simpa using hl
    refine ⟨zs, ?_, hzl, hw⟩
    congr 1
    apply Array.ext'
    simp only [nums]
    apply List.ext_getElem?
    intro j
    by_cases hj : j < n
    · have := hc j j (by simp [hj])
      rw [this]
      simp [hzl, hj]
    · rw [List.getElem?_eq_none (by simp; omega), List.getElem?_eq_none (by simp; omega)]
end
end Go.Proofs.Ytljmjeaocojnmaa.Kit
end
section
set_option linter.unusedVariables false
set_option linter.unusedSimpArgs false
namespace Go.Proofs.Ytljmjeaocojnmaa.Kit
open Go.RowKit Go.Proofs.YtljmjeaocojnmaaW.PrintWords Go.WideMaps
section
variable {H : Type} {enc : TypeId × Value → H} {P : Program} {k e : TypeId} {n : Nat} {q : IntKind} {W : World} {base : Nat} {sp : Nat → Bool} {held : Bool}
theorem row_part_nums (A : ArrKey P k e n) (he : P.underlying e = some (.int q)) {fuel : Nat} {cs : List Value} {x : DataW H × List MemPlace} (hf : DataW.trod enc P W base sp held fuel k cs = some x) :
    ∃ zs : List Int, cs = nums q zs ∧ zs.length = n ∧ ∀ z ∈ zs, (Lit.int q z).wf = true := by
  cases fuel with
  | zero => simp [DataW.trod] at hf
  | succ m =>
    rw [DataW.trod_step] at hf
    unfold DataW.trodStep at hf
    simp only [A.hu] at hf
    split at hf
    · rename_i hl
      rw [A.size] at hl
      simp only [Option.map_eq_some_iff, A.one] at hf
      obtain ⟨ys, hy, e1⟩ := hf
      obtain ⟨zs, hzl, hc, hw⟩ := cells_nums he _ ys hy
      have hzl' : zs.length = n := by simpa using hzl
      refine ⟨zs, ?_, hzl', hw⟩
      simp only [nums]
      apply List.ext_getElem?
      intro j
      by_cases hj : j < n
      · have := hc j j (by simp [hj])
        rw [this]
        simp [hzl', hj]
      · rw [List.getElem?_eq_none (by omega), List.getElem?_eq_none (by simp; omega)]
    · cases hf
theorem open_two {t : TypeId} {f0 f1 : Field} {n0 n1 : Nat} (ht : P.underlying t = some (.struct #[f0, f1])) (A0 : ArrKey P f0.type e n0) (A1 : ArrKey P f1.type e n1) (he : P.underlying e = some (.int q)) (h0 : f0.offset = 0) (h1 : f1.offset = n0) (hz : P.cellsOf t = n0 + n1)
    {r : Reach} {b0 : Nat} {v : Value} (hval : Value.okWide P W r b0 t v) {d : DataW H} {ps : List MemPlace} (hd : DataW.Trod enc P W base sp held t v d ps) :
    ∃ zs : List Int, v = .agg (nums q zs).toArray ∧ zs.length = n0 + n1 ∧ ∀ z ∈ zs, (Lit.int q z).wf = true := by
  obtain ⟨cs, rfl, hcs⟩ := Go.WideShapes.okWide_struct ht hval
  obtain ⟨fuel, hf⟩ := hd
  obtain ⟨y0, y1, m, -, hl, ha, hb⟩ := Go.ChangeShapes.trod_struct2 ht hf
  simp only [Value.cells] at hl ha hb
  rw [h0, A0.size] at ha
  rw [h1, A1.size] at hb
  obtain ⟨z0, e0, l0, w0⟩ := row_part_nums A0 he ha
  obtain ⟨z1, e1, l1, w1⟩ := row_part_nums A1 he hb
  rw [hz] at hl
  refine ⟨z0 ++ z1, ?_, by rw [List.length_append, l0, l1], fun z hz => ?_⟩
  · congr 1
    apply Array.ext'
    have h2 : cs.toList = cs.toList.take n0 ++ (cs.toList.drop n0).take n1 := by
      rw [List.take_of_length_le (l := cs.toList.drop n0) (by rw [List.length_drop]; omega), List.take_append_drop]
    rw [h2, show cs.toList.take n0 = nums q z0 from by simpa using e0, e1]
    simp [nums]
  · rcases List.mem_append.1 hz with h | h
    · exact w0 z h
    · exact w1 z h
end
end Go.Proofs.Ytljmjeaocojnmaa.Kit
end
