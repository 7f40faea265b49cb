/- Texts of this claim, laid together by a program of this session (wip/tools/pack.py); the print's own words among them are those that print.sh OWN=1 lays for the claim, as far as they are named. -/
import Derived.Deep.RegionHeld3
import Derived.Deep.DrawnRows
import Derived.Lib.SlBytesConst
import Derived.Lib.SmallJoins
import Derived.Test.YtoiiacbbfhlocaaProg
import Derived.Below
import Derived.Deep.Draws
import Derived.Deep.AppendLies
import Derived.Maps.AppendAt
import Derived.OwnWalk
import Derived.Laws.BytesArg
import Derived.Laws.MakeOwn
import Derived.Laws.OwnMore
import Derived.Deep.OwnRows
import Derived.Tactics
import Derived.Lib.ConvBytes
import Derived.Laws.Slices
import Derived.WalkKit
import Derived.KernelRfl
import Derived.RowKit3
import Derived.Deep.LoopGhost
import Derived.Deep.QuietTactic
import Derived.BigQuiet
import Derived.WideLaws
import Derived.Deep.DeepCutAuto
import Derived.Deep.CutBlock
import Derived.Laws.Rows
import Derived.Lib.AppendStr
import Derived.ArgAppend
import Derived.Laws.IdiomCopy
import Derived.OrdersHeld
import Derived.Laws.BitsLemmas
import Derived.RowKit
import Derived.Test.YtoiiacbbfhlocaaQA
import Derived.Test.YtoiiacbbfhlocaaQD
import Derived.Test.YtoiiacbbfhlocaaQE
import Derived.Test.YtoiiacbbfhlocaaQR
section
section
set_option linter.unusedVariables false
set_option linter.unusedSimpArgs false
namespace Go.Proofs.Ytoiiacbbfhlocaa.HHa
open Go.RowKit Go.Proofs.YtoiiacbbfhlocaaW.PrintWords Go.Proofs.YtoiiacbbfhlocaaW.PrintLast Go.Proofs.YtoiiacbbfhlocaaW.PrintMore Go.Proofs.Ytoiiacbbfhlocaa.Kit Go.Proofs.Ytoiiacbbfhlocaa.HSa
def fillK (k : List Int) : List Int := k ++ List.replicate (64 - k.length) 0
def padK (key : List Int) : List Int := fillK (if 64 < key.length then sumF key else key)
def xorB (x : Int) (b : Int) : Int := Go.bits .xor .u8 b x
def padX (key : List Int) (x : Int) : List Int := (padK key).map (xorB x)
theorem fillK_length (k : List Int) (h : k.length ≤ 64) : (fillK k).length = 64 := by unfold fillK; simp; omega
theorem padK_length (key : List Int) : (padK key).length = 64 := by
  unfold padK
  apply fillK_length
  split
  · rw [sumF_len]; omega
  · omega
theorem padX_length (key : List Int) (x : Int) : (padX key x).length = 64 := by simp [padX, padK_length]
def xorN (K : List Int) (x : Int) (k : Nat) : List Int := (K.take k).map (xorB x) ++ K.drop k
theorem xorN_length (K : List Int) (x : Int) (k : Nat) (h : k ≤ K.length) : (xorN K x k).length = K.length := by simp [xorN]; omega
theorem xorN_at (K : List Int) (x : Int) (k : Nat) (h : k < K.length) : (xorN K x k).getD k 0 = K.getD k 0 := by
  unfold xorN
  simp only [List.getD_eq_getElem?_getD]
  rw [List.getElem?_append_right (by simp; omega)]
  simp [show min k K.length = k from by omega]
theorem xorN_set (K : List Int) (x : Int) (k : Nat) (h : k < K.length) : (xorN K x k).set k (xorB x (K.getD k 0)) = xorN K x (k + 1) := by
  unfold xorN
  have hl : ((K.take k).map (xorB x)).length = k := by simp; omega
  have e : K.getD k 0 = K[k] := by simp [List.getD_eq_getElem?_getD, h]
  rw [e, List.drop_eq_getElem_cons h, List.set_append_right _ _ (by omega), hl, Nat.sub_self, List.set_cons_zero, List.take_succ_eq_append_getElem h, List.map_append, List.append_assoc]
  rfl
theorem sum_zeros (key : List Int) (h : sumF key = List.replicate 32 0) : fillK (sumF key) = fillK [] := by rw [h]; rfl
attribute [local irreducible] sumF fillK padK xorN
set_option maxHeartbeats 2000000 in
set_option maxRecDepth 100000 in
theorem pad_any (A0 : Option Addr) (c0 : Nat) (key : List Int) (x : Int) (w : World) (hr : Kd.C (Kd.int .u8) w A0 key.length key) (hc : key.length ≤ c0) (hl : key.length ≤ 100000) :
    Calls Try.prog 145 #[.slice A0 key.length c0, .int .u8 x] w (OutB w (padX key x)) := by
  have HR := Lib.hid hr
  obtain ⟨n, hn⟩ : ∃ n, n = key.length := ⟨_, rfl⟩
  have HN := Lib.hid hn
  rw [← hn] at hc hl ⊢
  clear hr hn
  have HPK : Hid (padK key = fillK (if 64 < key.length then sumF key else key)) := Lib.hid (by unfold padK; rfl)
  by_cases hbig : 64 < n
  focus
    have HS := sum_any A0 c0 key w HR.out (by rw [← HN.out]; exact hc) (by rw [← HN.out]; omega)
    rw [← HN.out] at HS
    have HS := Lib.hid HS
    obtain ⟨xs, hxs⟩ : ∃ xs, xs = sumF key := ⟨_, rfl⟩
    have HXL : Hid (xs.length = 32) := Lib.hid (by rw [hxs]; exact sumF_len key)
    have hpk : padK key = fillK xs := by rw [HPK.out, if_pos (by rw [← HN.out]; exact hbig), hxs]
    have HP := Lib.hid hpk
    have HXE := Lib.hid hxs
    obtain ⟨Z, hZ⟩ : ∃ Z : List Int, Z = List.replicate 32 0 := ⟨_, rfl⟩
    have heq := fun w => eql_arrs (P := Try.prog) 24 5 32 .u8 xs Z Try.underlying24 Try.underlying5 (by kernel_rfl) HXL.out (by rw [hZ]; simp) w
    have hpz : decide (xs = Z) = true → padK key = fillK [] := fun h => by rw [hpk, hxs]; exact sum_zeros key (by rw [← hxs, ← hZ]; simpa using h)
    have HPZ := Lib.hid hpz
    have HZE := Lib.hid hZ
    clear hpk hpz hxs hZ
    have hgt : Try.prog.eqGuardType Try.prog.depth 24 = false := by kernel_rfl
    cases hz : decide (xs = Z)
    all_goals
      rw [hz] at heq
      have HZ := Lib.hid hz
      clear hz
      go_enter Try.func145, Try.ntmps145
      go_wp2_with fail
      refine HS.out.mono ?_
      rintro e w1 ⟨rfl, hB1⟩
      rw [← HXE.out]
      go_wp2_with (first
        | ((with_reducible refine gate_dst (N := 5) rfl ?_); refine alloc_arr rfl 24 rfl .u8 (List.replicate 32 0) (fun w => Try.zeroValue24 w) (by first | (go_simp; done) | (go_simp; rfl)) ?_; intro w2 hA2 hB2)
        | ((with_reducible refine gate_store (t := 24) (p := 5) rfl ?_); refine store_arr rfl 24 _ _ rfl w1.heap.size .u8 xs rfl rfl 24 _ hA2 (by rw [HXL.out]; rfl) (by rw [HXL.out]; kernel_rfl) ?_; intro w3 hA3 hw3; have hB3 := below_setRow hB2 w1.heap.size (Nat.le_refl _) (nums .u8 xs).toArray; rw [← hw3] at hB3; have hB13 := below_next hB1 hB3; clear hw3 hA2 hB2)
        | ((with_reducible refine gate_dst (N := 6) rfl ?_); refine alloc_arr rfl 24 rfl .u8 (List.replicate 32 0) (fun w => Try.zeroValue24 w) (by first | (go_simp; done) | (go_simp; rfl)) ?_; intro w4 hA4 hB4)
        | ((with_reducible refine gate_store (t := 24) (p := 6) rfl ?_); refine store_arr rfl 24 _ _ rfl w3.heap.size .u8 Z rfl (by rw [HZE.out]; rfl) 24 _ hA4 (by rw [HZE.out]) (by rw [HZE.out]; kernel_rfl) ?_; intro w5 hA5 hw5; have hB5 := below_setRow hB4 w3.heap.size (Nat.le_refl _) (nums .u8 Z).toArray; rw [← hw5] at hB5; have HA35 := Lib.hid (hA3.next hB5); have HA5 := Lib.hid hA5; have HB15 := Lib.hid (below_next hB13 hB5); clear hw5 hA5 hA4 hB4 hB5 hA3 hB3 hB13)
        | ((with_reducible refine gate_dst (N := 15) rfl ?_); refine load_arr rfl 24 _ rfl w1.heap.size rfl .u8 _ _ _ _ HA35.out Try.underlying24 (by rw [HXL.out]; kernel_rfl) ?_)
        | ((with_reducible refine gate_dst (N := 16) rfl ?_); refine load_arr rfl 24 _ rfl w3.heap.size rfl .u8 _ _ _ _ HA5.out Try.underlying24 (by rw [HZE.out]; kernel_rfl) ?_)
        | ((with_reducible refine gate_dst (N := 19) rfl ?_); refine make_arr rfl 29 _ _ rfl 5 .u8 64 rfl rfl (fun w => by kernel_rfl) ?_; intro w6 hA6 hB6)
        | ((with_reducible refine gate_builtin (b := .copy) (xs := #[.tmp 20, .tmp 21]) rfl ?_); refine copy_wp rfl (.tmp 20) (.tmp 21) 29 29 5 rfl w5.heap.size 64 64 (some ⟨w1.heap.size, 0, none⟩) 32 32 (List.replicate 64 0) xs rfl rfl hA6 ((HA35.out.next hB6).reads 32 HXL.out (by decide)) Try.underlying29 (by kernel_rfl) (by simp) (by decide) ?_; intro w7 hA7 hw7; have hB7 : Below w5.heap.size w5 w7 := (by rw [hw7]; exact below_sets (Nat.le_refl _) _ _ hB6); clear hw7 hA6 hB6)
        | ((with_reducible refine gate_builtin (b := .copy) (xs := #[.tmp 20, .tmp 21]) rfl ?_); refine copy_wp rfl (.tmp 20) (.tmp 21) 29 29 5 rfl w5.heap.size 64 64 none 0 0 (List.replicate 64 0) [] rfl rfl hA6 (Kd.C_nil _ _) Try.underlying29 (by kernel_rfl) (by simp) (by decide) ?_; intro w7 hA7 hw7; have hB7 : Below w5.heap.size w5 w7 := (by rw [hw7]; exact below_sets (Nat.le_refl _) _ _ hB6); clear hw7 hA6 hB6)
        | fail)
      have HA0 : Hid (Arr .u8 5 w7 w5.heap.size (padK key)) := Lib.hid (by
        first
          | (have e : xs ++ (List.replicate 64 (0 : Int)).drop 32 = padK key := by rw [HP.out]; unfold fillK; rw [HXL.out]; rfl
             rw [e] at hA7; exact hA7)
          | (have e : ([] : List Int) ++ (List.replicate 64 (0 : Int)).drop 0 = padK key := by rw [HPZ.out HZ.out]; unfold fillK; rfl
             rw [e] at hA7; exact hA7))
      have HB0 : Hid (Below w.heap.size w w7) := Lib.hid (below_next HB15.out hB7)
      have hgw : w.heap.size ≤ w5.heap.size := HB15.out.size
      clear hA7 hB7 HA35 HA5 HB15 heq hgt hB1
      generalize w5.heap.size = g at *
  rotate_left 2
  focus
    have hpk : padK key = fillK key := by rw [HPK.out, if_neg (by rw [← HN.out]; exact hbig)]
    have HP := Lib.hid hpk
    clear hpk
    go_enter Try.func145, Try.ntmps145
    go_wp2_with (first
      | ((with_reducible refine gate_dst (N := 19) rfl ?_); refine make_arr rfl 29 _ _ rfl 5 .u8 64 rfl rfl (fun w => by kernel_rfl) ?_; intro w6 hA6 hB6)
      | ((with_reducible refine gate_builtin (b := .copy) (xs := #[.tmp 20, .tmp 21]) rfl ?_); refine copy_wp rfl (.tmp 20) (.tmp 21) 29 29 5 rfl w.heap.size 64 64 A0 n c0 (List.replicate 64 0) key rfl rfl hA6 (by have h := Kd.C_below HR.out hB6; rw [← HN.out] at h; exact h) Try.underlying29 (by kernel_rfl) (by simp) (by omega) ?_; intro w7 hA7 hw7; have hB7 : Below w.heap.size w w7 := (by rw [hw7]; exact below_sets (Nat.le_refl _) _ _ hB6); clear hw7 hA6 hB6)
      | fail)
    have HA0 : Hid (Arr .u8 5 w7 w.heap.size (padK key)) := Lib.hid (by
      have e : key ++ (List.replicate 64 (0 : Int)).drop n = padK key := by
        rw [HP.out]
        unfold fillK
        rw [List.drop_replicate, ← HN.out]
      rw [e] at hA7
      exact hA7)
    have HB0 : Hid (Below w.heap.size w w7) := Lib.hid hB7
    obtain ⟨g, hg⟩ : ∃ g, g = w.heap.size := ⟨_, rfl⟩
    rw [← hg] at HA0 ⊢
    have hgw : w.heap.size ≤ g := by omega
    clear hA7 hB7 hg
  all_goals
    have HKL := Lib.hid (padK_length key)
    have HA1 : Hid (Arr .u8 5 w7 g (xorN (padK key) x 0)) := Lib.hid (by unfold xorN; simpa using HA0.out)
    clear HA0
    go_wp2_with fail
    go_loopw [25] (fun iv wr => ∃ k : Nat, iv = .int .i64 k ∧ k ≤ 64 ∧ Hid (Arr .u8 5 wr g (xorN (padK key) x k)) ∧ Hid (Below w.heap.size w wr)) (fun iv _ => 64 - (intOf iv).toNat)
    case atStart => exact ⟨0, rfl, by omega, HA1, HB0⟩
    case round =>
      clear HA1 HB0
      obtain ⟨k, rfl, hk, hA, hB⟩ := hrel
      by_cases hk64 : k < 64
      · have hc1 := hA.out.cellN k (by rw [xorN_length _ _ _ (by rw [HKL.out]; omega), HKL.out]; omega)
        rw [xorN_at _ _ _ (by rw [HKL.out]; omega)] at hc1
        have hf1 := hA.out.free k
        have HS : Hid (xorN (padK key) x (k + 1) = (xorN (padK key) x k).set k (Go.bits .xor .u8 ((padK key).getD k 0) x)) := Lib.hid (xorN_set (padK key) x k (by rw [HKL.out]; omega)).symm
        go_wp2
        go_roundw
        case rel => exact ⟨k + 1, by go_num, by omega, Lib.hid (by rw [HS.out]; exact hA.out.put k _), Lib.hid (below_setCell hB.out _ _ hgw _)⟩
        case measure => simp [intOf]; omega
      · have hk' : k = 64 := by omega
        subst hk'
        have HE : Hid (xorN (padK key) x 64 = padX key x) := Lib.hid (by unfold xorN padX; rw [List.take_of_length_le (by rw [HKL.out]; omega), List.drop_eq_nil_of_le (by rw [HKL.out]; omega), List.append_nil])
        go_wp2
        go_ret
        exact ⟨_, rfl, (by rw [← HE.out]; exact hA.out.row w.heap.size 64 (by rw [HE.out]; exact padX_length key x) hgw (by decide) (fun _ => True) trivial), hB.out⟩
end Go.Proofs.Ytoiiacbbfhlocaa.HHa
end
section
set_option linter.unusedVariables false
set_option linter.unusedSimpArgs false
namespace Go.Proofs.Ytoiiacbbfhlocaa.HHa
open Go.RowKit Go.Proofs.YtoiiacbbfhlocaaW.PrintWords Go.Proofs.YtoiiacbbfhlocaaW.PrintLast Go.Proofs.YtoiiacbbfhlocaaW.PrintMore Go.Proofs.Ytoiiacbbfhlocaa.Kit Go.Proofs.Ytoiiacbbfhlocaa.HSa
attribute [local go_sem ↓] Go.wp_at_zero Go.wp_at_succ
def inF (key b : List Int) : List Int := sumF (padX key 54 ++ b)
def hmF (key b : List Int) : List Int := sumF (padX key 92 ++ inF key b)
theorem inF_length (key b : List Int) : (inF key b).length = 32 := sumF_len _
theorem hmF_length (key b : List Int) : (hmF key b).length = 32 := sumF_len _
theorem arr_there {k : IntKind} {T : TypeId} {w : World} {g : Nat} {xs : List Int} (h : Arr k T w g xs) (n : Nat) (hn : xs.length = n) : w.there g 0 n := fun j hj => by
  rw [Nat.zero_add]
  exact ⟨by rw [h.cellN j (by omega)]; rfl, h.free j⟩
attribute [local irreducible] sumF padX inF hmF
set_option maxHeartbeats 2000000 in
set_option maxRecDepth 100000 in
theorem hsum_any (A0 : Option Addr) (c0 : Nat) (key : List Int) (A1 : Option Addr) (c1 : Nat) (b : List Int) (w : World) (hr : Kd.C (Kd.int .u8) w A0 key.length key) (hc : key.length ≤ c0) (hl : key.length ≤ 100000)
    (hr1 : Kd.C (Kd.int .u8) w A1 b.length b) (hc1 : b.length ≤ c1) (hl1 : b.length ≤ 100000) :
    Calls Try.prog 132 #[.slice A0 key.length c0, .slice A1 b.length c1] w (GivesArr .u8 (hmF key b) w) := by
  have HR := Lib.hid hr
  have HR1 := Lib.hid hr1
  obtain ⟨I, hI⟩ : ∃ I, I = inF key b := ⟨_, rfl⟩
  obtain ⟨E, hE⟩ : ∃ E, E = hmF key b := ⟨_, rfl⟩
  have HIL : Hid (I.length = 32) := Lib.hid (by rw [hI]; exact inF_length key b)
  have HEL : Hid (E.length = 32) := Lib.hid (by rw [hE]; exact hmF_length key b)
  obtain ⟨L1, hL1⟩ : ∃ L, L = padX key 54 ++ b := ⟨_, rfl⟩
  obtain ⟨L2, hL2⟩ : ∃ L, L = padX key 92 ++ I := ⟨_, rfl⟩
  have HI : Hid (sumF L1 = I) := Lib.hid (by rw [hL1, hI]; unfold inF; rfl)
  have HE : Hid (sumF L2 = E) := Lib.hid (by rw [hL2, hI, hE]; unfold hmF; rfl)
  have HL1 := Lib.hid hL1
  have HL2 := Lib.hid hL2
  have HE0 := Lib.hid hE
  obtain ⟨n1, hn1⟩ : ∃ n, n = L1.length := ⟨_, rfl⟩
  have hn1' : n1 ≤ 100064 := by rw [hn1, hL1, List.length_append, padX_length]; omega
  have hn2 : L2.length = 96 := by rw [hL2, List.length_append, padX_length, HIL.out]
  have HN1 := Lib.hid hn1
  have HN2 := Lib.hid hn2
  have HBL : Hid (b.length ≤ 100000) := Lib.hid hl1
  have HKL : Hid (key.length ≤ c0 ∧ key.length ≤ 100000) := Lib.hid ⟨hc, hl⟩
  clear hr hr1 hI hE hL1 hL2 hn1 hn2
  go_enter Try.func132, Try.ntmps132
  go_wp2_with (first
    | ((with_reducible refine gate_dst (N := 4) rfl ?_); refine alloc_arr rfl 24 rfl .u8 (List.replicate 32 0) (fun w => Try.zeroValue24 w) (by first | (go_simp; done) | (go_simp; rfl)) ?_; intro w1 hA1 hB1; have HA1 := Lib.hid hA1; have HB1 := Lib.hid hB1; have HR01 := Lib.hid (Kd.C_below HR.out hB1); have HR11 := Lib.hid (Kd.C_below HR1.out hB1); have hg1 : w.heap.size < w1.heap.size := hA1.lt; clear hA1 hB1)
    | fail)
  refine (pad_any A0 c0 key 54 w1 HR01.out HKL.out.1 HKL.out.2).mono ?_
  rintro e w2 ⟨v2, rfl, hO2, hB2⟩
  have HO2 := Lib.hid hO2
  have HB2 := Lib.hid hB2
  have HR12 := Lib.hid (Kd.C_below HR11.out hB2)
  clear hO2 hB2
  go_wp2_with (first
    | ((with_reducible refine gate_builtin (b := .append) (xs := #[.tmp 7, .tmp 8]) rfl ?_); at_builtin; refine Kd.R_append_rows (Kd.int .u8) (w0 := w1) w1.heap.size rfl (.tmp 7) (.tmp 8) 29 5 (.int .u8 0) 1 rfl Try.underlying29 info5 rfl (by decide) (by omega) v2 (padX key 54) b _ _ _ (fun _ => True) (fun _ => False) rfl rfl HO2.out HR12.out (fun _ _ h => h) (fun _ h => h.elim) (fun _ _ => trivial) HB2.out HB2.out.size ?aL ?_; (case aL => rw [padX_length]; have := HBL.out; omega); intro v3 w3 ho3 hb3 hg3 hat3; rw [← HL1.out] at ho3; have HB3 := Lib.hid hb3; obtain ⟨A3, c3, hv3, hlc3, hrd3⟩ := Kd.R_reads ho3; rw [← HN1.out] at hv3 hlc3 hrd3; subst hv3; have HRD3 := Lib.hid hrd3; clear ho3 hb3 hg3 hat3 hrd3)
    | fail)
  have hS := sum_any A3 c3 L1 w3 (by rw [← HN1.out]; exact HRD3.out) (by rw [← HN1.out]; exact hlc3) (by rw [← HN1.out]; omega)
  rw [← HN1.out, HI.out] at hS
  have HS := Lib.hid hS
  clear hS
  refine HS.out.mono ?_
  rintro e w4 ⟨rfl, hB4⟩
  have HB4 := Lib.hid (below_next HB3.out hB4)
  have HR14 := Lib.hid (Kd.C_below HR01.out HB4.out)
  have HA14 := Lib.hid (HA1.out.next HB4.out)
  clear hB4
  go_wp2_with (first
    | ((with_reducible refine gate_dst (N := 5) rfl ?_); refine alloc_arr rfl 23 rfl .u8 (List.replicate 32 0) (fun w => Try.zeroValue23 w) (by first | (go_simp; done) | (go_simp; rfl)) ?_; intro w5 hA5 hB5)
    | ((with_reducible refine gate_store (t := 23) (p := 5) rfl ?_); refine store_arr rfl 23 _ _ rfl w4.heap.size .u8 I rfl rfl 23 _ hA5 (by rw [HIL.out]; rfl) (by rw [HIL.out]; kernel_rfl) ?_; intro w6 hA6 hw6; have hB6 := below_setRow hB5 w4.heap.size (Nat.le_refl _) (nums .u8 I).toArray; rw [← hw6] at hB6; have HA6 := Lib.hid hA6; have HR16 := Lib.hid (Kd.C_below HR14.out hB6); have HA16 := Lib.hid (HA14.out.next hB6); have HB16 := Lib.hid (below_next HB4.out hB6); have hs6 : w4.heap.size < w6.heap.size := hA6.lt; clear hw6 hA6 hB6 hA5 hB5)
    | fail)
  have hs4 : w1.heap.size ≤ w4.heap.size := HB4.out.size
  generalize hg4 : w4.heap.size = g5 at *
  generalize hg0 : w.heap.size = g4 at *
  have HG0 := Lib.hid hg0
  clear hg0 hg4
  have hth : w6.there g4 0 32 := arr_there HA16.out 32 (by simp)
  have hi : (Try.prog.info? 24).map (·.size) = some (nums .u8 E).length := by rw [show (nums .u8 E).length = 32 from by simp [nums, HEL.out]]; kernel_rfl
  have hcl : (nums .u8 E).length = 32 := by simp [nums, HEL.out]
  have hone : ∀ v ∈ nums .u8 E, v.oneCell' = true := fun v hv => by simp only [nums, List.mem_map] at hv; obtain ⟨x, _, rfl⟩ := hv; rfl
  have hlit : (nums .u8 E).toArray.size = 32 := by simp [nums, HEL.out]
  go_wp2_with fail
  go_region_held3 (fun w' => w'.there g4 0 32)
    (first | go_keep_ranges | exact hkeep | exact World.there_setCells hkeep _ _ _)
    ((first
      | (go_at_call 145; refine (pad_any A0 c0 key 92 _ (by exact Kd.C_drew HR16.out) HKL.out.1 HKL.out.2).mono ?_; rintro e W1 ⟨v9, rfl, hO9, hB9⟩; have hkeep : W1.there g4 0 32 := arr_there (HA16.out.drew.next hB9) 32 (by simp); have HO9 := Lib.hid hO9; have HB9 := Lib.hid hB9; clear hO9 hB9)
      | ((refine Kd.R_append_rows_step (Kd.int .u8) (w0 := w6.drew) w6.heap.size (by rfl) (.tmp 12) (.tmp 13) 29 5 (.int .u8 0) 1 (by rfl) Try.underlying29 info5 rfl (by decide) (by omega) v9 (padX key 92) I (some ⟨g5, 0, none⟩) 32 32 (fun _ => True) (fun _ => False) (by rfl) (by rfl) (by exact HO9.out) (by exact (HA6.out.drew.next HB9.out).reads 32 HIL.out (by decide)) (fun _ _ h => h) (fun _ h => h.elim) (fun _ _ => trivial) (by exact HB9.out) (by exact HB9.out.size) (by rw [padX_length]; omega) ?_); intro v10 W2 ho10 hb10 hg10 hat10; have hkeep : W2.there g4 0 32 := arr_there (HA16.out.drew.next hb10) 32 (by simp); have HB10 := Lib.hid hb10; rw [← HL2.out] at ho10; obtain ⟨A10, c10, hv10, hlc10, hrd10⟩ := Kd.R_reads ho10; have HRD10 := Lib.hid hrd10; subst hv10; clear ho10 hb10 hg10 hat10 hrd10)
      | (go_at_call 144; (refine (sum_any A10 c10 L2 _ (by exact HRD10.out) hlc10 (by rw [HN2.out]; omega)).mono ?_); rintro e W3 ⟨rfl, hB11⟩; have hkeep : W3.there g4 0 32 := arr_there (HA16.out.drew.next (below_next (w := w6.drew) HB10.out hB11)) 32 (by simp); have HB11 := Lib.hid (below_next (w := w6.drew) HB10.out hB11); rw [HE.out]; clear hB11)))
  have HF : Hid (Arr .u8 24 (W3.setCells g4 0 (nums .u8 E)) g4 E) := Lib.hid (by
    have h := (HA16.out.drew.next HB11.out).cells E 0 (by rw [HEL.out]; simp)
    have e : (List.replicate 32 (0 : Int)).take 0 ++ E ++ (List.replicate 32 (0 : Int)).drop (0 + E.length) = E := by rw [HEL.out]; simp
    rwa [e] at h)
  have HBF : Hid (Below w.heap.size w (W3.setCells g4 0 (nums .u8 E))) := Lib.hid (by
    rw [HG0.out]
    refine below_sets (Nat.le_refl _) _ _ ?_
    have h1 : Below g4 w w6 := HB1.out.trans (HB16.out.mono (by omega))
    exact (below_drew h1).trans (HB11.out.mono (by show g4 ≤ w6.heap.size; omega)))
  go_wp2_with fail
  exact bodyPost_ret (results_arr rfl _ _ g4 .u8 _ _ _ E rfl HF.out Try.underlying24 (by rw [HEL.out]; kernel_rfl)) rfl ⟨by rw [HE0.out], HBF.out⟩
end Go.Proofs.Ytoiiacbbfhlocaa.HHa
end
section
set_option linter.unusedVariables false
set_option linter.unusedSimpArgs false
namespace Go.Proofs.Ytoiiacbbfhlocaa.HHa
open Go.RowKit Go.Proofs.YtoiiacbbfhlocaaW.PrintWords Go.Proofs.YtoiiacbbfhlocaaW.PrintLast Go.Proofs.YtoiiacbbfhlocaaW.PrintMore Go.Proofs.Ytoiiacbbfhlocaa.Kit Go.Proofs.Ytoiiacbbfhlocaa.HSa
def len4 (n : Nat) : List Int := [(n : Int) / 16777216 % 256, (n : Int) / 65536 % 256, (n : Int) / 256 % 256, (n : Int) % 256]
def jN (ps : List (List Int)) : Nat → List Int
  | 0 => []
  | k + 1 => jN ps k ++ len4 (ps.getD k []).length ++ ps.getD k []
def jF (ps : List (List Int)) : List Int := jN ps ps.length
attribute [local irreducible] sumF padX inF hmF jN
set_option maxHeartbeats 2000000 in
set_option maxRecDepth 100000 in
theorem join_any (A0 : Option Addr) (c0 : Nat) (key : List Int) (A1 : Option Addr) (c1 : Nat) (ps : List (List Int)) (w : World) (hr : Kd.C (Kd.int .u8) w A0 key.length key) (hc : key.length ≤ c0) (hl : key.length ≤ 100000)
    (hr1 : Kd.C (Kd.slice 5 (Kd.int .u8)) w A1 ps.length ps) (hc1 : ps.length ≤ c1) (hm : ps.length ≤ 100000) (hs : ∀ k, k ≤ ps.length → (jN ps k).length ≤ 90000) :
    Calls Try.prog 117 #[.slice A0 key.length c0, .slice A1 ps.length c1] w (GivesArr .u8 (hmF key (jF ps)) w) := by
  have HR := Lib.hid hr
  have HR1 := Lib.hid hr1
  have HS := Lib.hid hs
  obtain ⟨n, hn⟩ : ∃ n, n = ps.length := ⟨_, rfl⟩
  have HN := Lib.hid hn
  rw [← hn] at hc1 hm HR1 HS ⊢
  have HKL : Hid (key.length ≤ c0 ∧ key.length ≤ 100000) := Lib.hid ⟨hc, hl⟩
  clear hr hr1 hs hn
  have HAT : Hid (∀ k, k < n → ∃ b off A' c', A1 = some ⟨b, off, none⟩ ∧ w.cell? ⟨b, off + k, none⟩ = some (.slice A' (ps.getD k []).length c') ∧ (ps.getD k []).length ≤ c' ∧ Kd.C (Kd.int .u8) w A' (ps.getD k []).length (ps.getD k [])) := Lib.hid (fun k hk => by
    obtain ⟨b, off, e, h⟩ := rows_at HR1.out (by omega)
    obtain ⟨A', c', h1, h2, h3⟩ := h k hk
    exact ⟨b, off, A', c', e, h1, h2, h3⟩)
  go_enter Try.func117, Try.ntmps117
  go_wp2_with (first
    | ((with_reducible refine gate_dst (N := 4) rfl ?_); refine alloc_arr rfl 24 rfl .u8 (List.replicate 32 0) (fun w => Try.zeroValue24 w) (by first | (go_simp; done) | (go_simp; rfl)) ?_; intro w1 hA1 hB1; have HA1 := Lib.hid hA1; have HB1 := Lib.hid hB1; have hg1 : w.heap.size < w1.heap.size := hA1.lt; clear hA1 hB1)
    | fail)
  have H0 : Hid (Kd.R (Kd.int .u8) 5 w1 w1.heap.size (fun _ => True) (.slice none 0 0) (jN ps 0)) := Lib.hid (by unfold jN; exact Kd.R_nil _ _ _ _ _)
  go_loopw [5, 11] (fun v iv wr => ∃ (k m : Nat) (A' : Option Addr) (c' : Nat), v = .slice A' m c' ∧ iv = .int .i64 k ∧ k ≤ n ∧ Hid (m = (jN ps k).length) ∧ Hid (Kd.R (Kd.int .u8) 5 wr w1.heap.size (fun _ => True) (.slice A' m c') (jN ps k)) ∧ Hid (Below w1.heap.size w1 wr)) (fun _ iv _ => n - (intOf iv).toNat)
  case atStart => exact ⟨0, 0, none, 0, rfl, rfl, by omega, Lib.hid (by unfold jN; rfl), H0, Lib.hid (Below.refl _ _)⟩
  case round =>
    clear H0
    obtain ⟨k, m, A', c', rfl, rfl, hk, hm', hO, hB⟩ := hrel
    by_cases hkn : k < n
    · obtain ⟨b, off, Ap, cp, eA, hcell, hlp, hCp⟩ := HAT.out k hkn
      have hBw := below_next HB1.out hB.out
      have hcellr := (hBw.cell (p := ⟨b, off + k, none⟩) (World.block_lt_of_cell? w _ hcell)).trans hcell
      have HCp := Lib.hid hCp
      obtain ⟨p, hp⟩ : ∃ p, p = ps.getD k [] := ⟨_, rfl⟩
      obtain ⟨lp, hlp'⟩ : ∃ l, l = p.length := ⟨_, rfl⟩
      rw [← hp] at hcellr hlp HCp
      rw [← hlp'] at hcellr hlp HCp
      have HJ : Hid (jN ps (k + 1) = jN ps k ++ len4 lp ++ p) := Lib.hid (by rw [jN, ← hp, ← hlp'])
      have hJL : (jN ps k).length + 4 + lp ≤ 90000 := by
        have h := HS.out (k + 1) (by omega)
        rw [HJ.out, List.length_append, List.length_append, ← hlp'] at h
        simpa [len4] using h
      have hlp9 : lp ≤ 90000 := by omega
      have HJL := Lib.hid hJL
      have HLP := Lib.hid hlp'
      subst eA
      have HD : Hid (len4 lp = [(lp : Int) / 16777216, (lp : Int) / 65536, (lp : Int) / 256 % 256, (lp : Int) % 256]) := Lib.hid (by unfold len4; rw [show (lp : Int) / 16777216 % 256 = (lp : Int) / 16777216 from by omega, show (lp : Int) / 65536 % 256 = (lp : Int) / 65536 from by omega])
      clear hcell hBw hp hlp' hCp hJL
      go_wp2_with (first
        | ((with_reducible refine gate_builtin (b := .append) (xs := #[.tmp 17, .tmp 29]) rfl ?_); at_builtin; go_loud (refine Kd.R_append_rows (Kd.int .u8) (w0 := w1) w1.heap.size rfl (.tmp 17) (.tmp 29) 29 5 (.int .u8 0) 1 rfl Try.underlying29 info5 rfl (by decide) (by omega) (.slice A' m c') (jN ps k) [(lp : Int) / 16777216, (lp : Int) / 65536, (lp : Int) / 256 % 256, (lp : Int) % 256] (some ⟨wr.heap.size, 0, none⟩) 4 4 (fun _ => True) (fun _ => False) rfl rfl (Kd.R_alloc hO.out _) (by exact lit_reads .u8 [(lp : Int) / 16777216, (lp : Int) / 65536, (lp : Int) / 256 % 256, (lp : Int) % 256] rfl rfl (by simp) wr _) (fun _ _ h => h) (fun _ h => h.elim) (fun _ _ => trivial) (below_alloc hB.out _) (by have := hB.out.size; simp; omega) (by have := HJL.out; omega) ?_); intro v3 w3 ho3 hb3 hg3 hat3; rw [← HD.out] at ho3; have HO3 := Lib.hid ho3; have HB3 := Lib.hid hb3; have HCp3 := Lib.hid (Kd.C_below HCp.out (below_next HB1.out hb3)); clear ho3 hb3 hg3 hat3)
        | ((with_reducible refine gate_builtin (b := .append) (xs := #[.tmp 31, .tmp 32]) rfl ?_); at_builtin; refine Kd.R_append_rows (Kd.int .u8) (w0 := w1) w1.heap.size rfl (.tmp 31) (.tmp 32) 29 5 (.int .u8 0) 1 rfl Try.underlying29 info5 rfl (by decide) (by omega) v3 (jN ps k ++ len4 lp) p Ap lp cp (fun _ => True) (fun _ => False) rfl rfl HO3.out HCp3.out (fun _ _ h => h) (fun _ h => h.elim) (fun _ _ => trivial) HB3.out HB3.out.size (by rw [List.length_append]; have := HJL.out; simp only [len4, List.length_cons, List.length_nil]; omega) ?_; intro v4 w4 ho4 hb4 hg4 hat4; rw [← HJ.out] at ho4; have HO4 := Lib.hid ho4; have HB4 := Lib.hid hb4; clear ho4 hb4 hg4 hat4)
        | fail)
      obtain ⟨A4, c4, e4⟩ := Kd.R_slice HO4.out
      subst e4
      go_roundw
      case rel => exact ⟨k + 1, _, A4, c4, rfl, by go_num, by omega, Lib.hid rfl, HO4, HB4⟩
      case measure => simp [intOf]; omega
    · have hk' : k = n := by omega
      subst hk'
      have HJF : Hid (jF ps = jN ps k) := Lib.hid (by unfold jF; rw [HN.out])
      have hm9 : m ≤ 90000 := by rw [hm'.out]; exact HS.out k (by omega)
      have HC := Lib.hid (Kd.R_reads' hO.out).2.2
      have hmc : m ≤ c' := (Kd.R_reads' hO.out).2.1
      have HBw := Lib.hid (below_next HB1.out hB.out)
      obtain ⟨J, hJ⟩ : ∃ J, J = jN ps k := ⟨_, rfl⟩
      rw [← hJ] at HC hm'
      have HJE := Lib.hid hJ
      have hX := hsum_any A0 c0 key A' c' J wr (Kd.C_below HR.out HBw.out) HKL.out.1 HKL.out.2 (by rw [← hm'.out]; have h := HC.out; rw [← hm'.out] at h; exact h) (by rw [← hm'.out]; exact hmc) (by rw [← hm'.out]; omega)
      rw [← hm'.out] at hX
      have HX := Lib.hid hX
      clear hX hJ
      obtain ⟨wo, hwo⟩ : ∃ wo : World, wo = wr := ⟨_, rfl⟩
      subst hwo
      have HAw := Lib.hid (HA1.out.next hB.out)
      go_wp2_with fail
      refine HX.out.mono ?_
      rintro e w5 ⟨rfl, hB5⟩
      obtain ⟨E, hE⟩ : ∃ E, E = hmF key J := ⟨_, rfl⟩
      have HEL : Hid (E.length = 32) := Lib.hid (by rw [hE]; exact hmF_length key J)
      have HEE := Lib.hid hE
      rw [← hE]
      have HAx := Lib.hid (HAw.out.next hB5)
      have HBx := Lib.hid (below_next HBw.out hB5)
      clear hE hB5
      go_wp2_with (first
        | ((with_reducible refine gate_store (t := 24) (p := 4) rfl ?_); refine store_arr rfl 24 _ _ rfl w.heap.size .u8 E rfl rfl 24 _ HAx.out (by rw [HEL.out]; rfl) (by rw [HEL.out]; kernel_rfl) ?_; intro w6 hA6 hw6; subst hw6)
        | fail)
      exact bodyPost_ret (results_arr rfl _ _ w.heap.size .u8 _ _ _ E rfl hA6 Try.underlying24 (by rw [HEL.out]; kernel_rfl)) rfl ⟨by rw [HEE.out, HJE.out, HJF.out], below_setRow HBx.out _ (Nat.le_refl _) _⟩
end Go.Proofs.Ytoiiacbbfhlocaa.HHa
end
end
section
section
set_option linter.unusedVariables false
set_option linter.unusedSimpArgs false
namespace Go.Proofs.Ytoiiacbbfhlocaa.HHa
open Go.RowKit Go.Proofs.YtoiiacbbfhlocaaW.PrintWords Go.Proofs.YtoiiacbbfhlocaaW.PrintLast Go.Proofs.YtoiiacbbfhlocaaW.PrintMore Go.Proofs.Ytoiiacbbfhlocaa.Kit Go.Proofs.Ytoiiacbbfhlocaa.HSa Go.Proofs.Ytoiiacbbfhlocaa.Sa
attribute [local go_sem ↓] Go.wp_at_zero Go.wp_at_succ
attribute [local irreducible] sumF padX inF hmF jN iv consts allF comeN padK fillK
structure KeyAt (w : World) (g : Nat) (K : List Int) (AK : Option Addr) (cK : Nat) (AR : Option Addr) (cR : Nat) (AC : Option Addr) (cC : Nat) : Prop where
  blk : w.heap[g]? = some (.cells #[.slice AK 64 cK, .slice AR 8 cR, .slice AC 64 cC] 173 (0, 0))
  k : Kd.C (Kd.int .u8) w AK 64 K
  ck : 64 ≤ cK
  r : Kd.C (Kd.int .u32) w AR 8 iv
  cr : 8 ≤ cR
  c : Kd.C (Kd.int .u32) w AC 64 consts
  cc : 64 ≤ cC
namespace KeyAt
variable {w w1 : World} {g : Nat} {K : List Int} {AK AR AC : Option Addr} {cK cR cC : Nat}
theorem lt (h : KeyAt w g K AK cK AR cR AC cC) : g < w.heap.size := (Array.getElem?_eq_some_iff.1 h.blk).1
theorem next (h : KeyAt w g K AK cK AR cR AC cC) (hb : Below w.heap.size w w1) : KeyAt w1 g K AK cK AR cR AC cC :=
  ⟨(hb.block g h.lt).trans h.blk, Kd.C_below h.k hb, h.ck, Kd.C_below h.r hb, h.cr, Kd.C_below h.c hb, h.cc⟩
theorem drew (h : KeyAt w g K AK cK AR cR AC cC) : KeyAt w.drew g K AK cK AR cR AC cC := h.next (below_drew (Below.refl _ _))
theorem cell (h : KeyAt w g K AK cK AR cR AC cC) : w.cell? ⟨g, 0, none⟩ = some (.slice AK 64 cK) ∧ w.cell? ⟨g, 1, none⟩ = some (.slice AR 8 cR) ∧ w.cell? ⟨g, 2, none⟩ = some (.slice AC 64 cC) := by
  unfold World.cell?
  simp [h.blk]
end KeyAt
def zs (n : Nat) : List Int := List.replicate n 0
attribute [local irreducible] zs
end Go.Proofs.Ytoiiacbbfhlocaa.HHa
end
section
set_option linter.unusedVariables false
set_option linter.unusedSimpArgs false
namespace Go.Proofs.Ytoiiacbbfhlocaa.HHa
open Go.RowKit Go.Proofs.YtoiiacbbfhlocaaW.PrintWords Go.Proofs.YtoiiacbbfhlocaaW.PrintLast Go.Proofs.YtoiiacbbfhlocaaW.PrintMore Go.Proofs.Ytoiiacbbfhlocaa.Kit Go.Proofs.Ytoiiacbbfhlocaa.HSa Go.Proofs.Ytoiiacbbfhlocaa.Sa
attribute [local go_sem ↓] Go.wp_at_zero Go.wp_at_succ
def mapX (K : List Int) (x : Int) : List Int := K.map (xorB x)
def wX (K : List Int) (x : Int) (k : Nat) : List Int := (K.map (xorB x)).take k
attribute [local irreducible] sumF padX inF hmF jN iv consts allF comeN padK fillK wX mapX
def kF (K b : List Int) : List Int := sumF (mapX K 92 ++ sumF (mapX K 54 ++ b))
end Go.Proofs.Ytoiiacbbfhlocaa.HHa
end
section
set_option linter.unusedVariables false
set_option linter.unusedSimpArgs false
namespace Go.Proofs.Ytoiiacbbfhlocaa.HHa
open Go.RowKit Go.Proofs.YtoiiacbbfhlocaaW.PrintWords Go.Proofs.YtoiiacbbfhlocaaW.PrintLast Go.Proofs.YtoiiacbbfhlocaaW.PrintMore Go.Proofs.Ytoiiacbbfhlocaa.Kit Go.Proofs.Ytoiiacbbfhlocaa.HSa Go.Proofs.Ytoiiacbbfhlocaa.Sa
attribute [local go_sem ↓] Go.wp_at_zero Go.wp_at_succ
attribute [local irreducible] sumF padX inF hmF jN iv consts allF comeN padK fillK
end Go.Proofs.Ytoiiacbbfhlocaa.HHa
end
end
section
set_option linter.unusedVariables false
set_option linter.unusedSimpArgs false
namespace Go.Proofs.Ytoiiacbbfhlocaa.HHa
open Go.RowKit Go.Proofs.YtoiiacbbfhlocaaW.PrintWords Go.Proofs.YtoiiacbbfhlocaaW.PrintLast Go.Proofs.YtoiiacbbfhlocaaW.PrintMore Go.Proofs.Ytoiiacbbfhlocaa.Kit Go.Proofs.Ytoiiacbbfhlocaa.HSa Go.Proofs.Ytoiiacbbfhlocaa.Sa
attribute [local go_sem ↓] Go.wp_at_zero Go.wp_at_succ
attribute [local irreducible] sumF padX inF hmF jN iv consts allF comeN padK fillK
end Go.Proofs.Ytoiiacbbfhlocaa.HHa
end
section
namespace Go.Proofs.Ytoiiacbbfhlocaa.Hj
open Go.RowKit Go.Proofs.YtoiiacbbfhlocaaW.PrintWords Go.Proofs.YtoiiacbbfhlocaaW.PrintLast Go.Proofs.YtoiiacbbfhlocaaW.PrintMore
attribute [local go_sem] max2_int min2_int max_two min_two max_three min_three max_four min_four   -- for this text's walks alone
set_option linter.unusedVariables false
set_option linter.unusedSimpArgs false
def errW : Option Int → Value
  | none => .nilIface
  | some c => .iface 0 (.int .i64 c)
theorem errW_none : errW none = .nilIface := rfl
theorem errW_some (c : Int) : errW (some c) = .iface 0 (.int .i64 c) := rfl
theorem info5 : (Try.prog.info? 5).map (fun i => (i.zero, i.size, i.bytes)) = some (some (.int .u8 0), 1, 1) := by kernel_rfl
-- the values' own types
def rd_L1 (xs : List (List Int)) (i : Int) : (List Int) := xs.getD i.toNat ([] : List Int)
theorem at_L1 {w : World} {A : Option Addr} {n : Nat} {xs : List (List Int)} (h : Kd.C (Kd.slice 5 (Kd.int .u8)) w A n xs) (i : Int) (h0 : 0 ≤ i) (h1 : i < n) : ∃ ad A0 c0, A = some ad ∧ w.cell? (ad.add i.toNat) = some (.slice A0 (rd_L1 xs i).length c0) ∧ (rd_L1 xs i).length ≤ c0 ∧ (Kd.int .u8).C w A0 (rd_L1 xs i).length (rd_L1 xs i) := by
  obtain ⟨ad, c, e, _, hK, hc0⟩ := Kd.C_get h ([] : List Int) i h0 h1
  have hc : ∀ j u, c[j]? = some u → w.cell? (ad.add (i.toNat * 1 + j)) = some u := hc0
  obtain ⟨A0, c0, rfl, l0, g0⟩ := hK
  exact ⟨ad, A0, c0, e, by have hq := hc 0 _ rfl; rwa [Nat.mul_one, Nat.add_zero] at hq, l0, g0⟩
end Go.Proofs.Ytoiiacbbfhlocaa.Hj
end
section
namespace Go.Proofs.Ytoiiacbbfhlocaa.Hj
open Go.RowKit Go.Proofs.YtoiiacbbfhlocaaW.PrintWords Go.Proofs.YtoiiacbbfhlocaaW.PrintLast Go.Proofs.YtoiiacbbfhlocaaW.PrintMore
attribute [local go_sem] max2_int min2_int max_two min_two max_three min_three max_four min_four   -- for this text's walks alone
set_option linter.unusedVariables false
set_option linter.unusedSimpArgs false
/-! ### padlockref02_Joined: function 131 -/
def padlockref02_Joined.l0 : Nat → List (List Int) → List Int → Int → Option (List Int)
  | 0, _, _, _ => none
  | k + 1, x0, x3, x4 => if x4 < (x0.length : Int) then (if 0 ≤ x4 then ((some (([(wrap64 (((rd_L1 x0 x4).length : Int) / 16777216)) % 256, (wrap64 (((rd_L1 x0 x4).length : Int) / 65536)) % 256, (wrap64 (((rd_L1 x0 x4).length : Int) / 256)) % 256, (((rd_L1 x0 x4).length : Int)) % 256] : List Int) : List Int)).bind fun y102 => (if x3.length + y102.length < 140737488355328 then ((some (x3 ++ y102 : List Int)).bind fun y105 => (if y105.length + (rd_L1 x0 x4).length < 140737488355328 then (padlockref02_Joined.l0 k x0 (y105 ++ (rd_L1 x0 x4)) (wrap64 (x4 + 1))) else (none))) else (none))) else (none)) else (some x3)
def padlockref02_Joined.f (k : Nat) (l0 : List (List Int)) : Option (List Int) := padlockref02_Joined.l0 k l0 ([] : List Int) 0
theorem padlockref02_Joined.mono_l : ∀ k, (∀ y0 y1 y2, LeO (padlockref02_Joined.l0 k y0 y1 y2) (padlockref02_Joined.l0 (k + 1) y0 y1 y2))
  | 0 => fun _ _ _ r h => by simp [padlockref02_Joined.l0] at h
  | k + 1 => by
    have ih0 := padlockref02_Joined.mono_l k
    · intro y0 y1 y2
      unfold padlockref02_Joined.l0
      repeat' first
      | (with_reducible exact ih0 _ _ _)
      | (with_reducible exact LeO.refl _)
      | (with_reducible exact LeO.none _)
      | (with_reducible refine LeO.ite ?_ ?_)
      | (with_reducible refine LeO.bind ?_ (fun _ => ?_))
      | exact ih0 _ _ _
      | exact LeO.none _
      | refine LeO.ite ?_ ?_
      | refine LeO.bind ?_ (fun _ => ?_)
theorem padlockref02_Joined.mono : ∀ a0 k, LeO (padlockref02_Joined.f k a0) (padlockref02_Joined.f (k + 1) a0) := by
  intro a0 k
  have ih0 := padlockref02_Joined.mono_l k
  unfold padlockref02_Joined.f
  repeat' first
      | (with_reducible exact ih0 _ _ _)
      | (with_reducible exact LeO.refl _)
      | (with_reducible exact LeO.none _)
      | (with_reducible refine LeO.ite ?_ ?_)
      | (with_reducible refine LeO.bind ?_ (fun _ => ?_))
      | exact ih0 _ _ _
      | exact LeO.none _
      | refine LeO.ite ?_ ?_
      | refine LeO.bind ?_ (fun _ => ?_)
set_option maxHeartbeats 8000000 in
set_option maxRecDepth 100000 in
theorem padlockref02_Joined.calls (k : Nat) (A0 : Option Addr) (c0 : Nat) (l0 : List (List Int)) (r : List Int) (w : World) (hr0 : Kd.C (Kd.slice 5 (Kd.int .u8)) w A0 l0.length l0) (hc0 : l0.length ≤ c0) (h : padlockref02_Joined.f k l0 = some r) :
    Calls Try.prog 131 #[.slice A0 l0.length c0] w fun e w' => ∃ v0_ : Value, e = .returned (v0_) ∧ Kd.R (Kd.int .u8) 5 w' w.heap.size (fun _ => True) v0_ r ∧ Below w.heap.size w w' := by
  have HR0 := Aside0.mk hr0
  have HC0 := Aside0.mk hc0
  clear hr0 hc0
  have HB := Aside0.mk (Below.refl w.heap.size w)
  have H : (padlockref02_Joined.l0 k l0 ([] : List Int) 0) = some r := h
  clear h
  have H' := Aside0.mk H
  clear H
  go_enter Try.func131, Try.ntmps131
  go_wp2
  go_loopg [3, 4] k (fun kq v3 v4 w' => ∃ (x3_1 : List Int) (x4_1 : Int), v4 = .int .i64 x4_1 ∧ Aside0 (padlockref02_Joined.l0 kq l0 x3_1 x4_1 = some r) ∧ Aside0 (kq ≤ k) ∧ Aside0 (Kd.R (Kd.int .u8) 5 w' w.heap.size (fun _ => True) v3 x3_1) ∧ Aside0 (Below w.heap.size w w'))
  case atStart => exact ⟨(([] : List Int)), (0), (by first | rfl | (simp; done) | (simp [*]; done) | (simp; omega)), H', ⟨Nat.le_refl _⟩, ⟨by first | exact Kd.R_nil _ _ _ _ _ | exact Kd.N_nil _ _ _ _ _ | exact Kd.V_nil _ _ _ _ _ | exact Kd.Q_nil _ _ _ _ _ | exact Kd.S_nil _ _ _ _ _⟩, ⟨by repeat (first | (with_reducible first | exact HB.out | apply below_alloc | apply pw_below_drewN | apply below_drew1) | exact HB.out)⟩⟩
  case round =>
    clear H'
    try clear c1
    obtain ⟨x3_1, x4_1, rfl, HA, HK1, HO_3, HB⟩ := hrel
    cases gk with
    | zero => exact absurd HA.out (by simp [padlockref02_Joined.l0])
    | succ k1 =>
      have H := HA.out
      clear HA
      simp only [padlockref02_Joined.l0] at H
      by_cases c2 : x4_1 < (l0.length : Int)
      · rw [if_pos c2] at H
        have c2b0 : decide (x4_1 < (l0.length : Int)) = true := decide_eq_true c2
        clear c2
        by_cases c3 : 0 ≤ x4_1
        · rw [if_pos c3] at H
          have c3b0 : decide (0 ≤ x4_1) = true := decide_eq_true c3
          clear c3
          obtain ⟨y102, hy102⟩ : ∃ y_ : List Int, y_ = (([(wrap64 (((rd_L1 l0 x4_1).length : Int) / 16777216)) % 256, (wrap64 (((rd_L1 l0 x4_1).length : Int) / 65536)) % 256, (wrap64 (((rd_L1 l0 x4_1).length : Int) / 256)) % 256, (((rd_L1 l0 x4_1).length : Int)) % 256] : List Int)) := ⟨_, rfl⟩
          replace H : (if x3_1.length + y102.length < 140737488355328 then ((some (x3_1 ++ y102 : List Int)).bind fun y105 => (if y105.length + (rd_L1 l0 x4_1).length < 140737488355328 then (padlockref02_Joined.l0 k1 l0 (y105 ++ (rd_L1 l0 x4_1)) (wrap64 (x4_1 + 1))) else (none))) else (none)) = some r := by first | (rw [hy102]; with_reducible exact H) | (have H2_ := (Option.bind_some _ _).symm.trans H; rw [hy102]; with_reducible exact H2_) | (have H2_ := (Option.bind_some _ _).symm.trans H; with_reducible exact H2_) | with_reducible exact H | (rw [hy102]; exact H) | exact H
          have Ny102 := Aside0.mk hy102
          clear hy102
          by_cases c4 : x3_1.length + y102.length < 140737488355328
          · rw [if_pos c4] at H
            have LMc4 := Aside0.mk c4
            clear c4
            obtain ⟨y105, hy105⟩ : ∃ y_ : List Int, y_ = (x3_1 ++ y102) := ⟨_, rfl⟩
            replace H : (if y105.length + (rd_L1 l0 x4_1).length < 140737488355328 then (padlockref02_Joined.l0 k1 l0 (y105 ++ (rd_L1 l0 x4_1)) (wrap64 (x4_1 + 1))) else (none)) = some r := by first | (rw [hy105]; with_reducible exact H) | (have H2_ := (Option.bind_some _ _).symm.trans H; rw [hy105]; with_reducible exact H2_) | (have H2_ := (Option.bind_some _ _).symm.trans H; with_reducible exact H2_) | with_reducible exact H | (rw [hy105]; exact H) | exact H
            have Ny105 := Aside0.mk hy105
            clear hy105
            by_cases c5 : y105.length + (rd_L1 l0 x4_1).length < 140737488355328
            · rw [if_pos c5] at H
              have LMc5 := Aside0.mk c5
              clear c5
              obtain ⟨y109, hy109⟩ : ∃ y_ : List Int, y_ = (y105 ++ (rd_L1 l0 x4_1)) := ⟨_, rfl⟩
              replace H : (padlockref02_Joined.l0 k1 l0 y109 (wrap64 (x4_1 + 1))) = some r := by first | (rw [hy109]; with_reducible exact H) | (have H2_ := (Option.bind_some _ _).symm.trans H; rw [hy109]; with_reducible exact H2_) | (have H2_ := (Option.bind_some _ _).symm.trans H; with_reducible exact H2_) | with_reducible exact H | (rw [hy109]; exact H) | exact H
              have Ny109 := Aside0.mk hy109
              clear hy109
              have H' := Aside0.mk H
              clear H
              have p101 : 0 ≤ (x4_1 : Int) := of_decide_eq_true (by first | (with_reducible assumption) | assumption)
              have q101 : x4_1 < (l0.length : Int) := of_decide_eq_true (by first | (with_reducible assumption) | assumption)
              obtain ⟨ad101, A101_0, c101_0, e101, hx101_0, hl101_0, hi101_0⟩ := at_L1 HR0.out x4_1 p101 q101
              cases e101
              replace hx101_0 := (HB.out.cell (World.block_lt_of_cell? w _ hx101_0)).trans hx101_0
              have HR101_0 := Aside0.mk hi101_0
              have HC101_0 := Aside0.mk hl101_0
              clear hi101_0 hl101_0
              replace p101 := eq_true p101
              replace q101 := eq_true q101
              go_wp2_with (first | ((with_reducible refine gate_dst (N := 29) rfl ?_); refine Kd.R_lit (Kd.int .u8) _ 5 ?hg (N := 29) ?hd (xs := ([(wrap64 (((rd_L1 l0 x4_1).length : Int) / 16777216)) % 256, (wrap64 (((rd_L1 l0 x4_1).length : Int) / 65536)) % 256, (wrap64 (((rd_L1 l0 x4_1).length : Int) / 256)) % 256, (((rd_L1 l0 x4_1).length : Int)) % 256] : List Int)) (inner := [.int .u8 ((wrap64 (((rd_L1 l0 x4_1).length : Int) / 16777216)) % 256), .int .u8 ((wrap64 (((rd_L1 l0 x4_1).length : Int) / 65536)) % 256), .int .u8 ((wrap64 (((rd_L1 l0 x4_1).length : Int) / 256)) % 256), .int .u8 ((((rd_L1 l0 x4_1).length : Int)) % 256)]) (ok := fun _ => True) (okp := fun _ => True) ?hr ?hp (fun _ hk => hk) trivial (Below.refl _ _) (Nat.le_refl _) (by simp) ?_; (case hd => rfl); (case hg => rfl); (case hr => first | (go_simp; done) | (go_simp; rfl) | (go_simp; simp only [IntKind.wrap_u32, IntKind.wrap_u8]; done) | (go_simp; simp only [IntKind.wrap_u32, IntKind.wrap_u8]; rfl) | (go_simp; simp [IntKind.wrap_u32, IntKind.wrap_u8]; done)); (case hp => exact (Reps.one (show Kd.M (Kd.int .u8) _ _ _ ((wrap64 (((rd_L1 l0 x4_1).length : Int) / 16777216)) % 256) [.int .u8 ((wrap64 (((rd_L1 l0 x4_1).length : Int) / 16777216)) % 256)] from rfl) (Reps.one (show Kd.M (Kd.int .u8) _ _ _ ((wrap64 (((rd_L1 l0 x4_1).length : Int) / 65536)) % 256) [.int .u8 ((wrap64 (((rd_L1 l0 x4_1).length : Int) / 65536)) % 256)] from rfl) (Reps.one (show Kd.M (Kd.int .u8) _ _ _ ((wrap64 (((rd_L1 l0 x4_1).length : Int) / 256)) % 256) [.int .u8 ((wrap64 (((rd_L1 l0 x4_1).length : Int) / 256)) % 256)] from rfl) (Reps.one (show Kd.M (Kd.int .u8) _ _ _ ((((rd_L1 l0 x4_1).length : Int)) % 256) [.int .u8 ((((rd_L1 l0 x4_1).length : Int)) % 256)] from rfl) (Reps.none _ _)))))); intro v103 w6 ho7 hb hg_ hnew_; clear hg_ hnew_; (first | rw [← Ny102.out] at ho7 | (simp only [Int.reduceToNat] at ho7; rw [← Ny102.out] at ho7)); have n0_ := Aside0.mk (Kd.R_elder' (by (with_reducible repeat (first | apply Kd.R_alloc | apply Kd.R_drewN | apply Kd.R_drew)); exact HO_3.out) (Kd.R_base ho7) hb); have n1_ := Aside0.mk (Kd.R_lower (Kd.R_new' ho7 (Kd.R_lt (by (with_reducible repeat (first | apply Kd.R_alloc | apply Kd.R_drewN | apply Kd.R_drew)); exact HO_3.out))) (below_size (by repeat (first | (with_reducible first | exact HB.out | apply below_alloc | apply pw_below_drewN | apply below_drew1) | exact HB.out)))); have n2_ := Aside0.mk (below_step (by repeat (first | (with_reducible first | exact HB.out | apply below_alloc | apply pw_below_drewN | apply below_drew1) | exact HB.out)) hb); clear HO_3; clear HB; have HO_3 := n0_; have HO104 := n1_; have HB := n2_; clear n0_ n1_ n2_; clear hb ho7; obtain ⟨Ao9, co9, eo9⟩ := Kd.R_slice HO104.out; subst eo9) | ((with_reducible refine gate_builtin (b := .append) (xs := #[.tmp 17, .tmp 29]) rfl ?_); at_builtin; refine Kd.R_append_rows (Kd.int .u8) (w0 := w) w.heap.size rfl (.tmp 17) (.tmp 29) 29 5 (.int .u8 0) 1 rfl Try.underlying29 info5 rfl (by decide) (by omega) u3 x3_1 y102 _ _ _ (fun k_ => some k_ ≠ (.slice Ao9 y102.length co9 : Value).ownBlock) (fun _ => False) rfl rfl ?aO ?aR (fun _ _ h => h) (fun _ h => h.elim) ?aF ?aB ?aS ?aL ?_; (case aR => repeat (first | exact (Kd.R_reads' HO104.out).2.2 | (with_reducible refine Kd.C_alloc ?_ _) | (with_reducible refine Kd.C_drewN ?_ _) | (with_reducible refine Kd.C_drew ?_))); (case aB => exact (by repeat (first | (with_reducible first | exact HB.out | apply below_alloc | apply pw_below_drewN | apply below_drew1) | exact HB.out))); (case aF => exact (fun k_ hk => Kd.fresh' (Kd.R_lt (by (with_reducible repeat (first | apply Kd.R_alloc | apply Kd.R_drewN | apply Kd.R_drew)); exact HO104.out)) k_ hk)); (case aO => exact (by (with_reducible repeat (first | apply Kd.R_alloc | apply Kd.R_drewN | apply Kd.R_drew)); exact Kd.R_mono HO_3.out (fun _ hk => hk.2))); (case aS => exact (below_size (by repeat (first | (with_reducible first | exact HB.out | apply below_alloc | apply pw_below_drewN | apply below_drew1) | exact HB.out)))); (case aL => have := LMc4.out; omega); intro v106 w8 ho hb hg hat; rw [← Ny105.out] at ho; have n0_ := Aside0.mk (Kd.R_after (ok := (fun _ => True)) (by (with_reducible repeat (first | apply Kd.R_alloc | apply Kd.R_drewN | apply Kd.R_drew)); exact HO104.out) hg hat); have n1_ := Aside0.mk (hb); have n2_ := Aside0.mk (ho); clear HO104; clear HB; clear HO_3; have HO104 := n0_; have HB := n1_; have HO107 := n2_; clear n0_ n1_ n2_; clear ho hb hg hat; have p108 : 0 ≤ (x4_1 : Int) := of_decide_eq_true (by first | (with_reducible assumption) | assumption); have q108 : x4_1 < (l0.length : Int) := of_decide_eq_true (by first | (with_reducible assumption) | assumption); obtain ⟨ad108, A108_0, c108_0, e108, hx108_0, hl108_0, hi108_0⟩ := at_L1 HR0.out x4_1 p108 q108; obtain rfl : ad101 = ad108 := (by injection e108); replace hx108_0 := (HB.out.cell (World.block_lt_of_cell? w _ hx108_0)).trans hx108_0; have HR108_0 := Aside0.mk hi108_0; have HC108_0 := Aside0.mk hl108_0; clear hi108_0 hl108_0; replace p108 := eq_true p108; replace q108 := eq_true q108) | ((with_reducible refine gate_builtin (b := .append) (xs := #[.tmp 31, .tmp 35]) rfl ?_); at_builtin; refine Kd.R_append_rows (Kd.int .u8) (w0 := w) w.heap.size rfl (.tmp 31) (.tmp 35) 29 5 (.int .u8 0) 1 rfl Try.underlying29 info5 rfl (by decide) (by omega) v106 y105 (rd_L1 l0 x4_1) _ _ _ (fun k_ => some k_ ≠ (.slice Ao9 y102.length co9 : Value).ownBlock) (fun _ => False) rfl rfl ?aO ?aR (fun _ _ h => h) (fun _ h => h.elim) ?aF ?aB ?aS ?aL ?_; (case aR => repeat (first | exact (Kd.C_below HR108_0.out HB.out) | (with_reducible refine Kd.C_alloc ?_ _) | (with_reducible refine Kd.C_drewN ?_ _) | (with_reducible refine Kd.C_drew ?_))); (case aB => exact (by repeat (first | (with_reducible first | exact HB.out | apply below_alloc | apply pw_below_drewN | apply below_drew1) | exact HB.out))); (case aF => exact (fun k_ hk => Kd.fresh' (Kd.R_lt (by (with_reducible repeat (first | apply Kd.R_alloc | apply Kd.R_drewN | apply Kd.R_drew)); exact HO104.out)) k_ hk)); (case aO => exact (by (with_reducible repeat (first | apply Kd.R_alloc | apply Kd.R_drewN | apply Kd.R_drew)); exact HO107.out)); (case aS => exact (below_size (by repeat (first | (with_reducible first | exact HB.out | apply below_alloc | apply pw_below_drewN | apply below_drew1) | exact HB.out)))); (case aL => have := LMc5.out; omega); intro v110 w10 ho hb hg hat; rw [← Ny109.out] at ho; have n0_ := Aside0.mk (Kd.R_after (ok := (fun _ => True)) (by (with_reducible repeat (first | apply Kd.R_alloc | apply Kd.R_drewN | apply Kd.R_drew)); exact HO104.out) hg hat); have n1_ := Aside0.mk (hb); have n2_ := Aside0.mk (ho); clear HO104; clear HB; clear HO107; have HO104 := n0_; have HB := n1_; have HO111 := n2_; clear n0_ n1_ n2_; clear ho hb hg hat))
              go_roundg k1
              case measure => have := HK1.out; omega
              case rel => exact ⟨(y109), (wrap64 (x4_1 + 1)), (by first | rfl | (simp; done) | (simp [*]; done) | (simp; omega)), H', ⟨by have := HK1.out; omega⟩, ⟨by (with_reducible repeat (first | apply Kd.R_alloc | apply Kd.R_drewN | apply Kd.R_drew)); exact Kd.R_mono HO111.out (fun _ hk => trivial)⟩, ⟨by repeat (first | (with_reducible first | exact HB.out | apply below_alloc | apply pw_below_drewN | apply below_drew1) | exact HB.out)⟩⟩
            · rw [if_neg c5] at H
              exact absurd H (by simp)
          · rw [if_neg c4] at H
            exact absurd H (by simp)
        · rw [if_neg c3] at H
          exact absurd H (by simp)
      · rw [if_neg c2] at H
        have c2b0 : decide (x4_1 < (l0.length : Int)) = false := decide_eq_false c2
        clear c2
        obtain rfl := Option.some.inj H
        go_wp2
        go_ret
        exact ⟨_, by first | rfl | (simp [errW_none, errW_some] <;> rfl) | (simp [*, errW_none, errW_some] <;> rfl), by (with_reducible repeat (first | apply Kd.R_alloc | apply Kd.R_drewN | apply Kd.R_drew)); exact HO_3.out, by repeat (first | (with_reducible first | exact HB.out | apply below_alloc | apply pw_below_drewN | apply below_drew1) | exact HB.out)⟩
end Go.Proofs.Ytoiiacbbfhlocaa.Hj
end
section
set_option linter.unusedVariables false
set_option linter.unusedSimpArgs false
namespace Go.Proofs.Ytoiiacbbfhlocaa.HHa
open Go.RowKit Go.Proofs.YtoiiacbbfhlocaaW.PrintWords Go.Proofs.YtoiiacbbfhlocaaW.PrintLast Go.Proofs.YtoiiacbbfhlocaaW.PrintMore Go.Proofs.Ytoiiacbbfhlocaa.Kit Go.Proofs.Ytoiiacbbfhlocaa.HSa
attribute [local go_sem ↓] Go.wp_at_zero Go.wp_at_succ
attribute [local irreducible] sumF padX inF hmF jN jF iv consts allF comeN padK fillK kF
end Go.Proofs.Ytoiiacbbfhlocaa.HHa
end
