/- Texts of this claim, laid together by a program of this session (wip/tools/pack3.py); the print's own words among them are those that print.sh OWN=1 lays for the claim, as far as they are named. -/
import Derived.Deep.RegionHeld3
import Derived.Deep.DrawnRows
import Derived.Lib.SlBytesConst
import Derived.Lib.SmallJoins
import Derived.Test.YtoiiacbbfhlocaaProg
import Derived.Below
import Derived.Deep.Draws
import Derived.Deep.AppendLies
import Derived.Maps.AppendAt
import Derived.OwnWalk
import Derived.Laws.BytesArg
import Derived.Laws.MakeOwn
import Derived.Laws.OwnMore
import Derived.Deep.OwnRows
import Derived.Tactics
import Derived.Lib.ConvBytes
import Derived.Laws.Slices
import Derived.WalkKit
import Derived.KernelRfl
import Derived.RowKit3
import Derived.Deep.LoopGhost
import Derived.Deep.QuietTactic
import Derived.BigQuiet
import Derived.WideLaws
import Derived.Deep.DeepCutAuto
import Derived.Deep.CutBlock
import Derived.Laws.Rows
import Derived.Lib.AppendStr
import Derived.ArgAppend
import Derived.Laws.IdiomCopy
import Derived.OrdersHeld
import Derived.Laws.BitsLemmas
import Derived.RowKit
import Derived.RangeFuncBox
import Derived.Laws.StructEq
import Derived.Great.BuildSlice
import Derived.Lib.SliceRun
import Derived.Test.YtoiiacbbfhlocaaQMA
import Derived.Test.YtoiiacbbfhlocaaQMB
import Derived.Test.YtoiiacbbfhlocaaQMC
section
section
set_option linter.unusedVariables false
set_option linter.unusedSimpArgs false
namespace Go.Proofs.Ytoiiacbbfhlocaa.HHa
open Go.RowKit Go.Proofs.YtoiiacbbfhlocaaW.PrintWords Go.Proofs.YtoiiacbbfhlocaaW.PrintLast Go.Proofs.YtoiiacbbfhlocaaW.PrintMore Go.Proofs.Ytoiiacbbfhlocaa.Kit Go.Proofs.Ytoiiacbbfhlocaa.HSa
def fillK (k : List Int) : List Int := k ++ List.replicate (64 - k.length) 0
def padK (key : List Int) : List Int := fillK (if 64 < key.length then sumF key else key)
def xorB (x : Int) (b : Int) : Int := Go.bits .xor .u8 b x
def padX (key : List Int) (x : Int) : List Int := (padK key).map (xorB x)
theorem fillK_length (k : List Int) (h : k.length ≤ 64) : (fillK k).length = 64 := by unfold fillK; simp; omega
theorem padK_length (key : List Int) : (padK key).length = 64 := by
  unfold padK
  apply fillK_length
  split
  · rw [sumF_len]; omega
  · omega
theorem padX_length (key : List Int) (x : Int) : (padX key x).length = 64 := by simp [padX, padK_length]
def xorN (K : List Int) (x : Int) (k : Nat) : List Int := (K.take k).map (xorB x) ++ K.drop k
theorem xorN_length (K : List Int) (x : Int) (k : Nat) (h : k ≤ K.length) : (xorN K x k).length = K.length := by simp [xorN]; omega
theorem xorN_at (K : List Int) (x : Int) (k : Nat) (h : k < K.length) : (xorN K x k).getD k 0 = K.getD k 0 := by
  unfold xorN
  simp only [List.getD_eq_getElem?_getD]
  rw [List.getElem?_append_right (by simp; omega)]
  simp [show min k K.length = k from by omega]
theorem xorN_set (K : List Int) (x : Int) (k : Nat) (h : k < K.length) : (xorN K x k).set k (xorB x (K.getD k 0)) = xorN K x (k + 1) := by
  unfold xorN
  have hl : ((K.take k).map (xorB x)).length = k := by simp; omega
  have e : K.getD k 0 = K[k] := by simp [List.getD_eq_getElem?_getD, h]
  rw [e, List.drop_eq_getElem_cons h, List.set_append_right _ _ (by omega), hl, Nat.sub_self, List.set_cons_zero, List.take_succ_eq_append_getElem h, List.map_append, List.append_assoc]
  rfl
theorem sum_zeros (key : List Int) (h : sumF key = List.replicate 32 0) : fillK (sumF key) = fillK [] := by rw [h]; rfl
attribute [local irreducible] sumF fillK padK xorN
set_option maxHeartbeats 2000000 in
set_option maxRecDepth 100000 in
theorem pad_any (A0 : Option Addr) (c0 : Nat) (key : List Int) (x : Int) (w : World) (hr : Kd.C (Kd.int .u8) w A0 key.length key) (hc : key.length ≤ c0) (hl : key.length ≤ 100000) :
    Calls Try.prog 145 #[.slice A0 key.length c0, .int .u8 x] w (OutB w (padX key x)) := by
  have HR := Lib.hid hr
  obtain ⟨n, hn⟩ : ∃ n, n = key.length := ⟨_, rfl⟩
  have HN := Lib.hid hn
  rw [← hn] at hc hl ⊢
  clear hr hn
  have HPK : Hid (padK key = fillK (if 64 < key.length then sumF key else key)) := Lib.hid (by unfold padK; rfl)
  by_cases hbig : 64 < n
  focus
    have HS := sum_any A0 c0 key w HR.out (by rw [← HN.out]; exact hc) (by rw [← HN.out]; omega)
    rw [← HN.out] at HS
    have HS := Lib.hid HS
    obtain ⟨xs, hxs⟩ : ∃ xs, xs = sumF key := ⟨_, rfl⟩
    have HXL : Hid (xs.length = 32) := Lib.hid (by rw [hxs]; exact sumF_len key)
    have hpk : padK key = fillK xs := by rw [HPK.out, if_pos (by rw [← HN.out]; exact hbig), hxs]
    have HP := Lib.hid hpk
    have HXE := Lib.hid hxs
    obtain ⟨Z, hZ⟩ : ∃ Z : List Int, Z = List.replicate 32 0 := ⟨_, rfl⟩
    have heq := fun w => eql_arrs (P := Try.prog) 24 5 32 .u8 xs Z Try.underlying24 Try.underlying5 (by kernel_rfl) HXL.out (by rw [hZ]; simp) w
    have hpz : decide (xs = Z) = true → padK key = fillK [] := fun h => by rw [hpk, hxs]; exact sum_zeros key (by rw [← hxs, ← hZ]; simpa using h)
    have HPZ := Lib.hid hpz
    have HZE := Lib.hid hZ
    clear hpk hpz hxs hZ
    have hgt : Try.prog.eqGuardType Try.prog.depth 24 = false := by kernel_rfl
    cases hz : decide (xs = Z)
    all_goals
      rw [hz] at heq
      have HZ := Lib.hid hz
      clear hz
      go_enter Try.func145, Try.ntmps145
      go_wp2_with fail
      refine HS.out.mono ?_
      rintro e w1 ⟨rfl, hB1⟩
      rw [← HXE.out]
      go_wp2_with (first
        | ((with_reducible refine gate_dst (N := 5) rfl ?_); refine alloc_arr rfl 24 rfl .u8 (List.replicate 32 0) (fun w => Try.zeroValue24 w) (by first | (go_simp; done) | (go_simp; rfl)) ?_; intro w2 hA2 hB2)
        | ((with_reducible refine gate_store (t := 24) (p := 5) rfl ?_); refine store_arr rfl 24 _ _ rfl w1.heap.size .u8 xs rfl rfl 24 _ hA2 (by rw [HXL.out]; rfl) (by rw [HXL.out]; kernel_rfl) ?_; intro w3 hA3 hw3; have hB3 := below_setRow hB2 w1.heap.size (Nat.le_refl _) (nums .u8 xs).toArray; rw [← hw3] at hB3; have hB13 := below_next hB1 hB3; clear hw3 hA2 hB2)
        | ((with_reducible refine gate_dst (N := 6) rfl ?_); refine alloc_arr rfl 24 rfl .u8 (List.replicate 32 0) (fun w => Try.zeroValue24 w) (by first | (go_simp; done) | (go_simp; rfl)) ?_; intro w4 hA4 hB4)
        | ((with_reducible refine gate_store (t := 24) (p := 6) rfl ?_); refine store_arr rfl 24 _ _ rfl w3.heap.size .u8 Z rfl (by rw [HZE.out]; rfl) 24 _ hA4 (by rw [HZE.out]) (by rw [HZE.out]; kernel_rfl) ?_; intro w5 hA5 hw5; have hB5 := below_setRow hB4 w3.heap.size (Nat.le_refl _) (nums .u8 Z).toArray; rw [← hw5] at hB5; have HA35 := Lib.hid (hA3.next hB5); have HA5 := Lib.hid hA5; have HB15 := Lib.hid (below_next hB13 hB5); clear hw5 hA5 hA4 hB4 hB5 hA3 hB3 hB13)
        | ((with_reducible refine gate_dst (N := 15) rfl ?_); refine load_arr rfl 24 _ rfl w1.heap.size rfl .u8 _ _ _ _ HA35.out Try.underlying24 (by rw [HXL.out]; kernel_rfl) ?_)
        | ((with_reducible refine gate_dst (N := 16) rfl ?_); refine load_arr rfl 24 _ rfl w3.heap.size rfl .u8 _ _ _ _ HA5.out Try.underlying24 (by rw [HZE.out]; kernel_rfl) ?_)
        | ((with_reducible refine gate_dst (N := 19) rfl ?_); refine make_arr rfl 29 _ _ rfl 5 .u8 64 rfl rfl (fun w => by kernel_rfl) ?_; intro w6 hA6 hB6)
        | ((with_reducible refine gate_builtin (b := .copy) (xs := #[.tmp 20, .tmp 21]) rfl ?_); refine copy_wp rfl (.tmp 20) (.tmp 21) 29 29 5 rfl w5.heap.size 64 64 (some ⟨w1.heap.size, 0, none⟩) 32 32 (List.replicate 64 0) xs rfl rfl hA6 ((HA35.out.next hB6).reads 32 HXL.out (by decide)) Try.underlying29 (by kernel_rfl) (by simp) (by decide) ?_; intro w7 hA7 hw7; have hB7 : Below w5.heap.size w5 w7 := (by rw [hw7]; exact below_sets (Nat.le_refl _) _ _ hB6); clear hw7 hA6 hB6)
        | ((with_reducible refine gate_builtin (b := .copy) (xs := #[.tmp 20, .tmp 21]) rfl ?_); refine copy_wp rfl (.tmp 20) (.tmp 21) 29 29 5 rfl w5.heap.size 64 64 none 0 0 (List.replicate 64 0) [] rfl rfl hA6 (Kd.C_nil _ _) Try.underlying29 (by kernel_rfl) (by simp) (by decide) ?_; intro w7 hA7 hw7; have hB7 : Below w5.heap.size w5 w7 := (by rw [hw7]; exact below_sets (Nat.le_refl _) _ _ hB6); clear hw7 hA6 hB6)
        | fail)
      have HA0 : Hid (Arr .u8 5 w7 w5.heap.size (padK key)) := Lib.hid (by
        first
          | (have e : xs ++ (List.replicate 64 (0 : Int)).drop 32 = padK key := by rw [HP.out]; unfold fillK; rw [HXL.out]; rfl
             rw [e] at hA7; exact hA7)
          | (have e : ([] : List Int) ++ (List.replicate 64 (0 : Int)).drop 0 = padK key := by rw [HPZ.out HZ.out]; unfold fillK; rfl
             rw [e] at hA7; exact hA7))
      have HB0 : Hid (Below w.heap.size w w7) := Lib.hid (below_next HB15.out hB7)
      have hgw : w.heap.size ≤ w5.heap.size := HB15.out.size
      clear hA7 hB7 HA35 HA5 HB15 heq hgt hB1
      generalize w5.heap.size = g at *
  rotate_left 2
  focus
    have hpk : padK key = fillK key := by rw [HPK.out, if_neg (by rw [← HN.out]; exact hbig)]
    have HP := Lib.hid hpk
    clear hpk
    go_enter Try.func145, Try.ntmps145
    go_wp2_with (first
      | ((with_reducible refine gate_dst (N := 19) rfl ?_); refine make_arr rfl 29 _ _ rfl 5 .u8 64 rfl rfl (fun w => by kernel_rfl) ?_; intro w6 hA6 hB6)
      | ((with_reducible refine gate_builtin (b := .copy) (xs := #[.tmp 20, .tmp 21]) rfl ?_); refine copy_wp rfl (.tmp 20) (.tmp 21) 29 29 5 rfl w.heap.size 64 64 A0 n c0 (List.replicate 64 0) key rfl rfl hA6 (by have h := Kd.C_below HR.out hB6; rw [← HN.out] at h; exact h) Try.underlying29 (by kernel_rfl) (by simp) (by omega) ?_; intro w7 hA7 hw7; have hB7 : Below w.heap.size w w7 := (by rw [hw7]; exact below_sets (Nat.le_refl _) _ _ hB6); clear hw7 hA6 hB6)
      | fail)
    have HA0 : Hid (Arr .u8 5 w7 w.heap.size (padK key)) := Lib.hid (by
      have e : key ++ (List.replicate 64 (0 : Int)).drop n = padK key := by
        rw [HP.out]
        unfold fillK
        rw [List.drop_replicate, ← HN.out]
      rw [e] at hA7
      exact hA7)
    have HB0 : Hid (Below w.heap.size w w7) := Lib.hid hB7
    obtain ⟨g, hg⟩ : ∃ g, g = w.heap.size := ⟨_, rfl⟩
    rw [← hg] at HA0 ⊢
    have hgw : w.heap.size ≤ g := by omega
    clear hA7 hB7 hg
  all_goals
    have HKL := Lib.hid (padK_length key)
    have HA1 : Hid (Arr .u8 5 w7 g (xorN (padK key) x 0)) := Lib.hid (by unfold xorN; simpa using HA0.out)
    clear HA0
    go_wp2_with fail
    go_loopw [25] (fun iv wr => ∃ k : Nat, iv = .int .i64 k ∧ k ≤ 64 ∧ Hid (Arr .u8 5 wr g (xorN (padK key) x k)) ∧ Hid (Below w.heap.size w wr)) (fun iv _ => 64 - (intOf iv).toNat)
    case atStart => exact ⟨0, rfl, by omega, HA1, HB0⟩
    case round =>
      clear HA1 HB0
      obtain ⟨k, rfl, hk, hA, hB⟩ := hrel
      by_cases hk64 : k < 64
      · have hc1 := hA.out.cellN k (by rw [xorN_length _ _ _ (by rw [HKL.out]; omega), HKL.out]; omega)
        rw [xorN_at _ _ _ (by rw [HKL.out]; omega)] at hc1
        have hf1 := hA.out.free k
        have HS : Hid (xorN (padK key) x (k + 1) = (xorN (padK key) x k).set k (Go.bits .xor .u8 ((padK key).getD k 0) x)) := Lib.hid (xorN_set (padK key) x k (by rw [HKL.out]; omega)).symm
        go_wp2
        go_roundw
        case rel => exact ⟨k + 1, by go_num, by omega, Lib.hid (by rw [HS.out]; exact hA.out.put k _), Lib.hid (below_setCell hB.out _ _ hgw _)⟩
        case measure => simp [intOf]; omega
      · have hk' : k = 64 := by omega
        subst hk'
        have HE : Hid (xorN (padK key) x 64 = padX key x) := Lib.hid (by unfold xorN padX; rw [List.take_of_length_le (by rw [HKL.out]; omega), List.drop_eq_nil_of_le (by rw [HKL.out]; omega), List.append_nil])
        go_wp2
        go_ret
        exact ⟨_, rfl, (by rw [← HE.out]; exact hA.out.row w.heap.size 64 (by rw [HE.out]; exact padX_length key x) hgw (by decide) (fun _ => True) trivial), hB.out⟩
end Go.Proofs.Ytoiiacbbfhlocaa.HHa
end
section
set_option linter.unusedVariables false
set_option linter.unusedSimpArgs false
namespace Go.Proofs.Ytoiiacbbfhlocaa.HHa
open Go.RowKit Go.Proofs.YtoiiacbbfhlocaaW.PrintWords Go.Proofs.YtoiiacbbfhlocaaW.PrintLast Go.Proofs.YtoiiacbbfhlocaaW.PrintMore Go.Proofs.Ytoiiacbbfhlocaa.Kit Go.Proofs.Ytoiiacbbfhlocaa.HSa
attribute [local go_sem ↓] Go.wp_at_zero Go.wp_at_succ
def inF (key b : List Int) : List Int := sumF (padX key 54 ++ b)
def hmF (key b : List Int) : List Int := sumF (padX key 92 ++ inF key b)
theorem inF_length (key b : List Int) : (inF key b).length = 32 := sumF_len _
theorem hmF_length (key b : List Int) : (hmF key b).length = 32 := sumF_len _
theorem arr_there {k : IntKind} {T : TypeId} {w : World} {g : Nat} {xs : List Int} (h : Arr k T w g xs) (n : Nat) (hn : xs.length = n) : w.there g 0 n := fun j hj => by
  rw [Nat.zero_add]
  exact ⟨by rw [h.cellN j (by omega)]; rfl, h.free j⟩
attribute [local irreducible] sumF padX inF hmF
set_option maxHeartbeats 2000000 in
set_option maxRecDepth 100000 in
theorem hsum_any (A0 : Option Addr) (c0 : Nat) (key : List Int) (A1 : Option Addr) (c1 : Nat) (b : List Int) (w : World) (hr : Kd.C (Kd.int .u8) w A0 key.length key) (hc : key.length ≤ c0) (hl : key.length ≤ 100000)
    (hr1 : Kd.C (Kd.int .u8) w A1 b.length b) (hc1 : b.length ≤ c1) (hl1 : b.length ≤ 100000) :
    Calls Try.prog 132 #[.slice A0 key.length c0, .slice A1 b.length c1] w (GivesArr .u8 (hmF key b) w) := by
  have HR := Lib.hid hr
  have HR1 := Lib.hid hr1
  obtain ⟨I, hI⟩ : ∃ I, I = inF key b := ⟨_, rfl⟩
  obtain ⟨E, hE⟩ : ∃ E, E = hmF key b := ⟨_, rfl⟩
  have HIL : Hid (I.length = 32) := Lib.hid (by rw [hI]; exact inF_length key b)
  have HEL : Hid (E.length = 32) := Lib.hid (by rw [hE]; exact hmF_length key b)
  obtain ⟨L1, hL1⟩ : ∃ L, L = padX key 54 ++ b := ⟨_, rfl⟩
  obtain ⟨L2, hL2⟩ : ∃ L, L = padX key 92 ++ I := ⟨_, rfl⟩
  have HI : Hid (sumF L1 = I) := Lib.hid (by rw [hL1, hI]; unfold inF; rfl)
  have HE : Hid (sumF L2 = E) := Lib.hid (by rw [hL2, hI, hE]; unfold hmF; rfl)
  have HL1 := Lib.hid hL1
  have HL2 := Lib.hid hL2
  have HE0 := Lib.hid hE
  obtain ⟨n1, hn1⟩ : ∃ n, n = L1.length := ⟨_, rfl⟩
  have hn1' : n1 ≤ 100064 := by rw [hn1, hL1, List.length_append, padX_length]; omega
  have hn2 : L2.length = 96 := by rw [hL2, List.length_append, padX_length, HIL.out]
  have HN1 := Lib.hid hn1
  have HN2 := Lib.hid hn2
  have HBL : Hid (b.length ≤ 100000) := Lib.hid hl1
  have HKL : Hid (key.length ≤ c0 ∧ key.length ≤ 100000) := Lib.hid ⟨hc, hl⟩
  clear hr hr1 hI hE hL1 hL2 hn1 hn2
  go_enter Try.func132, Try.ntmps132
  go_wp2_with (first
    | ((with_reducible refine gate_dst (N := 4) rfl ?_); refine alloc_arr rfl 24 rfl .u8 (List.replicate 32 0) (fun w => Try.zeroValue24 w) (by first | (go_simp; done) | (go_simp; rfl)) ?_; intro w1 hA1 hB1; have HA1 := Lib.hid hA1; have HB1 := Lib.hid hB1; have HR01 := Lib.hid (Kd.C_below HR.out hB1); have HR11 := Lib.hid (Kd.C_below HR1.out hB1); have hg1 : w.heap.size < w1.heap.size := hA1.lt; clear hA1 hB1)
    | fail)
  refine (pad_any A0 c0 key 54 w1 HR01.out HKL.out.1 HKL.out.2).mono ?_
  rintro e w2 ⟨v2, rfl, hO2, hB2⟩
  have HO2 := Lib.hid hO2
  have HB2 := Lib.hid hB2
  have HR12 := Lib.hid (Kd.C_below HR11.out hB2)
  clear hO2 hB2
  go_wp2_with (first
    | ((with_reducible refine gate_builtin (b := .append) (xs := #[.tmp 7, .tmp 8]) rfl ?_); at_builtin; refine Kd.R_append_rows (Kd.int .u8) (w0 := w1) w1.heap.size rfl (.tmp 7) (.tmp 8) 29 5 (.int .u8 0) 1 rfl Try.underlying29 info5 rfl (by decide) (by omega) v2 (padX key 54) b _ _ _ (fun _ => True) (fun _ => False) rfl rfl HO2.out HR12.out (fun _ _ h => h) (fun _ h => h.elim) (fun _ _ => trivial) HB2.out HB2.out.size ?aL ?_; (case aL => rw [padX_length]; have := HBL.out; omega); intro v3 w3 ho3 hb3 hg3 hat3; rw [← HL1.out] at ho3; have HB3 := Lib.hid hb3; obtain ⟨A3, c3, hv3, hlc3, hrd3⟩ := Kd.R_reads ho3; rw [← HN1.out] at hv3 hlc3 hrd3; subst hv3; have HRD3 := Lib.hid hrd3; clear ho3 hb3 hg3 hat3 hrd3)
    | fail)
  have hS := sum_any A3 c3 L1 w3 (by rw [← HN1.out]; exact HRD3.out) (by rw [← HN1.out]; exact hlc3) (by rw [← HN1.out]; omega)
  rw [← HN1.out, HI.out] at hS
  have HS := Lib.hid hS
  clear hS
  refine HS.out.mono ?_
  rintro e w4 ⟨rfl, hB4⟩
  have HB4 := Lib.hid (below_next HB3.out hB4)
  have HR14 := Lib.hid (Kd.C_below HR01.out HB4.out)
  have HA14 := Lib.hid (HA1.out.next HB4.out)
  clear hB4
  go_wp2_with (first
    | ((with_reducible refine gate_dst (N := 5) rfl ?_); refine alloc_arr rfl 23 rfl .u8 (List.replicate 32 0) (fun w => Try.zeroValue23 w) (by first | (go_simp; done) | (go_simp; rfl)) ?_; intro w5 hA5 hB5)
    | ((with_reducible refine gate_store (t := 23) (p := 5) rfl ?_); refine store_arr rfl 23 _ _ rfl w4.heap.size .u8 I rfl rfl 23 _ hA5 (by rw [HIL.out]; rfl) (by rw [HIL.out]; kernel_rfl) ?_; intro w6 hA6 hw6; have hB6 := below_setRow hB5 w4.heap.size (Nat.le_refl _) (nums .u8 I).toArray; rw [← hw6] at hB6; have HA6 := Lib.hid hA6; have HR16 := Lib.hid (Kd.C_below HR14.out hB6); have HA16 := Lib.hid (HA14.out.next hB6); have HB16 := Lib.hid (below_next HB4.out hB6); have hs6 : w4.heap.size < w6.heap.size := hA6.lt; clear hw6 hA6 hB6 hA5 hB5)
    | fail)
  have hs4 : w1.heap.size ≤ w4.heap.size := HB4.out.size
  generalize hg4 : w4.heap.size = g5 at *
  generalize hg0 : w.heap.size = g4 at *
  have HG0 := Lib.hid hg0
  clear hg0 hg4
  have hth : w6.there g4 0 32 := arr_there HA16.out 32 (by simp)
  have hi : (Try.prog.info? 24).map (·.size) = some (nums .u8 E).length := by rw [show (nums .u8 E).length = 32 from by simp [nums, HEL.out]]; kernel_rfl
  have hcl : (nums .u8 E).length = 32 := by simp [nums, HEL.out]
  have hone : ∀ v ∈ nums .u8 E, v.oneCell' = true := fun v hv => by simp only [nums, List.mem_map] at hv; obtain ⟨x, _, rfl⟩ := hv; rfl
  have hlit : (nums .u8 E).toArray.size = 32 := by simp [nums, HEL.out]
  go_wp2_with fail
  go_region_held3 (fun w' => w'.there g4 0 32)
    (first | go_keep_ranges | exact hkeep | exact World.there_setCells hkeep _ _ _)
    ((first
      | (go_at_call 145; refine (pad_any A0 c0 key 92 _ (by exact Kd.C_drew HR16.out) HKL.out.1 HKL.out.2).mono ?_; rintro e W1 ⟨v9, rfl, hO9, hB9⟩; have hkeep : W1.there g4 0 32 := arr_there (HA16.out.drew.next hB9) 32 (by simp); have HO9 := Lib.hid hO9; have HB9 := Lib.hid hB9; clear hO9 hB9)
      | ((refine Kd.R_append_rows_step (Kd.int .u8) (w0 := w6.drew) w6.heap.size (by rfl) (.tmp 12) (.tmp 13) 29 5 (.int .u8 0) 1 (by rfl) Try.underlying29 info5 rfl (by decide) (by omega) v9 (padX key 92) I (some ⟨g5, 0, none⟩) 32 32 (fun _ => True) (fun _ => False) (by rfl) (by rfl) (by exact HO9.out) (by exact (HA6.out.drew.next HB9.out).reads 32 HIL.out (by decide)) (fun _ _ h => h) (fun _ h => h.elim) (fun _ _ => trivial) (by exact HB9.out) (by exact HB9.out.size) (by rw [padX_length]; omega) ?_); intro v10 W2 ho10 hb10 hg10 hat10; have hkeep : W2.there g4 0 32 := arr_there (HA16.out.drew.next hb10) 32 (by simp); have HB10 := Lib.hid hb10; rw [← HL2.out] at ho10; obtain ⟨A10, c10, hv10, hlc10, hrd10⟩ := Kd.R_reads ho10; have HRD10 := Lib.hid hrd10; subst hv10; clear ho10 hb10 hg10 hat10 hrd10)
      | (go_at_call 144; (refine (sum_any A10 c10 L2 _ (by exact HRD10.out) hlc10 (by rw [HN2.out]; omega)).mono ?_); rintro e W3 ⟨rfl, hB11⟩; have hkeep : W3.there g4 0 32 := arr_there (HA16.out.drew.next (below_next (w := w6.drew) HB10.out hB11)) 32 (by simp); have HB11 := Lib.hid (below_next (w := w6.drew) HB10.out hB11); rw [HE.out]; clear hB11)))
  have HF : Hid (Arr .u8 24 (W3.setCells g4 0 (nums .u8 E)) g4 E) := Lib.hid (by
    have h := (HA16.out.drew.next HB11.out).cells E 0 (by rw [HEL.out]; simp)
    have e : (List.replicate 32 (0 : Int)).take 0 ++ E ++ (List.replicate 32 (0 : Int)).drop (0 + E.length) = E := by rw [HEL.out]; simp
    rwa [e] at h)
  have HBF : Hid (Below w.heap.size w (W3.setCells g4 0 (nums .u8 E))) := Lib.hid (by
    rw [HG0.out]
    refine below_sets (Nat.le_refl _) _ _ ?_
    have h1 : Below g4 w w6 := HB1.out.trans (HB16.out.mono (by omega))
    exact (below_drew h1).trans (HB11.out.mono (by show g4 ≤ w6.heap.size; omega)))
  go_wp2_with fail
  exact bodyPost_ret (results_arr rfl _ _ g4 .u8 _ _ _ E rfl HF.out Try.underlying24 (by rw [HEL.out]; kernel_rfl)) rfl ⟨by rw [HE0.out], HBF.out⟩
end Go.Proofs.Ytoiiacbbfhlocaa.HHa
end
section
set_option linter.unusedVariables false
set_option linter.unusedSimpArgs false
namespace Go.Proofs.Ytoiiacbbfhlocaa.HHa
open Go.RowKit Go.Proofs.YtoiiacbbfhlocaaW.PrintWords Go.Proofs.YtoiiacbbfhlocaaW.PrintLast Go.Proofs.YtoiiacbbfhlocaaW.PrintMore Go.Proofs.Ytoiiacbbfhlocaa.Kit Go.Proofs.Ytoiiacbbfhlocaa.HSa
def len4 (n : Nat) : List Int := [(n : Int) / 16777216 % 256, (n : Int) / 65536 % 256, (n : Int) / 256 % 256, (n : Int) % 256]
def jN (ps : List (List Int)) : Nat → List Int
  | 0 => []
  | k + 1 => jN ps k ++ len4 (ps.getD k []).length ++ ps.getD k []
def jF (ps : List (List Int)) : List Int := jN ps ps.length
attribute [local irreducible] sumF padX inF hmF jN
set_option maxHeartbeats 2000000 in
set_option maxRecDepth 100000 in
theorem join_any (A0 : Option Addr) (c0 : Nat) (key : List Int) (A1 : Option Addr) (c1 : Nat) (ps : List (List Int)) (w : World) (hr : Kd.C (Kd.int .u8) w A0 key.length key) (hc : key.length ≤ c0) (hl : key.length ≤ 100000)
    (hr1 : Kd.C (Kd.slice 5 (Kd.int .u8)) w A1 ps.length ps) (hc1 : ps.length ≤ c1) (hm : ps.length ≤ 100000) (hs : ∀ k, k ≤ ps.length → (jN ps k).length ≤ 90000) :
    Calls Try.prog 117 #[.slice A0 key.length c0, .slice A1 ps.length c1] w (GivesArr .u8 (hmF key (jF ps)) w) := by
  have HR := Lib.hid hr
  have HR1 := Lib.hid hr1
  have HS := Lib.hid hs
  obtain ⟨n, hn⟩ : ∃ n, n = ps.length := ⟨_, rfl⟩
  have HN := Lib.hid hn
  rw [← hn] at hc1 hm HR1 HS ⊢
  have HKL : Hid (key.length ≤ c0 ∧ key.length ≤ 100000) := Lib.hid ⟨hc, hl⟩
  clear hr hr1 hs hn
  have HAT : Hid (∀ k, k < n → ∃ b off A' c', A1 = some ⟨b, off, none⟩ ∧ w.cell? ⟨b, off + k, none⟩ = some (.slice A' (ps.getD k []).length c') ∧ (ps.getD k []).length ≤ c' ∧ Kd.C (Kd.int .u8) w A' (ps.getD k []).length (ps.getD k [])) := Lib.hid (fun k hk => by
    obtain ⟨b, off, e, h⟩ := rows_at HR1.out (by omega)
    obtain ⟨A', c', h1, h2, h3⟩ := h k hk
    exact ⟨b, off, A', c', e, h1, h2, h3⟩)
  go_enter Try.func117, Try.ntmps117
  go_wp2_with (first
    | ((with_reducible refine gate_dst (N := 4) rfl ?_); refine alloc_arr rfl 24 rfl .u8 (List.replicate 32 0) (fun w => Try.zeroValue24 w) (by first | (go_simp; done) | (go_simp; rfl)) ?_; intro w1 hA1 hB1; have HA1 := Lib.hid hA1; have HB1 := Lib.hid hB1; have hg1 : w.heap.size < w1.heap.size := hA1.lt; clear hA1 hB1)
    | fail)
  have H0 : Hid (Kd.R (Kd.int .u8) 5 w1 w1.heap.size (fun _ => True) (.slice none 0 0) (jN ps 0)) := Lib.hid (by unfold jN; exact Kd.R_nil _ _ _ _ _)
  go_loopw [5, 11] (fun v iv wr => ∃ (k m : Nat) (A' : Option Addr) (c' : Nat), v = .slice A' m c' ∧ iv = .int .i64 k ∧ k ≤ n ∧ Hid (m = (jN ps k).length) ∧ Hid (Kd.R (Kd.int .u8) 5 wr w1.heap.size (fun _ => True) (.slice A' m c') (jN ps k)) ∧ Hid (Below w1.heap.size w1 wr)) (fun _ iv _ => n - (intOf iv).toNat)
  case atStart => exact ⟨0, 0, none, 0, rfl, rfl, by omega, Lib.hid (by unfold jN; rfl), H0, Lib.hid (Below.refl _ _)⟩
  case round =>
    clear H0
    obtain ⟨k, m, A', c', rfl, rfl, hk, hm', hO, hB⟩ := hrel
    by_cases hkn : k < n
    · obtain ⟨b, off, Ap, cp, eA, hcell, hlp, hCp⟩ := HAT.out k hkn
      have hBw := below_next HB1.out hB.out
      have hcellr := (hBw.cell (p := ⟨b, off + k, none⟩) (World.block_lt_of_cell? w _ hcell)).trans hcell
      have HCp := Lib.hid hCp
      obtain ⟨p, hp⟩ : ∃ p, p = ps.getD k [] := ⟨_, rfl⟩
      obtain ⟨lp, hlp'⟩ : ∃ l, l = p.length := ⟨_, rfl⟩
      rw [← hp] at hcellr hlp HCp
      rw [← hlp'] at hcellr hlp HCp
      have HJ : Hid (jN ps (k + 1) = jN ps k ++ len4 lp ++ p) := Lib.hid (by rw [jN, ← hp, ← hlp'])
      have hJL : (jN ps k).length + 4 + lp ≤ 90000 := by
        have h := HS.out (k + 1) (by omega)
        rw [HJ.out, List.length_append, List.length_append, ← hlp'] at h
        simpa [len4] using h
      have hlp9 : lp ≤ 90000 := by omega
      have HJL := Lib.hid hJL
      have HLP := Lib.hid hlp'
      subst eA
      have HD : Hid (len4 lp = [(lp : Int) / 16777216, (lp : Int) / 65536, (lp : Int) / 256 % 256, (lp : Int) % 256]) := Lib.hid (by unfold len4; rw [show (lp : Int) / 16777216 % 256 = (lp : Int) / 16777216 from by omega, show (lp : Int) / 65536 % 256 = (lp : Int) / 65536 from by omega])
      clear hcell hBw hp hlp' hCp hJL
      go_wp2_with (first
        | ((with_reducible refine gate_builtin (b := .append) (xs := #[.tmp 17, .tmp 29]) rfl ?_); at_builtin; go_loud (refine Kd.R_append_rows (Kd.int .u8) (w0 := w1) w1.heap.size rfl (.tmp 17) (.tmp 29) 29 5 (.int .u8 0) 1 rfl Try.underlying29 info5 rfl (by decide) (by omega) (.slice A' m c') (jN ps k) [(lp : Int) / 16777216, (lp : Int) / 65536, (lp : Int) / 256 % 256, (lp : Int) % 256] (some ⟨wr.heap.size, 0, none⟩) 4 4 (fun _ => True) (fun _ => False) rfl rfl (Kd.R_alloc hO.out _) (by exact lit_reads .u8 [(lp : Int) / 16777216, (lp : Int) / 65536, (lp : Int) / 256 % 256, (lp : Int) % 256] rfl rfl (by simp) wr _) (fun _ _ h => h) (fun _ h => h.elim) (fun _ _ => trivial) (below_alloc hB.out _) (by have := hB.out.size; simp; omega) (by have := HJL.out; omega) ?_); intro v3 w3 ho3 hb3 hg3 hat3; rw [← HD.out] at ho3; have HO3 := Lib.hid ho3; have HB3 := Lib.hid hb3; have HCp3 := Lib.hid (Kd.C_below HCp.out (below_next HB1.out hb3)); clear ho3 hb3 hg3 hat3)
        | ((with_reducible refine gate_builtin (b := .append) (xs := #[.tmp 31, .tmp 32]) rfl ?_); at_builtin; refine Kd.R_append_rows (Kd.int .u8) (w0 := w1) w1.heap.size rfl (.tmp 31) (.tmp 32) 29 5 (.int .u8 0) 1 rfl Try.underlying29 info5 rfl (by decide) (by omega) v3 (jN ps k ++ len4 lp) p Ap lp cp (fun _ => True) (fun _ => False) rfl rfl HO3.out HCp3.out (fun _ _ h => h) (fun _ h => h.elim) (fun _ _ => trivial) HB3.out HB3.out.size (by rw [List.length_append]; have := HJL.out; simp only [len4, List.length_cons, List.length_nil]; omega) ?_; intro v4 w4 ho4 hb4 hg4 hat4; rw [← HJ.out] at ho4; have HO4 := Lib.hid ho4; have HB4 := Lib.hid hb4; clear ho4 hb4 hg4 hat4)
        | fail)
      obtain ⟨A4, c4, e4⟩ := Kd.R_slice HO4.out
      subst e4
      go_roundw
      case rel => exact ⟨k + 1, _, A4, c4, rfl, by go_num, by omega, Lib.hid rfl, HO4, HB4⟩
      case measure => simp [intOf]; omega
    · have hk' : k = n := by omega
      subst hk'
      have HJF : Hid (jF ps = jN ps k) := Lib.hid (by unfold jF; rw [HN.out])
      have hm9 : m ≤ 90000 := by rw [hm'.out]; exact HS.out k (by omega)
      have HC := Lib.hid (Kd.R_reads' hO.out).2.2
      have hmc : m ≤ c' := (Kd.R_reads' hO.out).2.1
      have HBw := Lib.hid (below_next HB1.out hB.out)
      obtain ⟨J, hJ⟩ : ∃ J, J = jN ps k := ⟨_, rfl⟩
      rw [← hJ] at HC hm'
      have HJE := Lib.hid hJ
      have hX := hsum_any A0 c0 key A' c' J wr (Kd.C_below HR.out HBw.out) HKL.out.1 HKL.out.2 (by rw [← hm'.out]; have h := HC.out; rw [← hm'.out] at h; exact h) (by rw [← hm'.out]; exact hmc) (by rw [← hm'.out]; omega)
      rw [← hm'.out] at hX
      have HX := Lib.hid hX
      clear hX hJ
      obtain ⟨wo, hwo⟩ : ∃ wo : World, wo = wr := ⟨_, rfl⟩
      subst hwo
      have HAw := Lib.hid (HA1.out.next hB.out)
      go_wp2_with fail
      refine HX.out.mono ?_
      rintro e w5 ⟨rfl, hB5⟩
      obtain ⟨E, hE⟩ : ∃ E, E = hmF key J := ⟨_, rfl⟩
      have HEL : Hid (E.length = 32) := Lib.hid (by rw [hE]; exact hmF_length key J)
      have HEE := Lib.hid hE
      rw [← hE]
      have HAx := Lib.hid (HAw.out.next hB5)
      have HBx := Lib.hid (below_next HBw.out hB5)
      clear hE hB5
      go_wp2_with (first
        | ((with_reducible refine gate_store (t := 24) (p := 4) rfl ?_); refine store_arr rfl 24 _ _ rfl w.heap.size .u8 E rfl rfl 24 _ HAx.out (by rw [HEL.out]; rfl) (by rw [HEL.out]; kernel_rfl) ?_; intro w6 hA6 hw6; subst hw6)
        | fail)
      exact bodyPost_ret (results_arr rfl _ _ w.heap.size .u8 _ _ _ E rfl hA6 Try.underlying24 (by rw [HEL.out]; kernel_rfl)) rfl ⟨by rw [HEE.out, HJE.out, HJF.out], below_setRow HBx.out _ (Nat.le_refl _) _⟩
end Go.Proofs.Ytoiiacbbfhlocaa.HHa
end
end
section
section
set_option linter.unusedVariables false
namespace Go.Proofs.Ytoiiacbbfhlocaa.HSa
open Go.RowKit Go.Proofs.YtoiiacbbfhlocaaW.PrintWords Go.Proofs.Ytoiiacbbfhlocaa.Sa
set_option maxRecDepth 100000
theorem root_2 : padlockref01_Root.f 250 2 true = some 1116352408 := by decide +kernel
theorem sqrt_2 : padlockref01_Root.f 250 2 false = some 1779033703 := by decide +kernel
theorem root_3 : padlockref01_Root.f 250 3 true = some 1899447441 := by decide +kernel
theorem sqrt_3 : padlockref01_Root.f 250 3 false = some 3144134277 := by decide +kernel
theorem root_5 : padlockref01_Root.f 250 5 true = some 3049323471 := by decide +kernel
theorem sqrt_5 : padlockref01_Root.f 250 5 false = some 1013904242 := by decide +kernel
theorem root_7 : padlockref01_Root.f 250 7 true = some 3921009573 := by decide +kernel
theorem sqrt_7 : padlockref01_Root.f 250 7 false = some 2773480762 := by decide +kernel
theorem root_11 : padlockref01_Root.f 250 11 true = some 961987163 := by decide +kernel
theorem sqrt_11 : padlockref01_Root.f 250 11 false = some 1359893119 := by decide +kernel
theorem root_13 : padlockref01_Root.f 250 13 true = some 1508970993 := by decide +kernel
theorem sqrt_13 : padlockref01_Root.f 250 13 false = some 2600822924 := by decide +kernel
theorem root_17 : padlockref01_Root.f 250 17 true = some 2453635748 := by decide +kernel
theorem sqrt_17 : padlockref01_Root.f 250 17 false = some 528734635 := by decide +kernel
theorem root_19 : padlockref01_Root.f 250 19 true = some 2870763221 := by decide +kernel
theorem sqrt_19 : padlockref01_Root.f 250 19 false = some 1541459225 := by decide +kernel
theorem root_23 : padlockref01_Root.f 250 23 true = some 3624381080 := by decide +kernel
theorem root_29 : padlockref01_Root.f 250 29 true = some 310598401 := by decide +kernel
theorem root_31 : padlockref01_Root.f 250 31 true = some 607225278 := by decide +kernel
theorem root_37 : padlockref01_Root.f 250 37 true = some 1426881987 := by decide +kernel
theorem root_41 : padlockref01_Root.f 250 41 true = some 1925078388 := by decide +kernel
end Go.Proofs.Ytoiiacbbfhlocaa.HSa
end
section
set_option linter.unusedVariables false
namespace Go.Proofs.Ytoiiacbbfhlocaa.HSa
open Go.RowKit Go.Proofs.YtoiiacbbfhlocaaW.PrintWords Go.Proofs.Ytoiiacbbfhlocaa.Sa
set_option maxRecDepth 100000
theorem root_43 : padlockref01_Root.f 250 43 true = some 2162078206 := by decide +kernel
theorem root_47 : padlockref01_Root.f 250 47 true = some 2614888103 := by decide +kernel
theorem root_53 : padlockref01_Root.f 250 53 true = some 3248222580 := by decide +kernel
theorem root_59 : padlockref01_Root.f 250 59 true = some 3835390401 := by decide +kernel
theorem root_61 : padlockref01_Root.f 250 61 true = some 4022224774 := by decide +kernel
theorem root_67 : padlockref01_Root.f 250 67 true = some 264347078 := by decide +kernel
theorem root_71 : padlockref01_Root.f 250 71 true = some 604807628 := by decide +kernel
theorem root_73 : padlockref01_Root.f 250 73 true = some 770255983 := by decide +kernel
theorem root_79 : padlockref01_Root.f 250 79 true = some 1249150122 := by decide +kernel
theorem root_83 : padlockref01_Root.f 250 83 true = some 1555081692 := by decide +kernel
theorem root_89 : padlockref01_Root.f 250 89 true = some 1996064986 := by decide +kernel
theorem root_97 : padlockref01_Root.f 250 97 true = some 2554220882 := by decide +kernel
theorem root_101 : padlockref01_Root.f 250 101 true = some 2821834349 := by decide +kernel
end Go.Proofs.Ytoiiacbbfhlocaa.HSa
end
section
set_option linter.unusedVariables false
namespace Go.Proofs.Ytoiiacbbfhlocaa.HSa
open Go.RowKit Go.Proofs.YtoiiacbbfhlocaaW.PrintWords Go.Proofs.Ytoiiacbbfhlocaa.Sa
set_option maxRecDepth 100000
theorem root_103 : padlockref01_Root.f 250 103 true = some 2952996808 := by decide +kernel
theorem root_107 : padlockref01_Root.f 250 107 true = some 3210313671 := by decide +kernel
theorem root_109 : padlockref01_Root.f 250 109 true = some 3336571891 := by decide +kernel
theorem root_113 : padlockref01_Root.f 250 113 true = some 3584528711 := by decide +kernel
theorem root_127 : padlockref01_Root.f 250 127 true = some 113926993 := by decide +kernel
theorem root_131 : padlockref01_Root.f 250 131 true = some 338241895 := by decide +kernel
theorem root_137 : padlockref01_Root.f 250 137 true = some 666307205 := by decide +kernel
theorem root_139 : padlockref01_Root.f 250 139 true = some 773529912 := by decide +kernel
theorem root_149 : padlockref01_Root.f 250 149 true = some 1294757372 := by decide +kernel
theorem root_151 : padlockref01_Root.f 250 151 true = some 1396182291 := by decide +kernel
theorem root_157 : padlockref01_Root.f 250 157 true = some 1695183700 := by decide +kernel
theorem root_163 : padlockref01_Root.f 250 163 true = some 1986661051 := by decide +kernel
theorem root_167 : padlockref01_Root.f 250 167 true = some 2177026350 := by decide +kernel
end Go.Proofs.Ytoiiacbbfhlocaa.HSa
end
section
set_option linter.unusedVariables false
namespace Go.Proofs.Ytoiiacbbfhlocaa.HSa
open Go.RowKit Go.Proofs.YtoiiacbbfhlocaaW.PrintWords Go.Proofs.Ytoiiacbbfhlocaa.Sa
set_option maxRecDepth 100000
theorem root_173 : padlockref01_Root.f 250 173 true = some 2456956037 := by decide +kernel
theorem root_179 : padlockref01_Root.f 250 179 true = some 2730485921 := by decide +kernel
theorem root_181 : padlockref01_Root.f 250 181 true = some 2820302411 := by decide +kernel
theorem root_191 : padlockref01_Root.f 250 191 true = some 3259730800 := by decide +kernel
theorem root_193 : padlockref01_Root.f 250 193 true = some 3345764771 := by decide +kernel
theorem root_197 : padlockref01_Root.f 250 197 true = some 3516065817 := by decide +kernel
theorem root_199 : padlockref01_Root.f 250 199 true = some 3600352804 := by decide +kernel
theorem root_211 : padlockref01_Root.f 250 211 true = some 4094571909 := by decide +kernel
theorem root_223 : padlockref01_Root.f 250 223 true = some 275423344 := by decide +kernel
theorem root_227 : padlockref01_Root.f 250 227 true = some 430227734 := by decide +kernel
theorem root_229 : padlockref01_Root.f 250 229 true = some 506948616 := by decide +kernel
theorem root_233 : padlockref01_Root.f 250 233 true = some 659060556 := by decide +kernel
theorem root_239 : padlockref01_Root.f 250 239 true = some 883997877 := by decide +kernel
end Go.Proofs.Ytoiiacbbfhlocaa.HSa
end
section
set_option linter.unusedVariables false
namespace Go.Proofs.Ytoiiacbbfhlocaa.HSa
open Go.RowKit Go.Proofs.YtoiiacbbfhlocaaW.PrintWords Go.Proofs.Ytoiiacbbfhlocaa.Sa
set_option maxRecDepth 100000
theorem root_241 : padlockref01_Root.f 250 241 true = some 958139571 := by decide +kernel
theorem root_251 : padlockref01_Root.f 250 251 true = some 1322822218 := by decide +kernel
theorem root_257 : padlockref01_Root.f 250 257 true = some 1537002063 := by decide +kernel
theorem root_263 : padlockref01_Root.f 250 263 true = some 1747873779 := by decide +kernel
theorem root_269 : padlockref01_Root.f 250 269 true = some 1955562222 := by decide +kernel
theorem root_271 : padlockref01_Root.f 250 271 true = some 2024104815 := by decide +kernel
theorem root_277 : padlockref01_Root.f 250 277 true = some 2227730452 := by decide +kernel
theorem root_281 : padlockref01_Root.f 250 281 true = some 2361852424 := by decide +kernel
theorem root_283 : padlockref01_Root.f 250 283 true = some 2428436474 := by decide +kernel
theorem root_293 : padlockref01_Root.f 250 293 true = some 2756734187 := by decide +kernel
theorem root_307 : padlockref01_Root.f 250 307 true = some 3204031479 := by decide +kernel
theorem root_311 : padlockref01_Root.f 250 311 true = some 3329325298 := by decide +kernel
end Go.Proofs.Ytoiiacbbfhlocaa.HSa
end
section
set_option linter.unusedVariables false
namespace Go.Proofs.Ytoiiacbbfhlocaa.HSa
open Go.RowKit Go.Proofs.YtoiiacbbfhlocaaW.PrintWords Go.Proofs.Ytoiiacbbfhlocaa.Sa
theorem root_more (n : Int) (b : Bool) (v : Int) (h : padlockref01_Root.f 250 n b = some v) : ∀ d, padlockref01_Root.f (250 + d) n b = some v
  | 0 => h
  | d + 1 => by
    have := padlockref01_Root.mono n b (250 + d)
    exact this v (root_more n b v h d)
theorem prime_more (n : Int) (v : Bool) (h : padlockref01_Prime.f 250 n = some v) : ∀ d, padlockref01_Prime.f (250 + d) n = some v
  | 0 => h
  | d + 1 => by
    have := padlockref01_Prime.mono n (250 + d)
    exact this v (prime_more n v h d)
theorem step_no (k : Nat) (r c : List Int) (n : Int) (hc : c.length < 64) (hn : 0 ≤ n ∧ n < 1000) (hp : padlockref01_Prime.f 250 n = some false) : padlockref01_Constants.l0 (250 + k + 1) r c n = padlockref01_Constants.l0 (250 + k) r c (n + 1) := by
  generalize hK : 250 + k = K
  simp only [padlockref01_Constants.l0]
  subst hK
  rw [if_pos (by omega), prime_more n false hp k]
  simp only [Option.bind_some]
  rw [if_neg (by simp), show IntKind.u64.wrap (n + 1) = n + 1 from by rw [IntKind.wrap_u64]; omega]
theorem step_yes (k : Nat) (r c : List Int) (n v : Int) (hc : c.length < 64) (hr : r.length = 8) (hn : 0 ≤ n ∧ n < 1000) (hp : padlockref01_Prime.f 250 n = some true) (hv : padlockref01_Root.f 250 n true = some v) : padlockref01_Constants.l0 (250 + k + 1) r c n = padlockref01_Constants.l0 (250 + k) r (c ++ [v]) (n + 1) := by
  generalize hK : 250 + k = K
  simp only [padlockref01_Constants.l0]
  subst hK
  rw [if_pos (by omega), prime_more n true hp k]
  simp only [Option.bind_some]
  rw [if_pos trivial, if_neg (by omega), root_more n true v hv k]
  simp only [Option.bind_some]
  rw [if_pos (by omega), show IntKind.u64.wrap (n + 1) = n + 1 from by rw [IntKind.wrap_u64]; omega]
theorem step_yes8 (k : Nat) (r c : List Int) (n v u : Int) (hc : c.length < 64) (hr : r.length < 8) (hn : 0 ≤ n ∧ n < 1000) (hp : padlockref01_Prime.f 250 n = some true) (hv : padlockref01_Root.f 250 n true = some v) (hu : padlockref01_Root.f 250 n false = some u) : padlockref01_Constants.l0 (250 + k + 1) r c n = padlockref01_Constants.l0 (250 + k) (r ++ [u]) (c ++ [v]) (n + 1) := by
  generalize hK : 250 + k = K
  simp only [padlockref01_Constants.l0]
  subst hK
  rw [if_pos (by omega), prime_more n true hp k]
  simp only [Option.bind_some]
  rw [if_pos trivial, if_pos (by omega), root_more n false u hu k]
  simp only [Option.bind_some]
  rw [if_pos (by omega), root_more n true v hv k]
  simp only [Option.bind_some]
  rw [if_pos (by omega), show IntKind.u64.wrap (n + 1) = n + 1 from by rw [IntKind.wrap_u64]; omega]
theorem step_end (k : Nat) (r c : List Int) (n : Int) (hc : c.length = 64) : padlockref01_Constants.l0 (k + 1) r c n = some (r, c) := by
  simp only [padlockref01_Constants.l0]
  rw [if_neg (by omega)]
set_option maxRecDepth 100000 in
theorem run_0 (k : Nat) : padlockref01_Constants.l0 (250 + (k + 310)) [] [] 2 = padlockref01_Constants.l0 (250 + (k + 279)) [1779033703, 3144134277, 1013904242, 2773480762, 1359893119, 2600822924, 528734635, 1541459225] [1116352408, 1899447441, 3049323471, 3921009573, 961987163, 1508970993, 2453635748, 2870763221, 3624381080, 310598401, 607225278] 33 := by
  refine (step_yes8 (k + 309) _ _ 2 _ _ (by decide) (by decide) (by decide) (by decide +kernel) root_2 sqrt_2).trans ?_
  refine (step_yes8 (k + 308) _ _ 3 _ _ (by decide) (by decide) (by decide) (by decide +kernel) root_3 sqrt_3).trans ?_
  refine (step_no (k + 307) _ _ 4 (by decide) (by decide) (by decide +kernel)).trans ?_
  refine (step_yes8 (k + 306) _ _ 5 _ _ (by decide) (by decide) (by decide) (by decide +kernel) root_5 sqrt_5).trans ?_
  refine (step_no (k + 305) _ _ 6 (by decide) (by decide) (by decide +kernel)).trans ?_
  refine (step_yes8 (k + 304) _ _ 7 _ _ (by decide) (by decide) (by decide) (by decide +kernel) root_7 sqrt_7).trans ?_
  refine (step_no (k + 303) _ _ 8 (by decide) (by decide) (by decide +kernel)).trans ?_
  refine (step_no (k + 302) _ _ 9 (by decide) (by decide) (by decide +kernel)).trans ?_
  refine (step_no (k + 301) _ _ 10 (by decide) (by decide) (by decide +kernel)).trans ?_
  refine (step_yes8 (k + 300) _ _ 11 _ _ (by decide) (by decide) (by decide) (by decide +kernel) root_11 sqrt_11).trans ?_
  refine (step_no (k + 299) _ _ 12 (by decide) (by decide) (by decide +kernel)).trans ?_
  refine (step_yes8 (k + 298) _ _ 13 _ _ (by decide) (by decide) (by decide) (by decide +kernel) root_13 sqrt_13).trans ?_
  refine (step_no (k + 297) _ _ 14 (by decide) (by decide) (by decide +kernel)).trans ?_
  refine (step_no (k + 296) _ _ 15 (by decide) (by decide) (by decide +kernel)).trans ?_
  refine (step_no (k + 295) _ _ 16 (by decide) (by decide) (by decide +kernel)).trans ?_
  refine (step_yes8 (k + 294) _ _ 17 _ _ (by decide) (by decide) (by decide) (by decide +kernel) root_17 sqrt_17).trans ?_
  refine (step_no (k + 293) _ _ 18 (by decide) (by decide) (by decide +kernel)).trans ?_
  refine (step_yes8 (k + 292) _ _ 19 _ _ (by decide) (by decide) (by decide) (by decide +kernel) root_19 sqrt_19).trans ?_
  refine (step_no (k + 291) _ _ 20 (by decide) (by decide) (by decide +kernel)).trans ?_
  refine (step_no (k + 290) _ _ 21 (by decide) (by decide) (by decide +kernel)).trans ?_
  refine (step_no (k + 289) _ _ 22 (by decide) (by decide) (by decide +kernel)).trans ?_
  refine (step_yes (k + 288) _ _ 23 _ (by decide) (by decide) (by decide) (by decide +kernel) root_23).trans ?_
  refine (step_no (k + 287) _ _ 24 (by decide) (by decide) (by decide +kernel)).trans ?_
  refine (step_no (k + 286) _ _ 25 (by decide) (by decide) (by decide +kernel)).trans ?_
  refine (step_no (k + 285) _ _ 26 (by decide) (by decide) (by decide +kernel)).trans ?_
  refine (step_no (k + 284) _ _ 27 (by decide) (by decide) (by decide +kernel)).trans ?_
  refine (step_no (k + 283) _ _ 28 (by decide) (by decide) (by decide +kernel)).trans ?_
  refine (step_yes (k + 282) _ _ 29 _ (by decide) (by decide) (by decide) (by decide +kernel) root_29).trans ?_
  refine (step_no (k + 281) _ _ 30 (by decide) (by decide) (by decide +kernel)).trans ?_
  refine (step_yes (k + 280) _ _ 31 _ (by decide) (by decide) (by decide) (by decide +kernel) root_31).trans ?_
  refine (step_no (k + 279) _ _ 32 (by decide) (by decide) (by decide +kernel)).trans ?_
  rfl
set_option maxRecDepth 100000 in
theorem run_1 (k : Nat) : padlockref01_Constants.l0 (250 + (k + 279)) [1779033703, 3144134277, 1013904242, 2773480762, 1359893119, 2600822924, 528734635, 1541459225] [1116352408, 1899447441, 3049323471, 3921009573, 961987163, 1508970993, 2453635748, 2870763221, 3624381080, 310598401, 607225278] 33 = padlockref01_Constants.l0 (250 + (k + 248)) [1779033703, 3144134277, 1013904242, 2773480762, 1359893119, 2600822924, 528734635, 1541459225] [1116352408, 1899447441, 3049323471, 3921009573, 961987163, 1508970993, 2453635748, 2870763221, 3624381080, 310598401, 607225278, 1426881987, 1925078388, 2162078206, 2614888103, 3248222580, 3835390401, 4022224774] 64 := by
  refine (step_no (k + 278) _ _ 33 (by decide) (by decide) (by decide +kernel)).trans ?_
  refine (step_no (k + 277) _ _ 34 (by decide) (by decide) (by decide +kernel)).trans ?_
  refine (step_no (k + 276) _ _ 35 (by decide) (by decide) (by decide +kernel)).trans ?_
  refine (step_no (k + 275) _ _ 36 (by decide) (by decide) (by decide +kernel)).trans ?_
  refine (step_yes (k + 274) _ _ 37 _ (by decide) (by decide) (by decide) (by decide +kernel) root_37).trans ?_
  refine (step_no (k + 273) _ _ 38 (by decide) (by decide) (by decide +kernel)).trans ?_
  refine (step_no (k + 272) _ _ 39 (by decide) (by decide) (by decide +kernel)).trans ?_
  refine (step_no (k + 271) _ _ 40 (by decide) (by decide) (by decide +kernel)).trans ?_
  refine (step_yes (k + 270) _ _ 41 _ (by decide) (by decide) (by decide) (by decide +kernel) root_41).trans ?_
  refine (step_no (k + 269) _ _ 42 (by decide) (by decide) (by decide +kernel)).trans ?_
  refine (step_yes (k + 268) _ _ 43 _ (by decide) (by decide) (by decide) (by decide +kernel) root_43).trans ?_
  refine (step_no (k + 267) _ _ 44 (by decide) (by decide) (by decide +kernel)).trans ?_
  refine (step_no (k + 266) _ _ 45 (by decide) (by decide) (by decide +kernel)).trans ?_
  refine (step_no (k + 265) _ _ 46 (by decide) (by decide) (by decide +kernel)).trans ?_
  refine (step_yes (k + 264) _ _ 47 _ (by decide) (by decide) (by decide) (by decide +kernel) root_47).trans ?_
  refine (step_no (k + 263) _ _ 48 (by decide) (by decide) (by decide +kernel)).trans ?_
  refine (step_no (k + 262) _ _ 49 (by decide) (by decide) (by decide +kernel)).trans ?_
  refine (step_no (k + 261) _ _ 50 (by decide) (by decide) (by decide +kernel)).trans ?_
  refine (step_no (k + 260) _ _ 51 (by decide) (by decide) (by decide +kernel)).trans ?_
  refine (step_no (k + 259) _ _ 52 (by decide) (by decide) (by decide +kernel)).trans ?_
  refine (step_yes (k + 258) _ _ 53 _ (by decide) (by decide) (by decide) (by decide +kernel) root_53).trans ?_
  refine (step_no (k + 257) _ _ 54 (by decide) (by decide) (by decide +kernel)).trans ?_
  refine (step_no (k + 256) _ _ 55 (by decide) (by decide) (by decide +kernel)).trans ?_
  refine (step_no (k + 255) _ _ 56 (by decide) (by decide) (by decide +kernel)).trans ?_
  refine (step_no (k + 254) _ _ 57 (by decide) (by decide) (by decide +kernel)).trans ?_
  refine (step_no (k + 253) _ _ 58 (by decide) (by decide) (by decide +kernel)).trans ?_
  refine (step_yes (k + 252) _ _ 59 _ (by decide) (by decide) (by decide) (by decide +kernel) root_59).trans ?_
  refine (step_no (k + 251) _ _ 60 (by decide) (by decide) (by decide +kernel)).trans ?_
  refine (step_yes (k + 250) _ _ 61 _ (by decide) (by decide) (by decide) (by decide +kernel) root_61).trans ?_
  refine (step_no (k + 249) _ _ 62 (by decide) (by decide) (by decide +kernel)).trans ?_
  refine (step_no (k + 248) _ _ 63 (by decide) (by decide) (by decide +kernel)).trans ?_
  rfl
set_option maxRecDepth 100000 in
theorem run_2 (k : Nat) : padlockref01_Constants.l0 (250 + (k + 248)) [1779033703, 3144134277, 1013904242, 2773480762, 1359893119, 2600822924, 528734635, 1541459225] [1116352408, 1899447441, 3049323471, 3921009573, 961987163, 1508970993, 2453635748, 2870763221, 3624381080, 310598401, 607225278, 1426881987, 1925078388, 2162078206, 2614888103, 3248222580, 3835390401, 4022224774] 64 = padlockref01_Constants.l0 (250 + (k + 217)) [1779033703, 3144134277, 1013904242, 2773480762, 1359893119, 2600822924, 528734635, 1541459225] [1116352408, 1899447441, 3049323471, 3921009573, 961987163, 1508970993, 2453635748, 2870763221, 3624381080, 310598401, 607225278, 1426881987, 1925078388, 2162078206, 2614888103, 3248222580, 3835390401, 4022224774, 264347078, 604807628, 770255983, 1249150122, 1555081692, 1996064986] 95 := by
  refine (step_no (k + 247) _ _ 64 (by decide) (by decide) (by decide +kernel)).trans ?_
  refine (step_no (k + 246) _ _ 65 (by decide) (by decide) (by decide +kernel)).trans ?_
  refine (step_no (k + 245) _ _ 66 (by decide) (by decide) (by decide +kernel)).trans ?_
  refine (step_yes (k + 244) _ _ 67 _ (by decide) (by decide) (by decide) (by decide +kernel) root_67).trans ?_
  refine (step_no (k + 243) _ _ 68 (by decide) (by decide) (by decide +kernel)).trans ?_
  refine (step_no (k + 242) _ _ 69 (by decide) (by decide) (by decide +kernel)).trans ?_
  refine (step_no (k + 241) _ _ 70 (by decide) (by decide) (by decide +kernel)).trans ?_
  refine (step_yes (k + 240) _ _ 71 _ (by decide) (by decide) (by decide) (by decide +kernel) root_71).trans ?_
  refine (step_no (k + 239) _ _ 72 (by decide) (by decide) (by decide +kernel)).trans ?_
  refine (step_yes (k + 238) _ _ 73 _ (by decide) (by decide) (by decide) (by decide +kernel) root_73).trans ?_
  refine (step_no (k + 237) _ _ 74 (by decide) (by decide) (by decide +kernel)).trans ?_
  refine (step_no (k + 236) _ _ 75 (by decide) (by decide) (by decide +kernel)).trans ?_
  refine (step_no (k + 235) _ _ 76 (by decide) (by decide) (by decide +kernel)).trans ?_
  refine (step_no (k + 234) _ _ 77 (by decide) (by decide) (by decide +kernel)).trans ?_
  refine (step_no (k + 233) _ _ 78 (by decide) (by decide) (by decide +kernel)).trans ?_
  refine (step_yes (k + 232) _ _ 79 _ (by decide) (by decide) (by decide) (by decide +kernel) root_79).trans ?_
  refine (step_no (k + 231) _ _ 80 (by decide) (by decide) (by decide +kernel)).trans ?_
  refine (step_no (k + 230) _ _ 81 (by decide) (by decide) (by decide +kernel)).trans ?_
  refine (step_no (k + 229) _ _ 82 (by decide) (by decide) (by decide +kernel)).trans ?_
  refine (step_yes (k + 228) _ _ 83 _ (by decide) (by decide) (by decide) (by decide +kernel) root_83).trans ?_
  refine (step_no (k + 227) _ _ 84 (by decide) (by decide) (by decide +kernel)).trans ?_
  refine (step_no (k + 226) _ _ 85 (by decide) (by decide) (by decide +kernel)).trans ?_
  refine (step_no (k + 225) _ _ 86 (by decide) (by decide) (by decide +kernel)).trans ?_
  refine (step_no (k + 224) _ _ 87 (by decide) (by decide) (by decide +kernel)).trans ?_
  refine (step_no (k + 223) _ _ 88 (by decide) (by decide) (by decide +kernel)).trans ?_
  refine (step_yes (k + 222) _ _ 89 _ (by decide) (by decide) (by decide) (by decide +kernel) root_89).trans ?_
  refine (step_no (k + 221) _ _ 90 (by decide) (by decide) (by decide +kernel)).trans ?_
  refine (step_no (k + 220) _ _ 91 (by decide) (by decide) (by decide +kernel)).trans ?_
  refine (step_no (k + 219) _ _ 92 (by decide) (by decide) (by decide +kernel)).trans ?_
  refine (step_no (k + 218) _ _ 93 (by decide) (by decide) (by decide +kernel)).trans ?_
  refine (step_no (k + 217) _ _ 94 (by decide) (by decide) (by decide +kernel)).trans ?_
  rfl
set_option maxRecDepth 100000 in
theorem run_3 (k : Nat) : padlockref01_Constants.l0 (250 + (k + 217)) [1779033703, 3144134277, 1013904242, 2773480762, 1359893119, 2600822924, 528734635, 1541459225] [1116352408, 1899447441, 3049323471, 3921009573, 961987163, 1508970993, 2453635748, 2870763221, 3624381080, 310598401, 607225278, 1426881987, 1925078388, 2162078206, 2614888103, 3248222580, 3835390401, 4022224774, 264347078, 604807628, 770255983, 1249150122, 1555081692, 1996064986] 95 = padlockref01_Constants.l0 (250 + (k + 186)) [1779033703, 3144134277, 1013904242, 2773480762, 1359893119, 2600822924, 528734635, 1541459225] [1116352408, 1899447441, 3049323471, 3921009573, 961987163, 1508970993, 2453635748, 2870763221, 3624381080, 310598401, 607225278, 1426881987, 1925078388, 2162078206, 2614888103, 3248222580, 3835390401, 4022224774, 264347078, 604807628, 770255983, 1249150122, 1555081692, 1996064986, 2554220882, 2821834349, 2952996808, 3210313671, 3336571891, 3584528711] 126 := by
  refine (step_no (k + 216) _ _ 95 (by decide) (by decide) (by decide +kernel)).trans ?_
  refine (step_no (k + 215) _ _ 96 (by decide) (by decide) (by decide +kernel)).trans ?_
  refine (step_yes (k + 214) _ _ 97 _ (by decide) (by decide) (by decide) (by decide +kernel) root_97).trans ?_
  refine (step_no (k + 213) _ _ 98 (by decide) (by decide) (by decide +kernel)).trans ?_
  refine (step_no (k + 212) _ _ 99 (by decide) (by decide) (by decide +kernel)).trans ?_
  refine (step_no (k + 211) _ _ 100 (by decide) (by decide) (by decide +kernel)).trans ?_
  refine (step_yes (k + 210) _ _ 101 _ (by decide) (by decide) (by decide) (by decide +kernel) root_101).trans ?_
  refine (step_no (k + 209) _ _ 102 (by decide) (by decide) (by decide +kernel)).trans ?_
  refine (step_yes (k + 208) _ _ 103 _ (by decide) (by decide) (by decide) (by decide +kernel) root_103).trans ?_
  refine (step_no (k + 207) _ _ 104 (by decide) (by decide) (by decide +kernel)).trans ?_
  refine (step_no (k + 206) _ _ 105 (by decide) (by decide) (by decide +kernel)).trans ?_
  refine (step_no (k + 205) _ _ 106 (by decide) (by decide) (by decide +kernel)).trans ?_
  refine (step_yes (k + 204) _ _ 107 _ (by decide) (by decide) (by decide) (by decide +kernel) root_107).trans ?_
  refine (step_no (k + 203) _ _ 108 (by decide) (by decide) (by decide +kernel)).trans ?_
  refine (step_yes (k + 202) _ _ 109 _ (by decide) (by decide) (by decide) (by decide +kernel) root_109).trans ?_
  refine (step_no (k + 201) _ _ 110 (by decide) (by decide) (by decide +kernel)).trans ?_
  refine (step_no (k + 200) _ _ 111 (by decide) (by decide) (by decide +kernel)).trans ?_
  refine (step_no (k + 199) _ _ 112 (by decide) (by decide) (by decide +kernel)).trans ?_
  refine (step_yes (k + 198) _ _ 113 _ (by decide) (by decide) (by decide) (by decide +kernel) root_113).trans ?_
  refine (step_no (k + 197) _ _ 114 (by decide) (by decide) (by decide +kernel)).trans ?_
  refine (step_no (k + 196) _ _ 115 (by decide) (by decide) (by decide +kernel)).trans ?_
  refine (step_no (k + 195) _ _ 116 (by decide) (by decide) (by decide +kernel)).trans ?_
  refine (step_no (k + 194) _ _ 117 (by decide) (by decide) (by decide +kernel)).trans ?_
  refine (step_no (k + 193) _ _ 118 (by decide) (by decide) (by decide +kernel)).trans ?_
  refine (step_no (k + 192) _ _ 119 (by decide) (by decide) (by decide +kernel)).trans ?_
  refine (step_no (k + 191) _ _ 120 (by decide) (by decide) (by decide +kernel)).trans ?_
  refine (step_no (k + 190) _ _ 121 (by decide) (by decide) (by decide +kernel)).trans ?_
  refine (step_no (k + 189) _ _ 122 (by decide) (by decide) (by decide +kernel)).trans ?_
  refine (step_no (k + 188) _ _ 123 (by decide) (by decide) (by decide +kernel)).trans ?_
  refine (step_no (k + 187) _ _ 124 (by decide) (by decide) (by decide +kernel)).trans ?_
  refine (step_no (k + 186) _ _ 125 (by decide) (by decide) (by decide +kernel)).trans ?_
  rfl
set_option maxRecDepth 100000 in
theorem run_4 (k : Nat) : padlockref01_Constants.l0 (250 + (k + 186)) [1779033703, 3144134277, 1013904242, 2773480762, 1359893119, 2600822924, 528734635, 1541459225] [1116352408, 1899447441, 3049323471, 3921009573, 961987163, 1508970993, 2453635748, 2870763221, 3624381080, 310598401, 607225278, 1426881987, 1925078388, 2162078206, 2614888103, 3248222580, 3835390401, 4022224774, 264347078, 604807628, 770255983, 1249150122, 1555081692, 1996064986, 2554220882, 2821834349, 2952996808, 3210313671, 3336571891, 3584528711] 126 = padlockref01_Constants.l0 (250 + (k + 155)) [1779033703, 3144134277, 1013904242, 2773480762, 1359893119, 2600822924, 528734635, 1541459225] [1116352408, 1899447441, 3049323471, 3921009573, 961987163, 1508970993, 2453635748, 2870763221, 3624381080, 310598401, 607225278, 1426881987, 1925078388, 2162078206, 2614888103, 3248222580, 3835390401, 4022224774, 264347078, 604807628, 770255983, 1249150122, 1555081692, 1996064986, 2554220882, 2821834349, 2952996808, 3210313671, 3336571891, 3584528711, 113926993, 338241895, 666307205, 773529912, 1294757372, 1396182291] 157 := by
  refine (step_no (k + 185) _ _ 126 (by decide) (by decide) (by decide +kernel)).trans ?_
  refine (step_yes (k + 184) _ _ 127 _ (by decide) (by decide) (by decide) (by decide +kernel) root_127).trans ?_
  refine (step_no (k + 183) _ _ 128 (by decide) (by decide) (by decide +kernel)).trans ?_
  refine (step_no (k + 182) _ _ 129 (by decide) (by decide) (by decide +kernel)).trans ?_
  refine (step_no (k + 181) _ _ 130 (by decide) (by decide) (by decide +kernel)).trans ?_
  refine (step_yes (k + 180) _ _ 131 _ (by decide) (by decide) (by decide) (by decide +kernel) root_131).trans ?_
  refine (step_no (k + 179) _ _ 132 (by decide) (by decide) (by decide +kernel)).trans ?_
  refine (step_no (k + 178) _ _ 133 (by decide) (by decide) (by decide +kernel)).trans ?_
  refine (step_no (k + 177) _ _ 134 (by decide) (by decide) (by decide +kernel)).trans ?_
  refine (step_no (k + 176) _ _ 135 (by decide) (by decide) (by decide +kernel)).trans ?_
  refine (step_no (k + 175) _ _ 136 (by decide) (by decide) (by decide +kernel)).trans ?_
  refine (step_yes (k + 174) _ _ 137 _ (by decide) (by decide) (by decide) (by decide +kernel) root_137).trans ?_
  refine (step_no (k + 173) _ _ 138 (by decide) (by decide) (by decide +kernel)).trans ?_
  refine (step_yes (k + 172) _ _ 139 _ (by decide) (by decide) (by decide) (by decide +kernel) root_139).trans ?_
  refine (step_no (k + 171) _ _ 140 (by decide) (by decide) (by decide +kernel)).trans ?_
  refine (step_no (k + 170) _ _ 141 (by decide) (by decide) (by decide +kernel)).trans ?_
  refine (step_no (k + 169) _ _ 142 (by decide) (by decide) (by decide +kernel)).trans ?_
  refine (step_no (k + 168) _ _ 143 (by decide) (by decide) (by decide +kernel)).trans ?_
  refine (step_no (k + 167) _ _ 144 (by decide) (by decide) (by decide +kernel)).trans ?_
  refine (step_no (k + 166) _ _ 145 (by decide) (by decide) (by decide +kernel)).trans ?_
  refine (step_no (k + 165) _ _ 146 (by decide) (by decide) (by decide +kernel)).trans ?_
  refine (step_no (k + 164) _ _ 147 (by decide) (by decide) (by decide +kernel)).trans ?_
  refine (step_no (k + 163) _ _ 148 (by decide) (by decide) (by decide +kernel)).trans ?_
  refine (step_yes (k + 162) _ _ 149 _ (by decide) (by decide) (by decide) (by decide +kernel) root_149).trans ?_
  refine (step_no (k + 161) _ _ 150 (by decide) (by decide) (by decide +kernel)).trans ?_
  refine (step_yes (k + 160) _ _ 151 _ (by decide) (by decide) (by decide) (by decide +kernel) root_151).trans ?_
  refine (step_no (k + 159) _ _ 152 (by decide) (by decide) (by decide +kernel)).trans ?_
  refine (step_no (k + 158) _ _ 153 (by decide) (by decide) (by decide +kernel)).trans ?_
  refine (step_no (k + 157) _ _ 154 (by decide) (by decide) (by decide +kernel)).trans ?_
  refine (step_no (k + 156) _ _ 155 (by decide) (by decide) (by decide +kernel)).trans ?_
  refine (step_no (k + 155) _ _ 156 (by decide) (by decide) (by decide +kernel)).trans ?_
  rfl
set_option maxRecDepth 100000 in
theorem run_5 (k : Nat) : padlockref01_Constants.l0 (250 + (k + 155)) [1779033703, 3144134277, 1013904242, 2773480762, 1359893119, 2600822924, 528734635, 1541459225] [1116352408, 1899447441, 3049323471, 3921009573, 961987163, 1508970993, 2453635748, 2870763221, 3624381080, 310598401, 607225278, 1426881987, 1925078388, 2162078206, 2614888103, 3248222580, 3835390401, 4022224774, 264347078, 604807628, 770255983, 1249150122, 1555081692, 1996064986, 2554220882, 2821834349, 2952996808, 3210313671, 3336571891, 3584528711, 113926993, 338241895, 666307205, 773529912, 1294757372, 1396182291] 157 = padlockref01_Constants.l0 (250 + (k + 124)) [1779033703, 3144134277, 1013904242, 2773480762, 1359893119, 2600822924, 528734635, 1541459225] [1116352408, 1899447441, 3049323471, 3921009573, 961987163, 1508970993, 2453635748, 2870763221, 3624381080, 310598401, 607225278, 1426881987, 1925078388, 2162078206, 2614888103, 3248222580, 3835390401, 4022224774, 264347078, 604807628, 770255983, 1249150122, 1555081692, 1996064986, 2554220882, 2821834349, 2952996808, 3210313671, 3336571891, 3584528711, 113926993, 338241895, 666307205, 773529912, 1294757372, 1396182291, 1695183700, 1986661051, 2177026350, 2456956037, 2730485921, 2820302411] 188 := by
  refine (step_yes (k + 154) _ _ 157 _ (by decide) (by decide) (by decide) (by decide +kernel) root_157).trans ?_
  refine (step_no (k + 153) _ _ 158 (by decide) (by decide) (by decide +kernel)).trans ?_
  refine (step_no (k + 152) _ _ 159 (by decide) (by decide) (by decide +kernel)).trans ?_
  refine (step_no (k + 151) _ _ 160 (by decide) (by decide) (by decide +kernel)).trans ?_
  refine (step_no (k + 150) _ _ 161 (by decide) (by decide) (by decide +kernel)).trans ?_
  refine (step_no (k + 149) _ _ 162 (by decide) (by decide) (by decide +kernel)).trans ?_
  refine (step_yes (k + 148) _ _ 163 _ (by decide) (by decide) (by decide) (by decide +kernel) root_163).trans ?_
  refine (step_no (k + 147) _ _ 164 (by decide) (by decide) (by decide +kernel)).trans ?_
  refine (step_no (k + 146) _ _ 165 (by decide) (by decide) (by decide +kernel)).trans ?_
  refine (step_no (k + 145) _ _ 166 (by decide) (by decide) (by decide +kernel)).trans ?_
  refine (step_yes (k + 144) _ _ 167 _ (by decide) (by decide) (by decide) (by decide +kernel) root_167).trans ?_
  refine (step_no (k + 143) _ _ 168 (by decide) (by decide) (by decide +kernel)).trans ?_
  refine (step_no (k + 142) _ _ 169 (by decide) (by decide) (by decide +kernel)).trans ?_
  refine (step_no (k + 141) _ _ 170 (by decide) (by decide) (by decide +kernel)).trans ?_
  refine (step_no (k + 140) _ _ 171 (by decide) (by decide) (by decide +kernel)).trans ?_
  refine (step_no (k + 139) _ _ 172 (by decide) (by decide) (by decide +kernel)).trans ?_
  refine (step_yes (k + 138) _ _ 173 _ (by decide) (by decide) (by decide) (by decide +kernel) root_173).trans ?_
  refine (step_no (k + 137) _ _ 174 (by decide) (by decide) (by decide +kernel)).trans ?_
  refine (step_no (k + 136) _ _ 175 (by decide) (by decide) (by decide +kernel)).trans ?_
  refine (step_no (k + 135) _ _ 176 (by decide) (by decide) (by decide +kernel)).trans ?_
  refine (step_no (k + 134) _ _ 177 (by decide) (by decide) (by decide +kernel)).trans ?_
  refine (step_no (k + 133) _ _ 178 (by decide) (by decide) (by decide +kernel)).trans ?_
  refine (step_yes (k + 132) _ _ 179 _ (by decide) (by decide) (by decide) (by decide +kernel) root_179).trans ?_
  refine (step_no (k + 131) _ _ 180 (by decide) (by decide) (by decide +kernel)).trans ?_
  refine (step_yes (k + 130) _ _ 181 _ (by decide) (by decide) (by decide) (by decide +kernel) root_181).trans ?_
  refine (step_no (k + 129) _ _ 182 (by decide) (by decide) (by decide +kernel)).trans ?_
  refine (step_no (k + 128) _ _ 183 (by decide) (by decide) (by decide +kernel)).trans ?_
  refine (step_no (k + 127) _ _ 184 (by decide) (by decide) (by decide +kernel)).trans ?_
  refine (step_no (k + 126) _ _ 185 (by decide) (by decide) (by decide +kernel)).trans ?_
  refine (step_no (k + 125) _ _ 186 (by decide) (by decide) (by decide +kernel)).trans ?_
  refine (step_no (k + 124) _ _ 187 (by decide) (by decide) (by decide +kernel)).trans ?_
  rfl
set_option maxRecDepth 100000 in
theorem run_6 (k : Nat) : padlockref01_Constants.l0 (250 + (k + 124)) [1779033703, 3144134277, 1013904242, 2773480762, 1359893119, 2600822924, 528734635, 1541459225] [1116352408, 1899447441, 3049323471, 3921009573, 961987163, 1508970993, 2453635748, 2870763221, 3624381080, 310598401, 607225278, 1426881987, 1925078388, 2162078206, 2614888103, 3248222580, 3835390401, 4022224774, 264347078, 604807628, 770255983, 1249150122, 1555081692, 1996064986, 2554220882, 2821834349, 2952996808, 3210313671, 3336571891, 3584528711, 113926993, 338241895, 666307205, 773529912, 1294757372, 1396182291, 1695183700, 1986661051, 2177026350, 2456956037, 2730485921, 2820302411] 188 = padlockref01_Constants.l0 (250 + (k + 93)) [1779033703, 3144134277, 1013904242, 2773480762, 1359893119, 2600822924, 528734635, 1541459225] [1116352408, 1899447441, 3049323471, 3921009573, 961987163, 1508970993, 2453635748, 2870763221, 3624381080, 310598401, 607225278, 1426881987, 1925078388, 2162078206, 2614888103, 3248222580, 3835390401, 4022224774, 264347078, 604807628, 770255983, 1249150122, 1555081692, 1996064986, 2554220882, 2821834349, 2952996808, 3210313671, 3336571891, 3584528711, 113926993, 338241895, 666307205, 773529912, 1294757372, 1396182291, 1695183700, 1986661051, 2177026350, 2456956037, 2730485921, 2820302411, 3259730800, 3345764771, 3516065817, 3600352804, 4094571909] 219 := by
  refine (step_no (k + 123) _ _ 188 (by decide) (by decide) (by decide +kernel)).trans ?_
  refine (step_no (k + 122) _ _ 189 (by decide) (by decide) (by decide +kernel)).trans ?_
  refine (step_no (k + 121) _ _ 190 (by decide) (by decide) (by decide +kernel)).trans ?_
  refine (step_yes (k + 120) _ _ 191 _ (by decide) (by decide) (by decide) (by decide +kernel) root_191).trans ?_
  refine (step_no (k + 119) _ _ 192 (by decide) (by decide) (by decide +kernel)).trans ?_
  refine (step_yes (k + 118) _ _ 193 _ (by decide) (by decide) (by decide) (by decide +kernel) root_193).trans ?_
  refine (step_no (k + 117) _ _ 194 (by decide) (by decide) (by decide +kernel)).trans ?_
  refine (step_no (k + 116) _ _ 195 (by decide) (by decide) (by decide +kernel)).trans ?_
  refine (step_no (k + 115) _ _ 196 (by decide) (by decide) (by decide +kernel)).trans ?_
  refine (step_yes (k + 114) _ _ 197 _ (by decide) (by decide) (by decide) (by decide +kernel) root_197).trans ?_
  refine (step_no (k + 113) _ _ 198 (by decide) (by decide) (by decide +kernel)).trans ?_
  refine (step_yes (k + 112) _ _ 199 _ (by decide) (by decide) (by decide) (by decide +kernel) root_199).trans ?_
  refine (step_no (k + 111) _ _ 200 (by decide) (by decide) (by decide +kernel)).trans ?_
  refine (step_no (k + 110) _ _ 201 (by decide) (by decide) (by decide +kernel)).trans ?_
  refine (step_no (k + 109) _ _ 202 (by decide) (by decide) (by decide +kernel)).trans ?_
  refine (step_no (k + 108) _ _ 203 (by decide) (by decide) (by decide +kernel)).trans ?_
  refine (step_no (k + 107) _ _ 204 (by decide) (by decide) (by decide +kernel)).trans ?_
  refine (step_no (k + 106) _ _ 205 (by decide) (by decide) (by decide +kernel)).trans ?_
  refine (step_no (k + 105) _ _ 206 (by decide) (by decide) (by decide +kernel)).trans ?_
  refine (step_no (k + 104) _ _ 207 (by decide) (by decide) (by decide +kernel)).trans ?_
  refine (step_no (k + 103) _ _ 208 (by decide) (by decide) (by decide +kernel)).trans ?_
  refine (step_no (k + 102) _ _ 209 (by decide) (by decide) (by decide +kernel)).trans ?_
  refine (step_no (k + 101) _ _ 210 (by decide) (by decide) (by decide +kernel)).trans ?_
  refine (step_yes (k + 100) _ _ 211 _ (by decide) (by decide) (by decide) (by decide +kernel) root_211).trans ?_
  refine (step_no (k + 99) _ _ 212 (by decide) (by decide) (by decide +kernel)).trans ?_
  refine (step_no (k + 98) _ _ 213 (by decide) (by decide) (by decide +kernel)).trans ?_
  refine (step_no (k + 97) _ _ 214 (by decide) (by decide) (by decide +kernel)).trans ?_
  refine (step_no (k + 96) _ _ 215 (by decide) (by decide) (by decide +kernel)).trans ?_
  refine (step_no (k + 95) _ _ 216 (by decide) (by decide) (by decide +kernel)).trans ?_
  refine (step_no (k + 94) _ _ 217 (by decide) (by decide) (by decide +kernel)).trans ?_
  refine (step_no (k + 93) _ _ 218 (by decide) (by decide) (by decide +kernel)).trans ?_
  rfl
set_option maxRecDepth 100000 in
theorem run_7 (k : Nat) : padlockref01_Constants.l0 (250 + (k + 93)) [1779033703, 3144134277, 1013904242, 2773480762, 1359893119, 2600822924, 528734635, 1541459225] [1116352408, 1899447441, 3049323471, 3921009573, 961987163, 1508970993, 2453635748, 2870763221, 3624381080, 310598401, 607225278, 1426881987, 1925078388, 2162078206, 2614888103, 3248222580, 3835390401, 4022224774, 264347078, 604807628, 770255983, 1249150122, 1555081692, 1996064986, 2554220882, 2821834349, 2952996808, 3210313671, 3336571891, 3584528711, 113926993, 338241895, 666307205, 773529912, 1294757372, 1396182291, 1695183700, 1986661051, 2177026350, 2456956037, 2730485921, 2820302411, 3259730800, 3345764771, 3516065817, 3600352804, 4094571909] 219 = padlockref01_Constants.l0 (250 + (k + 62)) [1779033703, 3144134277, 1013904242, 2773480762, 1359893119, 2600822924, 528734635, 1541459225] [1116352408, 1899447441, 3049323471, 3921009573, 961987163, 1508970993, 2453635748, 2870763221, 3624381080, 310598401, 607225278, 1426881987, 1925078388, 2162078206, 2614888103, 3248222580, 3835390401, 4022224774, 264347078, 604807628, 770255983, 1249150122, 1555081692, 1996064986, 2554220882, 2821834349, 2952996808, 3210313671, 3336571891, 3584528711, 113926993, 338241895, 666307205, 773529912, 1294757372, 1396182291, 1695183700, 1986661051, 2177026350, 2456956037, 2730485921, 2820302411, 3259730800, 3345764771, 3516065817, 3600352804, 4094571909, 275423344, 430227734, 506948616, 659060556, 883997877, 958139571] 250 := by
  refine (step_no (k + 92) _ _ 219 (by decide) (by decide) (by decide +kernel)).trans ?_
  refine (step_no (k + 91) _ _ 220 (by decide) (by decide) (by decide +kernel)).trans ?_
  refine (step_no (k + 90) _ _ 221 (by decide) (by decide) (by decide +kernel)).trans ?_
  refine (step_no (k + 89) _ _ 222 (by decide) (by decide) (by decide +kernel)).trans ?_
  refine (step_yes (k + 88) _ _ 223 _ (by decide) (by decide) (by decide) (by decide +kernel) root_223).trans ?_
  refine (step_no (k + 87) _ _ 224 (by decide) (by decide) (by decide +kernel)).trans ?_
  refine (step_no (k + 86) _ _ 225 (by decide) (by decide) (by decide +kernel)).trans ?_
  refine (step_no (k + 85) _ _ 226 (by decide) (by decide) (by decide +kernel)).trans ?_
  refine (step_yes (k + 84) _ _ 227 _ (by decide) (by decide) (by decide) (by decide +kernel) root_227).trans ?_
  refine (step_no (k + 83) _ _ 228 (by decide) (by decide) (by decide +kernel)).trans ?_
  refine (step_yes (k + 82) _ _ 229 _ (by decide) (by decide) (by decide) (by decide +kernel) root_229).trans ?_
  refine (step_no (k + 81) _ _ 230 (by decide) (by decide) (by decide +kernel)).trans ?_
  refine (step_no (k + 80) _ _ 231 (by decide) (by decide) (by decide +kernel)).trans ?_
  refine (step_no (k + 79) _ _ 232 (by decide) (by decide) (by decide +kernel)).trans ?_
  refine (step_yes (k + 78) _ _ 233 _ (by decide) (by decide) (by decide) (by decide +kernel) root_233).trans ?_
  refine (step_no (k + 77) _ _ 234 (by decide) (by decide) (by decide +kernel)).trans ?_
  refine (step_no (k + 76) _ _ 235 (by decide) (by decide) (by decide +kernel)).trans ?_
  refine (step_no (k + 75) _ _ 236 (by decide) (by decide) (by decide +kernel)).trans ?_
  refine (step_no (k + 74) _ _ 237 (by decide) (by decide) (by decide +kernel)).trans ?_
  refine (step_no (k + 73) _ _ 238 (by decide) (by decide) (by decide +kernel)).trans ?_
  refine (step_yes (k + 72) _ _ 239 _ (by decide) (by decide) (by decide) (by decide +kernel) root_239).trans ?_
  refine (step_no (k + 71) _ _ 240 (by decide) (by decide) (by decide +kernel)).trans ?_
  refine (step_yes (k + 70) _ _ 241 _ (by decide) (by decide) (by decide) (by decide +kernel) root_241).trans ?_
  refine (step_no (k + 69) _ _ 242 (by decide) (by decide) (by decide +kernel)).trans ?_
  refine (step_no (k + 68) _ _ 243 (by decide) (by decide) (by decide +kernel)).trans ?_
  refine (step_no (k + 67) _ _ 244 (by decide) (by decide) (by decide +kernel)).trans ?_
  refine (step_no (k + 66) _ _ 245 (by decide) (by decide) (by decide +kernel)).trans ?_
  refine (step_no (k + 65) _ _ 246 (by decide) (by decide) (by decide +kernel)).trans ?_
  refine (step_no (k + 64) _ _ 247 (by decide) (by decide) (by decide +kernel)).trans ?_
  refine (step_no (k + 63) _ _ 248 (by decide) (by decide) (by decide +kernel)).trans ?_
  refine (step_no (k + 62) _ _ 249 (by decide) (by decide) (by decide +kernel)).trans ?_
  rfl
set_option maxRecDepth 100000 in
theorem run_8 (k : Nat) : padlockref01_Constants.l0 (250 + (k + 62)) [1779033703, 3144134277, 1013904242, 2773480762, 1359893119, 2600822924, 528734635, 1541459225] [1116352408, 1899447441, 3049323471, 3921009573, 961987163, 1508970993, 2453635748, 2870763221, 3624381080, 310598401, 607225278, 1426881987, 1925078388, 2162078206, 2614888103, 3248222580, 3835390401, 4022224774, 264347078, 604807628, 770255983, 1249150122, 1555081692, 1996064986, 2554220882, 2821834349, 2952996808, 3210313671, 3336571891, 3584528711, 113926993, 338241895, 666307205, 773529912, 1294757372, 1396182291, 1695183700, 1986661051, 2177026350, 2456956037, 2730485921, 2820302411, 3259730800, 3345764771, 3516065817, 3600352804, 4094571909, 275423344, 430227734, 506948616, 659060556, 883997877, 958139571] 250 = padlockref01_Constants.l0 (250 + (k + 31)) [1779033703, 3144134277, 1013904242, 2773480762, 1359893119, 2600822924, 528734635, 1541459225] [1116352408, 1899447441, 3049323471, 3921009573, 961987163, 1508970993, 2453635748, 2870763221, 3624381080, 310598401, 607225278, 1426881987, 1925078388, 2162078206, 2614888103, 3248222580, 3835390401, 4022224774, 264347078, 604807628, 770255983, 1249150122, 1555081692, 1996064986, 2554220882, 2821834349, 2952996808, 3210313671, 3336571891, 3584528711, 113926993, 338241895, 666307205, 773529912, 1294757372, 1396182291, 1695183700, 1986661051, 2177026350, 2456956037, 2730485921, 2820302411, 3259730800, 3345764771, 3516065817, 3600352804, 4094571909, 275423344, 430227734, 506948616, 659060556, 883997877, 958139571, 1322822218, 1537002063, 1747873779, 1955562222, 2024104815, 2227730452] 281 := by
  refine (step_no (k + 61) _ _ 250 (by decide) (by decide) (by decide +kernel)).trans ?_
  refine (step_yes (k + 60) _ _ 251 _ (by decide) (by decide) (by decide) (by decide +kernel) root_251).trans ?_
  refine (step_no (k + 59) _ _ 252 (by decide) (by decide) (by decide +kernel)).trans ?_
  refine (step_no (k + 58) _ _ 253 (by decide) (by decide) (by decide +kernel)).trans ?_
  refine (step_no (k + 57) _ _ 254 (by decide) (by decide) (by decide +kernel)).trans ?_
  refine (step_no (k + 56) _ _ 255 (by decide) (by decide) (by decide +kernel)).trans ?_
  refine (step_no (k + 55) _ _ 256 (by decide) (by decide) (by decide +kernel)).trans ?_
  refine (step_yes (k + 54) _ _ 257 _ (by decide) (by decide) (by decide) (by decide +kernel) root_257).trans ?_
  refine (step_no (k + 53) _ _ 258 (by decide) (by decide) (by decide +kernel)).trans ?_
  refine (step_no (k + 52) _ _ 259 (by decide) (by decide) (by decide +kernel)).trans ?_
  refine (step_no (k + 51) _ _ 260 (by decide) (by decide) (by decide +kernel)).trans ?_
  refine (step_no (k + 50) _ _ 261 (by decide) (by decide) (by decide +kernel)).trans ?_
  refine (step_no (k + 49) _ _ 262 (by decide) (by decide) (by decide +kernel)).trans ?_
  refine (step_yes (k + 48) _ _ 263 _ (by decide) (by decide) (by decide) (by decide +kernel) root_263).trans ?_
  refine (step_no (k + 47) _ _ 264 (by decide) (by decide) (by decide +kernel)).trans ?_
  refine (step_no (k + 46) _ _ 265 (by decide) (by decide) (by decide +kernel)).trans ?_
  refine (step_no (k + 45) _ _ 266 (by decide) (by decide) (by decide +kernel)).trans ?_
  refine (step_no (k + 44) _ _ 267 (by decide) (by decide) (by decide +kernel)).trans ?_
  refine (step_no (k + 43) _ _ 268 (by decide) (by decide) (by decide +kernel)).trans ?_
  refine (step_yes (k + 42) _ _ 269 _ (by decide) (by decide) (by decide) (by decide +kernel) root_269).trans ?_
  refine (step_no (k + 41) _ _ 270 (by decide) (by decide) (by decide +kernel)).trans ?_
  refine (step_yes (k + 40) _ _ 271 _ (by decide) (by decide) (by decide) (by decide +kernel) root_271).trans ?_
  refine (step_no (k + 39) _ _ 272 (by decide) (by decide) (by decide +kernel)).trans ?_
  refine (step_no (k + 38) _ _ 273 (by decide) (by decide) (by decide +kernel)).trans ?_
  refine (step_no (k + 37) _ _ 274 (by decide) (by decide) (by decide +kernel)).trans ?_
  refine (step_no (k + 36) _ _ 275 (by decide) (by decide) (by decide +kernel)).trans ?_
  refine (step_no (k + 35) _ _ 276 (by decide) (by decide) (by decide +kernel)).trans ?_
  refine (step_yes (k + 34) _ _ 277 _ (by decide) (by decide) (by decide) (by decide +kernel) root_277).trans ?_
  refine (step_no (k + 33) _ _ 278 (by decide) (by decide) (by decide +kernel)).trans ?_
  refine (step_no (k + 32) _ _ 279 (by decide) (by decide) (by decide +kernel)).trans ?_
  refine (step_no (k + 31) _ _ 280 (by decide) (by decide) (by decide +kernel)).trans ?_
  rfl
set_option maxRecDepth 100000 in
theorem run_9 (k : Nat) : padlockref01_Constants.l0 (250 + (k + 31)) [1779033703, 3144134277, 1013904242, 2773480762, 1359893119, 2600822924, 528734635, 1541459225] [1116352408, 1899447441, 3049323471, 3921009573, 961987163, 1508970993, 2453635748, 2870763221, 3624381080, 310598401, 607225278, 1426881987, 1925078388, 2162078206, 2614888103, 3248222580, 3835390401, 4022224774, 264347078, 604807628, 770255983, 1249150122, 1555081692, 1996064986, 2554220882, 2821834349, 2952996808, 3210313671, 3336571891, 3584528711, 113926993, 338241895, 666307205, 773529912, 1294757372, 1396182291, 1695183700, 1986661051, 2177026350, 2456956037, 2730485921, 2820302411, 3259730800, 3345764771, 3516065817, 3600352804, 4094571909, 275423344, 430227734, 506948616, 659060556, 883997877, 958139571, 1322822218, 1537002063, 1747873779, 1955562222, 2024104815, 2227730452] 281 = padlockref01_Constants.l0 (250 + (k + 0)) [1779033703, 3144134277, 1013904242, 2773480762, 1359893119, 2600822924, 528734635, 1541459225] [1116352408, 1899447441, 3049323471, 3921009573, 961987163, 1508970993, 2453635748, 2870763221, 3624381080, 310598401, 607225278, 1426881987, 1925078388, 2162078206, 2614888103, 3248222580, 3835390401, 4022224774, 264347078, 604807628, 770255983, 1249150122, 1555081692, 1996064986, 2554220882, 2821834349, 2952996808, 3210313671, 3336571891, 3584528711, 113926993, 338241895, 666307205, 773529912, 1294757372, 1396182291, 1695183700, 1986661051, 2177026350, 2456956037, 2730485921, 2820302411, 3259730800, 3345764771, 3516065817, 3600352804, 4094571909, 275423344, 430227734, 506948616, 659060556, 883997877, 958139571, 1322822218, 1537002063, 1747873779, 1955562222, 2024104815, 2227730452, 2361852424, 2428436474, 2756734187, 3204031479, 3329325298] 312 := by
  refine (step_yes (k + 30) _ _ 281 _ (by decide) (by decide) (by decide) (by decide +kernel) root_281).trans ?_
  refine (step_no (k + 29) _ _ 282 (by decide) (by decide) (by decide +kernel)).trans ?_
  refine (step_yes (k + 28) _ _ 283 _ (by decide) (by decide) (by decide) (by decide +kernel) root_283).trans ?_
  refine (step_no (k + 27) _ _ 284 (by decide) (by decide) (by decide +kernel)).trans ?_
  refine (step_no (k + 26) _ _ 285 (by decide) (by decide) (by decide +kernel)).trans ?_
  refine (step_no (k + 25) _ _ 286 (by decide) (by decide) (by decide +kernel)).trans ?_
  refine (step_no (k + 24) _ _ 287 (by decide) (by decide) (by decide +kernel)).trans ?_
  refine (step_no (k + 23) _ _ 288 (by decide) (by decide) (by decide +kernel)).trans ?_
  refine (step_no (k + 22) _ _ 289 (by decide) (by decide) (by decide +kernel)).trans ?_
  refine (step_no (k + 21) _ _ 290 (by decide) (by decide) (by decide +kernel)).trans ?_
  refine (step_no (k + 20) _ _ 291 (by decide) (by decide) (by decide +kernel)).trans ?_
  refine (step_no (k + 19) _ _ 292 (by decide) (by decide) (by decide +kernel)).trans ?_
  refine (step_yes (k + 18) _ _ 293 _ (by decide) (by decide) (by decide) (by decide +kernel) root_293).trans ?_
  refine (step_no (k + 17) _ _ 294 (by decide) (by decide) (by decide +kernel)).trans ?_
  refine (step_no (k + 16) _ _ 295 (by decide) (by decide) (by decide +kernel)).trans ?_
  refine (step_no (k + 15) _ _ 296 (by decide) (by decide) (by decide +kernel)).trans ?_
  refine (step_no (k + 14) _ _ 297 (by decide) (by decide) (by decide +kernel)).trans ?_
  refine (step_no (k + 13) _ _ 298 (by decide) (by decide) (by decide +kernel)).trans ?_
  refine (step_no (k + 12) _ _ 299 (by decide) (by decide) (by decide +kernel)).trans ?_
  refine (step_no (k + 11) _ _ 300 (by decide) (by decide) (by decide +kernel)).trans ?_
  refine (step_no (k + 10) _ _ 301 (by decide) (by decide) (by decide +kernel)).trans ?_
  refine (step_no (k + 9) _ _ 302 (by decide) (by decide) (by decide +kernel)).trans ?_
  refine (step_no (k + 8) _ _ 303 (by decide) (by decide) (by decide +kernel)).trans ?_
  refine (step_no (k + 7) _ _ 304 (by decide) (by decide) (by decide +kernel)).trans ?_
  refine (step_no (k + 6) _ _ 305 (by decide) (by decide) (by decide +kernel)).trans ?_
  refine (step_no (k + 5) _ _ 306 (by decide) (by decide) (by decide +kernel)).trans ?_
  refine (step_yes (k + 4) _ _ 307 _ (by decide) (by decide) (by decide) (by decide +kernel) root_307).trans ?_
  refine (step_no (k + 3) _ _ 308 (by decide) (by decide) (by decide +kernel)).trans ?_
  refine (step_no (k + 2) _ _ 309 (by decide) (by decide) (by decide +kernel)).trans ?_
  refine (step_no (k + 1) _ _ 310 (by decide) (by decide) (by decide +kernel)).trans ?_
  refine (step_yes (k + 0) _ _ 311 _ (by decide) (by decide) (by decide) (by decide +kernel) root_311).trans ?_
  rfl
theorem constants_tells (k : Nat) (hk : 560 ≤ k) : padlockref01_Constants.f k = some (iv, consts) := by
  obtain ⟨q, rfl⟩ : ∃ q, k = 250 + (q + 310) := ⟨k - 560, by omega⟩
  unfold padlockref01_Constants.f
  rw [run_0, run_1, run_2, run_3, run_4, run_5, run_6, run_7, run_8, run_9]
  rw [show 250 + (q + 0) = (249 + q) + 1 from by omega]
  refine (step_end (249 + q) _ _ _ (by decide)).trans ?_
  rfl
end Go.Proofs.Ytoiiacbbfhlocaa.HSa
end
end
section
section
set_option linter.unusedVariables false
set_option linter.unusedSimpArgs false
namespace Go.Proofs.Ytoiiacbbfhlocaa.HHa
open Go.RowKit Go.Proofs.YtoiiacbbfhlocaaW.PrintWords Go.Proofs.YtoiiacbbfhlocaaW.PrintLast Go.Proofs.YtoiiacbbfhlocaaW.PrintMore Go.Proofs.Ytoiiacbbfhlocaa.Kit Go.Proofs.Ytoiiacbbfhlocaa.HSa Go.Proofs.Ytoiiacbbfhlocaa.Sa
attribute [local go_sem ↓] Go.wp_at_zero Go.wp_at_succ
theorem iv_length : iv.length = 8 := by decide
attribute [local irreducible] sumF padX inF hmF jN iv consts allF comeN padK fillK
theorem rsummed_any (A0 : Option Addr) (c0 : Nat) (l : List Int) (A1 : Option Addr) (c1 : Nat) (A2 : Option Addr) (c2 : Nat) (w : World) (hb : Bytes l) (hl : l.length ≤ 100000)
    (hr0 : Kd.C (Kd.int .u8) w A0 l.length l) (hc0 : l.length ≤ c0) (hr1 : Kd.C (Kd.int .u32) w A1 8 iv) (hc1 : 8 ≤ c1) (hr2 : Kd.C (Kd.int .u32) w A2 64 consts) (hc2 : 64 ≤ c2) :
    Calls Try.prog 111 #[.slice A0 l.length c0, .slice A1 8 c1, .slice A2 64 c2] w (OutB w (sumF l)) := by
  have h := summed_any (560 + 418) A0 c0 l A1 c1 iv A2 c2 consts (allF l) (fun j => comeN iv (allF l) j) w hr0 hc0 (by rw [iv_length]; exact hr1) (by rw [iv_length]; exact hc1) (by rw [consts_length]; exact hr2) (by rw [consts_length]; exact hc2) (filled_tells l (by omega) 560) (steps_tell l hb hl 560)
  rw [sumF_eq, iv_length, consts_length] at h
  exact h
structure KeyAt (w : World) (g : Nat) (K : List Int) (AK : Option Addr) (cK : Nat) (AR : Option Addr) (cR : Nat) (AC : Option Addr) (cC : Nat) : Prop where
  blk : w.heap[g]? = some (.cells #[.slice AK 64 cK, .slice AR 8 cR, .slice AC 64 cC] 173 (0, 0))
  k : Kd.C (Kd.int .u8) w AK 64 K
  ck : 64 ≤ cK
  r : Kd.C (Kd.int .u32) w AR 8 iv
  cr : 8 ≤ cR
  c : Kd.C (Kd.int .u32) w AC 64 consts
  cc : 64 ≤ cC
namespace KeyAt
variable {w w1 : World} {g : Nat} {K : List Int} {AK AR AC : Option Addr} {cK cR cC : Nat}
theorem lt (h : KeyAt w g K AK cK AR cR AC cC) : g < w.heap.size := (Array.getElem?_eq_some_iff.1 h.blk).1
theorem next (h : KeyAt w g K AK cK AR cR AC cC) (hb : Below w.heap.size w w1) : KeyAt w1 g K AK cK AR cR AC cC :=
  ⟨(hb.block g h.lt).trans h.blk, Kd.C_below h.k hb, h.ck, Kd.C_below h.r hb, h.cr, Kd.C_below h.c hb, h.cc⟩
theorem drew (h : KeyAt w g K AK cK AR cR AC cC) : KeyAt w.drew g K AK cK AR cR AC cC := h.next (below_drew (Below.refl _ _))
theorem cell (h : KeyAt w g K AK cK AR cR AC cC) : w.cell? ⟨g, 0, none⟩ = some (.slice AK 64 cK) ∧ w.cell? ⟨g, 1, none⟩ = some (.slice AR 8 cR) ∧ w.cell? ⟨g, 2, none⟩ = some (.slice AC 64 cC) := by
  unfold World.cell?
  simp [h.blk]
end KeyAt
def zs (n : Nat) : List Int := List.replicate n 0
def slen : Value → Nat
  | .slice _ n _ => n
  | _ => 0
theorem zs_next (X : List Int) (a b : Nat) (h : a ≤ b) : X ++ zs (b + 1 - a) = X ++ zs (b - a) ++ [0] := by
  rw [List.append_assoc]
  congr 1
  unfold zs
  rw [show b + 1 - a = (b - a) + 1 from by omega, List.replicate_succ']
theorem zs_zero (X : List Int) (a : Nat) : X ++ zs (a - a) = X := by simp [zs]
theorem zs_fill (X : List Int) : X ++ zs (64 - X.length) = fillK X := by unfold zs fillK; rfl
theorem zs_length (X : List Int) (n : Nat) : (X ++ zs n).length = X.length + n := by simp [zs]
attribute [local irreducible] zs
def NewOut (w : World) (K : List Int) (e : Ending) (w' : World) : Prop :=
  ∃ g AK cK AR cR AC cC, e = .returned (.pointer (some ⟨g, 0, none⟩)) ∧ KeyAt w' g K AK cK AR cR AC cC ∧ Below w.heap.size w w'
set_option maxHeartbeats 2000000 in
set_option maxRecDepth 100000 in
theorem new_any (A0 : Option Addr) (c0 : Nat) (key : List Int) (w : World) (hr : Kd.C (Kd.int .u8) w A0 key.length key) (hc : key.length ≤ c0) (hl : key.length ≤ 100000) (hb : Bytes key) :
    Calls Try.prog 69 #[.slice A0 key.length c0] w (NewOut w (padK key)) := by
  have HR := Lib.hid hr
  have HBY := Lib.hid hb
  obtain ⟨n, hn⟩ : ∃ n, n = key.length := ⟨_, rfl⟩
  have HN := Lib.hid hn
  rw [← hn] at hc hl ⊢
  have HPK : Hid (padK key = fillK (if 64 < key.length then sumF key else key)) := Lib.hid (by unfold padK; rfl)
  clear hr hn hb
  go_enter Try.func69, Try.ntmps69
  go_wp2_with fail
  refine (padlockref01_Constants.calls 978 iv consts w (constants_tells 978 (by decide))).mono ?_
  rintro e w1 ⟨v1, v2, rfl, hO1, hO2, hB1⟩
  obtain ⟨AR, cR, e1⟩ := Kd.R_slice hO1
  obtain ⟨AC, cC, e2⟩ := Kd.R_slice hO2
  rw [iv_length] at e1
  rw [consts_length] at e2
  subst e1 e2
  have hcR : 8 ≤ cR := (Kd.R_reads' hO1).2.1
  have hcC : 64 ≤ cC := (Kd.R_reads' hO2).2.1
  have hR1 := (Kd.R_reads' hO1).2.2
  have hC1 := (Kd.R_reads' hO2).2.2
  rw [iv_length] at hR1
  rw [consts_length] at hC1
  have HR1 := Lib.hid hR1
  have HC1 := Lib.hid hC1
  have HB1 := Lib.hid hB1
  have HK1 : Hid (Kd.C (Kd.int .u8) w1 A0 n key) := Lib.hid (by have h := Kd.C_below HR.out hB1; rw [← HN.out] at h; exact h)
  clear hO1 hO2 hR1 hC1 hB1
  by_cases hbig : 64 < n
  all_goals
    go_wp2_with (first
      | ((with_reducible refine gate_dst (N := 10) rfl ?_); refine Kd.R_lit (Kd.int .u8) (w0 := w1) w1.heap.size 5 ?hg (N := 10) ?hd (xs := ([] : List Int)) (inner := []) (ok := fun _ => True) (okp := fun _ => True) ?hr ?hp (fun _ hk => hk) trivial (Below.refl _ _) (Nat.le_refl _) (by simp) ?_; (case hd => rfl); (case hg => rfl); (case hr => first | (go_simp; done) | (go_simp; rfl)); (case hp => exact (Reps.none _ _)); intro v3 w3 ho3 hb3 hg_ hnew_; clear hg_ hnew_; have HO3 := Aside0.mk ho3; have HB3 := Aside0.mk hb3; clear ho3 hb3)
      | ((with_reducible refine gate_builtin (b := .append) (xs := #[.tmp 10, .tmp 11]) rfl ?_); at_builtin; refine Kd.R_append_rows (Kd.int .u8) (w0 := w1) w1.heap.size rfl (.tmp 10) (.tmp 11) 29 5 (.int .u8 0) 1 rfl Try.underlying29 Go.Proofs.Ytoiiacbbfhlocaa.HSa.info5 rfl (by decide) (by omega) v3 [] key _ _ _ (fun _ => True) (fun _ => False) rfl rfl HO3.out (by exact Kd.C_below HK1.out HB3.out) (fun _ _ h => h) (fun _ h => h.elim) (fun _ _ => trivial) HB3.out HB3.out.size (by simp; omega) ?_; intro v4 w4 ho4 hb4 hg4 hat4; rw [List.nil_append] at ho4; have HO4 := Lib.hid ho4; have HB4 := Lib.hid hb4; obtain ⟨A4, c4, hv4, hlc4, hrd4⟩ := Kd.R_reads ho4; rw [← HN.out] at hv4 hlc4 hrd4; subst hv4; have HRD4 := Lib.hid hrd4; clear ho4 hb4 hg4 hat4 hrd4)
      | fail)
  focus
    have hs := rsummed_any A4 c4 key AR cR AC cC w4 HBY.out (by rw [← HN.out]; exact hl) (by rw [← HN.out]; exact HRD4.out) (by rw [← HN.out]; exact hlc4) (Kd.C_below HR1.out HB4.out) hcR (Kd.C_below HC1.out HB4.out) hcC
    rw [← HN.out] at hs
    have HS := Lib.hid hs
    clear hs
    refine HS.out.mono ?_
    rintro e w5 ⟨v5, rfl, hO5, hB5⟩
    obtain ⟨X, hX⟩ : ∃ X, X = sumF key := ⟨_, rfl⟩
    rw [← hX] at hO5
    have HXP : Hid (padK key = fillK X) := Lib.hid (by rw [HPK.out, if_pos (by rw [← HN.out]; exact hbig), hX])
    have hxl : X.length = 32 := by rw [hX]; exact sumF_len key
    have HO5 := Lib.hid (Kd.R_lower hO5 HB4.out.size)
    have HB5 := Lib.hid (below_next HB4.out hB5)
    obtain ⟨A5, c5, e5⟩ := Kd.R_slice hO5
    obtain ⟨m0, hm0⟩ : ∃ m, m = X.length := ⟨_, rfl⟩
    have hm64 : m0 ≤ 64 := by omega
    rw [← hm0] at e5
    subst e5
    have HM := Lib.hid hm0
    clear hX hO5 hB5 hm0 hxl
    go_wp2_with fail
  rotate_left
  focus
    obtain ⟨X, hX⟩ : ∃ X, X = key := ⟨_, rfl⟩
    have HXP : Hid (padK key = fillK X) := Lib.hid (by rw [HPK.out, if_neg (by rw [← HN.out]; exact hbig), hX])
    have HO5 : Hid (Kd.R (Kd.int .u8) 5 w4 w1.heap.size (fun _ => True) (.slice A4 n c4) X) := Lib.hid (by rw [hX]; exact HO4.out)
    have HB5 := Lib.hid HB4.out
    obtain ⟨m0, hm0⟩ : ∃ m, m = X.length := ⟨_, rfl⟩
    have hm64 : m0 ≤ 64 := by rw [hm0, hX, ← HN.out]; omega
    have hnm : m0 = n := by rw [hm0, hX, HN.out]
    have HM := Lib.hid hm0
    clear hm0
    subst hnm
    clear hX
    generalize w4 = w5 at *
    generalize A4 = A5 at *
    generalize c4 = c5 at *
  all_goals
    have hmc0 : m0 ≤ 64 := hm64
    go_loopw [5] (fun v wr => ∃ (m : Nat) (A' : Option Addr) (c' : Nat), v = .slice A' m c' ∧ m0 ≤ m ∧ m ≤ 64 ∧ Hid (Kd.R (Kd.int .u8) 5 wr w1.heap.size (fun _ => True) (.slice A' m c') (X ++ zs (m - m0))) ∧ Hid (Below w1.heap.size w1 wr)) (fun v _ => 64 - slen v)
    case atStart => exact ⟨m0, A5, c5, rfl, Nat.le_refl _, hm64, Lib.hid (by rw [zs_zero]; exact HO5.out), HB5⟩
    case round =>
      obtain ⟨m, A', c', rfl, hm1, hm2, hO, hB⟩ := hrel
      by_cases hk : m < 64
      · go_wp2_with (first
          | ((with_reducible refine gate_builtin (b := .append) (xs := #[.tmp 23, .tmp 24]) rfl ?_); at_builtin; go_loud (refine Kd.R_append_rows (Kd.int .u8) (w0 := w1) w1.heap.size rfl (.tmp 23) (.tmp 24) 29 5 (.int .u8 0) 1 rfl Try.underlying29 Go.Proofs.Ytoiiacbbfhlocaa.HSa.info5 rfl (by decide) (by omega) (.slice A' m c') (X ++ zs (m - m0)) [0] (some ⟨wr.heap.size, 0, none⟩) 1 1 (fun _ => True) (fun _ => False) rfl rfl (Kd.R_alloc hO.out _) (by exact lit_reads .u8 [0] rfl rfl (by simp) wr _) (fun _ _ h => h) (fun _ h => h.elim) (fun _ _ => trivial) (below_alloc hB.out _) (by have := hB.out.size; simp; omega) (by rw [zs_length, ← HM.out]; omega) ?_); intro v7 w7 ho7 hb7 hg7 hat7; rw [← zs_next X m0 m hm1] at ho7; have HO7 := Lib.hid ho7; have HB7 := Lib.hid hb7; obtain ⟨A7, c7, hv7⟩ := Kd.R_slice ho7; rw [zs_length, ← HM.out, show m0 + (m + 1 - m0) = m + 1 from by omega] at hv7; subst hv7; clear ho7 hb7 hg7 hat7)
          | fail)
        go_roundw
        case rel => exact ⟨m + 1, A7, c7, rfl, by omega, by omega, HO7, HB7⟩
        case measure => simp [slen]; omega
      · have hm : m = 64 := by omega
        subst hm
        have hF : X ++ zs (64 - m0) = padK key := by rw [HM.out, zs_fill, HXP.out]
        rw [hF] at hO
        have hOr := Kd.R_reads' hO.out
        have hpl := padK_length key
        have hc64 : 64 ≤ c' := hOr.2.1
        have hCr := hOr.2.2
        have HCr := Lib.hid hCr
        clear hOr hpl hCr hF
        obtain ⟨wo, hwo⟩ : ∃ wo : World, wo = wr := ⟨_, rfl⟩
        subst hwo
        go_wp2_with fail
        go_ret
        have HB9 := below_alloc (Below.refl wo.heap.size wo) (.cells #[.slice A' 64 c', .slice AR 8 cR, .slice AC 64 cC] 173)
        exact ⟨wo.heap.size, A', c', AR, cR, AC, cC, rfl, ⟨Array.getElem?_push_size, Kd.C_below (by have h := HCr.out; rw [padK_length] at h; exact h) HB9, hc64, Kd.C_below HR1.out (below_next hB.out HB9), hcR, Kd.C_below HC1.out (below_next hB.out HB9), hcC⟩, below_next HB1.out (below_next hB.out HB9)⟩
end Go.Proofs.Ytoiiacbbfhlocaa.HHa
end
section
set_option linter.unusedVariables false
set_option linter.unusedSimpArgs false
namespace Go.Proofs.Ytoiiacbbfhlocaa.HHa
open Go.RowKit Go.Proofs.YtoiiacbbfhlocaaW.PrintWords Go.Proofs.YtoiiacbbfhlocaaW.PrintLast Go.Proofs.YtoiiacbbfhlocaaW.PrintMore Go.Proofs.Ytoiiacbbfhlocaa.Kit Go.Proofs.Ytoiiacbbfhlocaa.HSa Go.Proofs.Ytoiiacbbfhlocaa.Sa
attribute [local go_sem ↓] Go.wp_at_zero Go.wp_at_succ
theorem xorB_byte (x b : Int) (hx : 0 ≤ x ∧ x < 256) (hb : 0 ≤ b ∧ b < 256) : 0 ≤ xorB x b ∧ xorB x b < 256 := by
  obtain ⟨m, rfl⟩ := Int.eq_ofNat_of_zero_le hx.1
  obtain ⟨n, rfl⟩ := Int.eq_ofNat_of_zero_le hb.1
  unfold xorB
  rw [bxor8 n m (by omega) (by omega)]
  have h := Nat.xor_lt_two_pow (n := 8) (x := n) (y := m) (by omega) (by omega)
  omega
def mapX (K : List Int) (x : Int) : List Int := K.map (xorB x)
def wX (K : List Int) (x : Int) (k : Nat) : List Int := (K.map (xorB x)).take k
theorem wX_zero (K : List Int) (x : Int) : wX K x 0 = [] := by simp [wX]
theorem wX_length (K : List Int) (x : Int) (k : Nat) (h : k ≤ K.length) : (wX K x k).length = k := by simp [wX]; omega
theorem wX_all (K : List Int) (x : Int) (h : K.length = 64) : wX K x 64 = mapX K x := by unfold wX mapX; rw [List.take_of_length_le]; simp [h]
theorem wX_next (K : List Int) (x : Int) (k : Nat) (h : k < K.length) : wX K x (k + 1) = wX K x k ++ [Go.bits .xor .u8 (K.getD k 0) x] := by
  unfold wX
  rw [List.take_succ_eq_append_getElem (by simpa using h)]
  simp [xorB, List.getD, List.getElem?_eq_getElem h]
theorem mapX_bytes (K : List Int) (x : Int) (hx : 0 ≤ x ∧ x < 256) (hK : Bytes K) : Bytes (mapX K x) := fun y hy => by
  simp only [mapX, List.mem_map] at hy
  obtain ⟨b, hb, rfl⟩ := hy
  exact xorB_byte x b hx (hK b hb)
theorem mapX_length (K : List Int) (x : Int) : (mapX K x).length = K.length := by simp [mapX]
attribute [local irreducible] sumF padX inF hmF jN iv consts allF comeN padK fillK wX mapX
set_option maxHeartbeats 2000000 in
set_option maxRecDepth 100000 in
theorem with_any (g : Nat) (x : Int) (K : List Int) (AK : Option Addr) (cK : Nat) (AR : Option Addr) (cR : Nat) (AC : Option Addr) (cC : Nat) (w : World) (hK : KeyAt w g K AK cK AR cR AC cC) (hKL : K.length = 64) :
    Calls Try.prog 143 #[.pointer (some ⟨g, 0, none⟩), .int .u8 x] w (OutB w (mapX K x)) := by
  have HK := Lib.hid hK
  obtain ⟨b, off, eA, hcells⟩ := C_cells hK.k (by decide)
  have HKL := Lib.hid hKL
  have HCS := Lib.hid hcells
  have HCK := Lib.hid hK.ck
  subst eA
  clear hcells hK hKL
  go_enter Try.func143, Try.ntmps143
  go_wp2_with fail
  go_loopw [5, 6] (fun v iv wr => ∃ (k : Nat) (A' : Option Addr) (c' : Nat), v = .slice A' k c' ∧ iv = .int .i64 k ∧ k ≤ 64 ∧ Hid (Kd.R (Kd.int .u8) 5 wr w.heap.size (fun _ => True) (.slice A' k c') (wX K x k)) ∧ Hid (Below w.heap.size w wr)) (fun _ iv _ => 64 - (intOf iv).toNat)
  case atStart => exact ⟨0, none, 0, rfl, rfl, by omega, Lib.hid (by rw [wX_zero]; exact Kd.R_nil _ _ _ _ _), Lib.hid (Below.refl _ _)⟩
  case round =>
    obtain ⟨k, A', c', rfl, rfl, hk, hO, hB⟩ := hrel
    by_cases hkn : k < 64
    · have HX := Lib.hid (wX_next K x k (by rw [HKL.out]; exact hkn))
      obtain ⟨p, hp⟩ : ∃ p, p = K.getD k 0 := ⟨_, rfl⟩
      rw [← hp] at HX
      have hc1 := (HK.out.next hB.out).cell.1
      have hc2 := (hB.out.cell (p := ⟨b, off + k, none⟩) (World.block_lt_of_cell? w _ (HCS.out k hkn))).trans (HCS.out k hkn)
      rw [← hp] at hc2
      have hck := HCK.out
      have HP := Lib.hid hp
      clear hp
      go_wp2_with (first
        | ((with_reducible refine gate_builtin (b := .append) (xs := #[.tmp 11, .tmp 21]) rfl ?_); at_builtin; go_loud (refine Kd.R_append_rows (Kd.int .u8) (w0 := w) w.heap.size rfl (.tmp 11) (.tmp 21) 29 5 (.int .u8 0) 1 rfl Try.underlying29 Go.Proofs.Ytoiiacbbfhlocaa.HSa.info5 rfl (by decide) (by omega) (.slice A' k c') (wX K x k) [Go.bits .xor .u8 p x] (some ⟨wr.heap.size, 0, none⟩) 1 1 (fun _ => True) (fun _ => False) rfl rfl (Kd.R_alloc hO.out _) (by exact lit_reads .u8 [Go.bits .xor .u8 p x] rfl rfl (by simp) wr _) (fun _ _ h => h) (fun _ h => h.elim) (fun _ _ => trivial) (below_alloc hB.out _) (by have := hB.out.size; simp; omega) (by rw [wX_length _ _ _ (by rw [HKL.out]; omega)]; omega) ?_); intro v7 w7 ho7 hb7 hg7 hat7; rw [← HX.out] at ho7; have HO7 := Lib.hid ho7; have HB7 := Lib.hid hb7; obtain ⟨A7, c7, hv7⟩ := Kd.R_slice ho7; rw [wX_length _ _ _ (by rw [HKL.out]; omega)] at hv7; subst hv7; clear ho7 hb7 hg7 hat7)
        | fail)
      go_roundw
      case rel => exact ⟨k + 1, A7, c7, rfl, by go_num, by omega, HO7, HB7⟩
      case measure => simp [intOf]; omega
    · have hk' : k = 64 := by omega
      subst hk'
      obtain ⟨wo, hwo⟩ : ∃ wo : World, wo = wr := ⟨_, rfl⟩
      subst hwo
      have hall := wX_all K x HKL.out
      rw [hall] at hO
      have HALL := Lib.hid hall
      clear hall
      go_wp2_with fail
      go_ret
      exact ⟨_, rfl, hO.out, hB.out⟩
def kF (K b : List Int) : List Int := sumF (mapX K 92 ++ sumF (mapX K 54 ++ b))
set_option maxHeartbeats 2000000 in
set_option maxRecDepth 100000 in
theorem ksum_any (g : Nat) (K : List Int) (AK : Option Addr) (cK : Nat) (AR : Option Addr) (cR : Nat) (AC : Option Addr) (cC : Nat) (A1 : Option Addr) (c1 : Nat) (b : List Int) (w : World)
    (hK : KeyAt w g K AK cK AR cR AC cC) (hKL : K.length = 64) (hKB : Bytes K) (hr1 : Kd.C (Kd.int .u8) w A1 b.length b) (hc1 : b.length ≤ c1) (hl1 : b.length ≤ 90000) (hb1 : Bytes b) :
    Calls Try.prog 130 #[.pointer (some ⟨g, 0, none⟩), .slice A1 b.length c1] w (OutB w (kF K b)) := by
  have HK := Lib.hid hK
  have HKL := Lib.hid hKL
  have hgl := hK.lt
  obtain ⟨I, hI⟩ : ∃ I, I = sumF (mapX K 54 ++ b) := ⟨_, rfl⟩
  obtain ⟨E, hE⟩ : ∃ E, E = kF K b := ⟨_, rfl⟩
  obtain ⟨L1, hL1⟩ : ∃ L, L = mapX K 54 ++ b := ⟨_, rfl⟩
  obtain ⟨L2, hL2⟩ : ∃ L, L = mapX K 92 ++ I := ⟨_, rfl⟩
  have HE : Hid (sumF L2 = E) := Lib.hid (by rw [hL2, hI, hE]; unfold kF; rfl)
  have HI : Hid (sumF L1 = I) := Lib.hid (by rw [hL1, hI])
  have hIL : I.length = 32 := by rw [hI]; exact sumF_len _
  have HIB : Hid (Bytes I) := Lib.hid (by rw [hI]; exact sumF_bytes _)
  have HB1 : Hid (Bytes L1) := Lib.hid (by rw [hL1]; intro y hy; rcases List.mem_append.1 hy with h | h; exact mapX_bytes K 54 (by decide) hKB y h; exact hb1 y h)
  have HB2 : Hid (Bytes L2) := Lib.hid (by rw [hL2]; intro y hy; rcases List.mem_append.1 hy with h | h; exact mapX_bytes K 92 (by decide) hKB y h; exact HIB.out y h)
  obtain ⟨n1, hn1⟩ : ∃ n, n = L1.length := ⟨_, rfl⟩
  have hn1' : n1 ≤ 90064 := by rw [hn1, hL1, List.length_append, mapX_length, hKL]; omega
  have hn2 : L2.length = 96 := by rw [hL2, List.length_append, mapX_length, hKL, hIL]
  have HN1 := Lib.hid hn1
  have HN2 := Lib.hid hn2
  have HR1 := Lib.hid hr1
  have HX54 : Hid ((mapX K 54).length = 64) := Lib.hid (by rw [mapX_length, hKL])
  have HX92 : Hid ((mapX K 92).length = 64) := Lib.hid (by rw [mapX_length, hKL])
  have HL1 := Lib.hid hL1
  have HL2 := Lib.hid hL2
  have HIL := Lib.hid hIL
  rw [← hE]
  obtain ⟨n, hn⟩ : ∃ n, n = b.length := ⟨_, rfl⟩
  have HN := Lib.hid hn
  have HC1 : Hid (n ≤ c1) := Lib.hid (by omega)
  have hn9 : n ≤ 90000 := by omega
  rw [← hn] at HR1 ⊢
  clear hK hKL hI hE hL1 hL2 hn1 hn2 hIL hKB hr1 hc1 hl1 hb1 hn
  have hq1 := HK.out.cell.2.1
  have hq2 := HK.out.cell.2.2
  go_enter Try.func130, Try.ntmps130
  go_wp2_with fail
  go_region_held3 (fun w' => w'.cell? ⟨g, 1, none⟩ = some (.slice AR 8 cR) ∧ w'.cell? ⟨g, 2, none⟩ = some (.slice AC 64 cC))
    (first | go_keep | exact hkeep)
    ((first
      | (go_at_call 143; refine (with_any g 54 K AK cK AR cR AC cC _ (by exact HK.out.drew) HKL.out).mono ?_; rintro e W1 ⟨v9, rfl, hO9, hB9⟩; have hkeep := (HK.out.drew.next hB9).cell.2; have HO9 := Lib.hid hO9; have HB9 := Lib.hid hB9; clear hO9 hB9)
      | ((refine Kd.R_append_rows_step (Kd.int .u8) (w0 := w.drew) w.heap.size (by rfl) (.tmp 7) (.tmp 8) 29 5 (.int .u8 0) 1 (by rfl) Try.underlying29 Go.Proofs.Ytoiiacbbfhlocaa.HSa.info5 rfl (by decide) (by omega) v9 (mapX K 54) b A1 n c1 (fun _ => True) (fun _ => False) (by rfl) (by rfl) (by exact HO9.out) (by exact Kd.C_below (Kd.C_drew HR1.out) HB9.out) (fun _ _ h => h) (fun _ h => h.elim) (fun _ _ => trivial) (by exact HB9.out) (by exact HB9.out.size) (by rw [HX54.out]; omega) ?_); intro v10 W2 ho10 hb10 hg10 hat10; have hkeep := (HK.out.drew.next hb10).cell.2; have HB10 := Lib.hid hb10; rw [← HL1.out] at ho10; obtain ⟨A10, c10, hv10, hlc10, hrd10⟩ := Kd.R_reads ho10; rw [← HN1.out] at hv10 hlc10 hrd10; have HRD10 := Lib.hid hrd10; subst hv10; clear ho10 hb10 hg10 hat10 hrd10)
      | (go_at_call 111; (refine ((by have h := rsummed_any A10 c10 L1 AR cR AC cC _ HB1.out (by rw [← HN1.out]; omega) (by rw [← HN1.out]; exact HRD10.out) (by rw [← HN1.out]; exact hlc10) (by exact (HK.out.drew.next HB10.out).r) HK.out.cr (by exact (HK.out.drew.next HB10.out).c) HK.out.cc; rw [← HN1.out, HI.out] at h; exact h : Calls _ _ _ _ (OutB _ I)).mono ?_)); rintro e W3 ⟨v11, rfl, hO11, hB11⟩; have hkeep := (HK.out.drew.next (below_next HB10.out hB11)).cell.2; have HO11 := Lib.hid hO11; have HB11 := Lib.hid (below_next (w := w.drew) HB10.out hB11); clear hO11 hB11)))
  obtain ⟨A11, c11, e11, hlc11, hrd11⟩ := Kd.R_reads HO11.out
  rw [HIL.out] at e11 hlc11 hrd11
  subst e11
  have HRD11 := Lib.hid hrd11
  have HK3 := Lib.hid (HK.out.drew.next HB11.out)
  have HBB3 : Hid (Below w.heap.size w W3) := Lib.hid ((below_drew (Below.refl _ _)).trans HB11.out)
  obtain ⟨W, hW⟩ : ∃ W : World, W = W3 := ⟨_, rfl⟩
  subst hW
  have hr1' := HK3.out.cell.2.1
  have hr2' := HK3.out.cell.2.2
  clear hq1 hq2 hkeep HO9 HB9 HB10 HRD10 HO11 HB11 hrd11
  clear hlc10
  go_wp2_with fail
  go_region_held3 (fun w' => w'.cell? ⟨g, 1, none⟩ = some (.slice AR 8 cR) ∧ w'.cell? ⟨g, 2, none⟩ = some (.slice AC 64 cC))
    (first | go_keep | exact hkeep)
    ((first
      | (go_at_call 143; refine (with_any g 92 K AK cK AR cR AC cC _ (by exact HK3.out.drew) HKL.out).mono ?_; rintro e W1 ⟨v9, rfl, hO9, hB9⟩; have hkeep := (HK3.out.drew.next hB9).cell.2; have HO9 := Lib.hid hO9; have HB9 := Lib.hid hB9; clear hO9 hB9)
      | ((refine Kd.R_append_rows_step (Kd.int .u8) (w0 := W.drew) W.heap.size (by rfl) (.tmp 20) (.tmp 21) 29 5 (.int .u8 0) 1 (by rfl) Try.underlying29 Go.Proofs.Ytoiiacbbfhlocaa.HSa.info5 rfl (by decide) (by omega) v9 (mapX K 92) I A11 32 c11 (fun _ => True) (fun _ => False) (by rfl) (by rfl) (by exact HO9.out) (by exact Kd.C_below (Kd.C_drew HRD11.out) HB9.out) (fun _ _ h => h) (fun _ h => h.elim) (fun _ _ => trivial) (by exact HB9.out) (by exact HB9.out.size) (by rw [HX92.out]; omega) ?_); intro v10 W2 ho10 hb10 hg10 hat10; have hkeep := (HK3.out.drew.next hb10).cell.2; have HB10 := Lib.hid hb10; rw [← HL2.out] at ho10; obtain ⟨A10, c10, hv10, hlc10, hrd10⟩ := Kd.R_reads ho10; rw [HN2.out] at hv10 hlc10 hrd10; have HRD10 := Lib.hid hrd10; subst hv10; clear ho10 hb10 hg10 hat10 hrd10)
      | (go_at_call 111; (refine ((by have h := rsummed_any A10 c10 L2 AR cR AC cC _ HB2.out (by rw [HN2.out]; omega) (by rw [HN2.out]; exact HRD10.out) (by rw [HN2.out]; exact hlc10) (by exact (HK3.out.drew.next HB10.out).r) HK3.out.cr (by exact (HK3.out.drew.next HB10.out).c) HK3.out.cc; rw [HN2.out, HE.out] at h; exact h : Calls _ _ _ _ (OutB _ E)).mono ?_)); rintro e W3 ⟨v12, rfl, hO12, hB12⟩; have hkeep := (HK3.out.drew.next (below_next HB10.out hB12)).cell.2; have HO12 := Lib.hid (Kd.R_lower hO12 HB10.out.size); have HB12 := Lib.hid (below_next (w := W.drew) HB10.out hB12); clear hO12 hB12)))
  go_wp2_with fail
  go_ret
  exact ⟨v12, rfl, Kd.R_lower HO12.out HBB3.out.size, below_next HBB3.out ((below_drew (Below.refl _ _)).trans HB12.out)⟩
end Go.Proofs.Ytoiiacbbfhlocaa.HHa
end
section
set_option linter.unusedVariables false
set_option linter.unusedSimpArgs false
namespace Go.Proofs.Ytoiiacbbfhlocaa.HHa
open Go.RowKit Go.Proofs.YtoiiacbbfhlocaaW.PrintWords Go.Proofs.YtoiiacbbfhlocaaW.PrintLast Go.Proofs.YtoiiacbbfhlocaaW.PrintMore Go.Proofs.Ytoiiacbbfhlocaa.Kit Go.Proofs.Ytoiiacbbfhlocaa.HSa Go.Proofs.Ytoiiacbbfhlocaa.Sa
attribute [local go_sem ↓] Go.wp_at_zero Go.wp_at_succ
attribute [local irreducible] sumF padX inF hmF jN iv consts allF comeN padK fillK
end Go.Proofs.Ytoiiacbbfhlocaa.HHa
end
end
section
set_option linter.unusedVariables false
set_option linter.unusedSimpArgs false
namespace Go.Proofs.Ytoiiacbbfhlocaa.HHa
open Go.RowKit Go.Proofs.YtoiiacbbfhlocaaW.PrintWords Go.Proofs.YtoiiacbbfhlocaaW.PrintLast Go.Proofs.YtoiiacbbfhlocaaW.PrintMore Go.Proofs.Ytoiiacbbfhlocaa.Kit Go.Proofs.Ytoiiacbbfhlocaa.HSa Go.Proofs.Ytoiiacbbfhlocaa.Sa
attribute [local go_sem ↓] Go.wp_at_zero Go.wp_at_succ
theorem reads_of_row {w : World} {a0 : Option Addr} {len0 cap0 : Nat} {z0 : List Int} (w0 : (a0 = none ∧ len0 = 0 ∧ cap0 = 0 ∧ z0 = []) ∨ ∃ x, a0 = some x ∧ len0 ≤ cap0 ∧ cap0 ≤ maxLen ∧ z0.length = cap0 ∧ (∀ i, i < z0.length → w.cell? (x.add i) = some (.int .u8 (z0.getD i 0))) ∧ ∀ n ∈ z0, (Lit.int .u8 n).wf = true) :
    ∃ l : List Int, l.length = len0 ∧ Kd.C (Kd.int .u8) w a0 l.length l ∧ len0 ≤ cap0 ∧ Bytes l := by
  obtain ⟨l0, hl, hr, hm, hw, hc⟩ := ReadsInt.ofRowC w0
  exact ⟨l0, hl.symm, Kd.C_of_reads (d := (0 : Int)) (h1 := fun _ => rfl) hr, by omega, bytes_of_wf hw⟩
attribute [local irreducible] sumF padX inF hmF jN iv consts allF comeN padK fillK
end Go.Proofs.Ytoiiacbbfhlocaa.HHa
end
section
namespace Go.Proofs.Ytoiiacbbfhlocaa.Hj
open Go.RowKit Go.Proofs.YtoiiacbbfhlocaaW.PrintWords Go.Proofs.YtoiiacbbfhlocaaW.PrintLast Go.Proofs.YtoiiacbbfhlocaaW.PrintMore
attribute [local go_sem] max2_int min2_int max_two min_two max_three min_three max_four min_four   -- for this text's walks alone
set_option linter.unusedVariables false
set_option linter.unusedSimpArgs false
def errW : Option Int → Value
  | none => .nilIface
  | some c => .iface 0 (.int .i64 c)
theorem errW_none : errW none = .nilIface := rfl
theorem errW_some (c : Int) : errW (some c) = .iface 0 (.int .i64 c) := rfl
theorem info5 : (Try.prog.info? 5).map (fun i => (i.zero, i.size, i.bytes)) = some (some (.int .u8 0), 1, 1) := by kernel_rfl
-- the values' own types
def rd_L1 (xs : List (List Int)) (i : Int) : (List Int) := xs.getD i.toNat ([] : List Int)
theorem at_L1 {w : World} {A : Option Addr} {n : Nat} {xs : List (List Int)} (h : Kd.C (Kd.slice 5 (Kd.int .u8)) w A n xs) (i : Int) (h0 : 0 ≤ i) (h1 : i < n) : ∃ ad A0 c0, A = some ad ∧ w.cell? (ad.add i.toNat) = some (.slice A0 (rd_L1 xs i).length c0) ∧ (rd_L1 xs i).length ≤ c0 ∧ (Kd.int .u8).C w A0 (rd_L1 xs i).length (rd_L1 xs i) := by
  obtain ⟨ad, c, e, _, hK, hc0⟩ := Kd.C_get h ([] : List Int) i h0 h1
  have hc : ∀ j u, c[j]? = some u → w.cell? (ad.add (i.toNat * 1 + j)) = some u := hc0
  obtain ⟨A0, c0, rfl, l0, g0⟩ := hK
  exact ⟨ad, A0, c0, e, by have hq := hc 0 _ rfl; rwa [Nat.mul_one, Nat.add_zero] at hq, l0, g0⟩
end Go.Proofs.Ytoiiacbbfhlocaa.Hj
end
section
namespace Go.Proofs.Ytoiiacbbfhlocaa.Hj
open Go.RowKit Go.Proofs.YtoiiacbbfhlocaaW.PrintWords Go.Proofs.YtoiiacbbfhlocaaW.PrintLast Go.Proofs.YtoiiacbbfhlocaaW.PrintMore
attribute [local go_sem] max2_int min2_int max_two min_two max_three min_three max_four min_four   -- for this text's walks alone
set_option linter.unusedVariables false
set_option linter.unusedSimpArgs false
/-! ### padlockref02_Joined: function 131 -/
def padlockref02_Joined.l0 : Nat → List (List Int) → List Int → Int → Option (List Int)
  | 0, _, _, _ => none
  | k + 1, x0, x3, x4 => if x4 < (x0.length : Int) then (if 0 ≤ x4 then ((some (([(wrap64 (((rd_L1 x0 x4).length : Int) / 16777216)) % 256, (wrap64 (((rd_L1 x0 x4).length : Int) / 65536)) % 256, (wrap64 (((rd_L1 x0 x4).length : Int) / 256)) % 256, (((rd_L1 x0 x4).length : Int)) % 256] : List Int) : List Int)).bind fun y102 => (if x3.length + y102.length < 140737488355328 then ((some (x3 ++ y102 : List Int)).bind fun y105 => (if y105.length + (rd_L1 x0 x4).length < 140737488355328 then (padlockref02_Joined.l0 k x0 (y105 ++ (rd_L1 x0 x4)) (wrap64 (x4 + 1))) else (none))) else (none))) else (none)) else (some x3)
def padlockref02_Joined.f (k : Nat) (l0 : List (List Int)) : Option (List Int) := padlockref02_Joined.l0 k l0 ([] : List Int) 0
theorem padlockref02_Joined.mono_l : ∀ k, (∀ y0 y1 y2, LeO (padlockref02_Joined.l0 k y0 y1 y2) (padlockref02_Joined.l0 (k + 1) y0 y1 y2))
  | 0 => fun _ _ _ r h => by simp [padlockref02_Joined.l0] at h
  | k + 1 => by
    have ih0 := padlockref02_Joined.mono_l k
    · intro y0 y1 y2
      unfold padlockref02_Joined.l0
      repeat' first
      | (with_reducible exact ih0 _ _ _)
      | (with_reducible exact LeO.refl _)
      | (with_reducible exact LeO.none _)
      | (with_reducible refine LeO.ite ?_ ?_)
      | (with_reducible refine LeO.bind ?_ (fun _ => ?_))
      | exact ih0 _ _ _
      | exact LeO.none _
      | refine LeO.ite ?_ ?_
      | refine LeO.bind ?_ (fun _ => ?_)
theorem padlockref02_Joined.mono : ∀ a0 k, LeO (padlockref02_Joined.f k a0) (padlockref02_Joined.f (k + 1) a0) := by
  intro a0 k
  have ih0 := padlockref02_Joined.mono_l k
  unfold padlockref02_Joined.f
  repeat' first
      | (with_reducible exact ih0 _ _ _)
      | (with_reducible exact LeO.refl _)
      | (with_reducible exact LeO.none _)
      | (with_reducible refine LeO.ite ?_ ?_)
      | (with_reducible refine LeO.bind ?_ (fun _ => ?_))
      | exact ih0 _ _ _
      | exact LeO.none _
      | refine LeO.ite ?_ ?_
      | refine LeO.bind ?_ (fun _ => ?_)
set_option maxHeartbeats 8000000 in
set_option maxRecDepth 100000 in
theorem padlockref02_Joined.calls (k : Nat) (A0 : Option Addr) (c0 : Nat) (l0 : List (List Int)) (r : List Int) (w : World) (hr0 : Kd.C (Kd.slice 5 (Kd.int .u8)) w A0 l0.length l0) (hc0 : l0.length ≤ c0) (h : padlockref02_Joined.f k l0 = some r) :
    Calls Try.prog 131 #[.slice A0 l0.length c0] w fun e w' => ∃ v0_ : Value, e = .returned (v0_) ∧ Kd.R (Kd.int .u8) 5 w' w.heap.size (fun _ => True) v0_ r ∧ Below w.heap.size w w' := by
  have HR0 := Aside0.mk hr0
  have HC0 := Aside0.mk hc0
  clear hr0 hc0
  have HB := Aside0.mk (Below.refl w.heap.size w)
  have H : (padlockref02_Joined.l0 k l0 ([] : List Int) 0) = some r := h
  clear h
  have H' := Aside0.mk H
  clear H
  go_enter Try.func131, Try.ntmps131
  go_wp2
  go_loopg [3, 4] k (fun kq v3 v4 w' => ∃ (x3_1 : List Int) (x4_1 : Int), v4 = .int .i64 x4_1 ∧ Aside0 (padlockref02_Joined.l0 kq l0 x3_1 x4_1 = some r) ∧ Aside0 (kq ≤ k) ∧ Aside0 (Kd.R (Kd.int .u8) 5 w' w.heap.size (fun _ => True) v3 x3_1) ∧ Aside0 (Below w.heap.size w w'))
  case atStart => exact ⟨(([] : List Int)), (0), (by first | rfl | (simp; done) | (simp [*]; done) | (simp; omega)), H', ⟨Nat.le_refl _⟩, ⟨by first | exact Kd.R_nil _ _ _ _ _ | exact Kd.N_nil _ _ _ _ _ | exact Kd.V_nil _ _ _ _ _ | exact Kd.Q_nil _ _ _ _ _ | exact Kd.S_nil _ _ _ _ _⟩, ⟨by repeat (first | (with_reducible first | exact HB.out | apply below_alloc | apply pw_below_drewN | apply below_drew1) | exact HB.out)⟩⟩
  case round =>
    clear H'
    try clear c1
    obtain ⟨x3_1, x4_1, rfl, HA, HK1, HO_3, HB⟩ := hrel
    cases gk with
    | zero => exact absurd HA.out (by simp [padlockref02_Joined.l0])
    | succ k1 =>
      have H := HA.out
      clear HA
      simp only [padlockref02_Joined.l0] at H
      by_cases c2 : x4_1 < (l0.length : Int)
      · rw [if_pos c2] at H
        have c2b0 : decide (x4_1 < (l0.length : Int)) = true := decide_eq_true c2
        clear c2
        by_cases c3 : 0 ≤ x4_1
        · rw [if_pos c3] at H
          have c3b0 : decide (0 ≤ x4_1) = true := decide_eq_true c3
          clear c3
          obtain ⟨y102, hy102⟩ : ∃ y_ : List Int, y_ = (([(wrap64 (((rd_L1 l0 x4_1).length : Int) / 16777216)) % 256, (wrap64 (((rd_L1 l0 x4_1).length : Int) / 65536)) % 256, (wrap64 (((rd_L1 l0 x4_1).length : Int) / 256)) % 256, (((rd_L1 l0 x4_1).length : Int)) % 256] : List Int)) := ⟨_, rfl⟩
          replace H : (if x3_1.length + y102.length < 140737488355328 then ((some (x3_1 ++ y102 : List Int)).bind fun y105 => (if y105.length + (rd_L1 l0 x4_1).length < 140737488355328 then (padlockref02_Joined.l0 k1 l0 (y105 ++ (rd_L1 l0 x4_1)) (wrap64 (x4_1 + 1))) else (none))) else (none)) = some r := by first | (rw [hy102]; with_reducible exact H) | (have H2_ := (Option.bind_some _ _).symm.trans H; rw [hy102]; with_reducible exact H2_) | (have H2_ := (Option.bind_some _ _).symm.trans H; with_reducible exact H2_) | with_reducible exact H | (rw [hy102]; exact H) | exact H
          have Ny102 := Aside0.mk hy102
          clear hy102
          by_cases c4 : x3_1.length + y102.length < 140737488355328
          · rw [if_pos c4] at H
            have LMc4 := Aside0.mk c4
            clear c4
            obtain ⟨y105, hy105⟩ : ∃ y_ : List Int, y_ = (x3_1 ++ y102) := ⟨_, rfl⟩
            replace H : (if y105.length + (rd_L1 l0 x4_1).length < 140737488355328 then (padlockref02_Joined.l0 k1 l0 (y105 ++ (rd_L1 l0 x4_1)) (wrap64 (x4_1 + 1))) else (none)) = some r := by first | (rw [hy105]; with_reducible exact H) | (have H2_ := (Option.bind_some _ _).symm.trans H; rw [hy105]; with_reducible exact H2_) | (have H2_ := (Option.bind_some _ _).symm.trans H; with_reducible exact H2_) | with_reducible exact H | (rw [hy105]; exact H) | exact H
            have Ny105 := Aside0.mk hy105
            clear hy105
            by_cases c5 : y105.length + (rd_L1 l0 x4_1).length < 140737488355328
            · rw [if_pos c5] at H
              have LMc5 := Aside0.mk c5
              clear c5
              obtain ⟨y109, hy109⟩ : ∃ y_ : List Int, y_ = (y105 ++ (rd_L1 l0 x4_1)) := ⟨_, rfl⟩
              replace H : (padlockref02_Joined.l0 k1 l0 y109 (wrap64 (x4_1 + 1))) = some r := by first | (rw [hy109]; with_reducible exact H) | (have H2_ := (Option.bind_some _ _).symm.trans H; rw [hy109]; with_reducible exact H2_) | (have H2_ := (Option.bind_some _ _).symm.trans H; with_reducible exact H2_) | with_reducible exact H | (rw [hy109]; exact H) | exact H
              have Ny109 := Aside0.mk hy109
              clear hy109
              have H' := Aside0.mk H
              clear H
              have p101 : 0 ≤ (x4_1 : Int) := of_decide_eq_true (by first | (with_reducible assumption) | assumption)
              have q101 : x4_1 < (l0.length : Int) := of_decide_eq_true (by first | (with_reducible assumption) | assumption)
              obtain ⟨ad101, A101_0, c101_0, e101, hx101_0, hl101_0, hi101_0⟩ := at_L1 HR0.out x4_1 p101 q101
              cases e101
              replace hx101_0 := (HB.out.cell (World.block_lt_of_cell? w _ hx101_0)).trans hx101_0
              have HR101_0 := Aside0.mk hi101_0
              have HC101_0 := Aside0.mk hl101_0
              clear hi101_0 hl101_0
              replace p101 := eq_true p101
              replace q101 := eq_true q101
              go_wp2_with (first | ((with_reducible refine gate_dst (N := 29) rfl ?_); refine Kd.R_lit (Kd.int .u8) _ 5 ?hg (N := 29) ?hd (xs := ([(wrap64 (((rd_L1 l0 x4_1).length : Int) / 16777216)) % 256, (wrap64 (((rd_L1 l0 x4_1).length : Int) / 65536)) % 256, (wrap64 (((rd_L1 l0 x4_1).length : Int) / 256)) % 256, (((rd_L1 l0 x4_1).length : Int)) % 256] : List Int)) (inner := [.int .u8 ((wrap64 (((rd_L1 l0 x4_1).length : Int) / 16777216)) % 256), .int .u8 ((wrap64 (((rd_L1 l0 x4_1).length : Int) / 65536)) % 256), .int .u8 ((wrap64 (((rd_L1 l0 x4_1).length : Int) / 256)) % 256), .int .u8 ((((rd_L1 l0 x4_1).length : Int)) % 256)]) (ok := fun _ => True) (okp := fun _ => True) ?hr ?hp (fun _ hk => hk) trivial (Below.refl _ _) (Nat.le_refl _) (by simp) ?_; (case hd => rfl); (case hg => rfl); (case hr => first | (go_simp; done) | (go_simp; rfl) | (go_simp; simp only [IntKind.wrap_u32, IntKind.wrap_u8]; done) | (go_simp; simp only [IntKind.wrap_u32, IntKind.wrap_u8]; rfl) | (go_simp; simp [IntKind.wrap_u32, IntKind.wrap_u8]; done)); (case hp => exact (Reps.one (show Kd.M (Kd.int .u8) _ _ _ ((wrap64 (((rd_L1 l0 x4_1).length : Int) / 16777216)) % 256) [.int .u8 ((wrap64 (((rd_L1 l0 x4_1).length : Int) / 16777216)) % 256)] from rfl) (Reps.one (show Kd.M (Kd.int .u8) _ _ _ ((wrap64 (((rd_L1 l0 x4_1).length : Int) / 65536)) % 256) [.int .u8 ((wrap64 (((rd_L1 l0 x4_1).length : Int) / 65536)) % 256)] from rfl) (Reps.one (show Kd.M (Kd.int .u8) _ _ _ ((wrap64 (((rd_L1 l0 x4_1).length : Int) / 256)) % 256) [.int .u8 ((wrap64 (((rd_L1 l0 x4_1).length : Int) / 256)) % 256)] from rfl) (Reps.one (show Kd.M (Kd.int .u8) _ _ _ ((((rd_L1 l0 x4_1).length : Int)) % 256) [.int .u8 ((((rd_L1 l0 x4_1).length : Int)) % 256)] from rfl) (Reps.none _ _)))))); intro v103 w6 ho7 hb hg_ hnew_; clear hg_ hnew_; (first | rw [← Ny102.out] at ho7 | (simp only [Int.reduceToNat] at ho7; rw [← Ny102.out] at ho7)); have n0_ := Aside0.mk (Kd.R_elder' (by (with_reducible repeat (first | apply Kd.R_alloc | apply Kd.R_drewN | apply Kd.R_drew)); exact HO_3.out) (Kd.R_base ho7) hb); have n1_ := Aside0.mk (Kd.R_lower (Kd.R_new' ho7 (Kd.R_lt (by (with_reducible repeat (first | apply Kd.R_alloc | apply Kd.R_drewN | apply Kd.R_drew)); exact HO_3.out))) (below_size (by repeat (first | (with_reducible first | exact HB.out | apply below_alloc | apply pw_below_drewN | apply below_drew1) | exact HB.out)))); have n2_ := Aside0.mk (below_step (by repeat (first | (with_reducible first | exact HB.out | apply below_alloc | apply pw_below_drewN | apply below_drew1) | exact HB.out)) hb); clear HO_3; clear HB; have HO_3 := n0_; have HO104 := n1_; have HB := n2_; clear n0_ n1_ n2_; clear hb ho7; obtain ⟨Ao9, co9, eo9⟩ := Kd.R_slice HO104.out; subst eo9) | ((with_reducible refine gate_builtin (b := .append) (xs := #[.tmp 17, .tmp 29]) rfl ?_); at_builtin; refine Kd.R_append_rows (Kd.int .u8) (w0 := w) w.heap.size rfl (.tmp 17) (.tmp 29) 29 5 (.int .u8 0) 1 rfl Try.underlying29 info5 rfl (by decide) (by omega) u3 x3_1 y102 _ _ _ (fun k_ => some k_ ≠ (.slice Ao9 y102.length co9 : Value).ownBlock) (fun _ => False) rfl rfl ?aO ?aR (fun _ _ h => h) (fun _ h => h.elim) ?aF ?aB ?aS ?aL ?_; (case aR => repeat (first | exact (Kd.R_reads' HO104.out).2.2 | (with_reducible refine Kd.C_alloc ?_ _) | (with_reducible refine Kd.C_drewN ?_ _) | (with_reducible refine Kd.C_drew ?_))); (case aB => exact (by repeat (first | (with_reducible first | exact HB.out | apply below_alloc | apply pw_below_drewN | apply below_drew1) | exact HB.out))); (case aF => exact (fun k_ hk => Kd.fresh' (Kd.R_lt (by (with_reducible repeat (first | apply Kd.R_alloc | apply Kd.R_drewN | apply Kd.R_drew)); exact HO104.out)) k_ hk)); (case aO => exact (by (with_reducible repeat (first | apply Kd.R_alloc | apply Kd.R_drewN | apply Kd.R_drew)); exact Kd.R_mono HO_3.out (fun _ hk => hk.2))); (case aS => exact (below_size (by repeat (first | (with_reducible first | exact HB.out | apply below_alloc | apply pw_below_drewN | apply below_drew1) | exact HB.out)))); (case aL => have := LMc4.out; omega); intro v106 w8 ho hb hg hat; rw [← Ny105.out] at ho; have n0_ := Aside0.mk (Kd.R_after (ok := (fun _ => True)) (by (with_reducible repeat (first | apply Kd.R_alloc | apply Kd.R_drewN | apply Kd.R_drew)); exact HO104.out) hg hat); have n1_ := Aside0.mk (hb); have n2_ := Aside0.mk (ho); clear HO104; clear HB; clear HO_3; have HO104 := n0_; have HB := n1_; have HO107 := n2_; clear n0_ n1_ n2_; clear ho hb hg hat; have p108 : 0 ≤ (x4_1 : Int) := of_decide_eq_true (by first | (with_reducible assumption) | assumption); have q108 : x4_1 < (l0.length : Int) := of_decide_eq_true (by first | (with_reducible assumption) | assumption); obtain ⟨ad108, A108_0, c108_0, e108, hx108_0, hl108_0, hi108_0⟩ := at_L1 HR0.out x4_1 p108 q108; obtain rfl : ad101 = ad108 := (by injection e108); replace hx108_0 := (HB.out.cell (World.block_lt_of_cell? w _ hx108_0)).trans hx108_0; have HR108_0 := Aside0.mk hi108_0; have HC108_0 := Aside0.mk hl108_0; clear hi108_0 hl108_0; replace p108 := eq_true p108; replace q108 := eq_true q108) | ((with_reducible refine gate_builtin (b := .append) (xs := #[.tmp 31, .tmp 35]) rfl ?_); at_builtin; refine Kd.R_append_rows (Kd.int .u8) (w0 := w) w.heap.size rfl (.tmp 31) (.tmp 35) 29 5 (.int .u8 0) 1 rfl Try.underlying29 info5 rfl (by decide) (by omega) v106 y105 (rd_L1 l0 x4_1) _ _ _ (fun k_ => some k_ ≠ (.slice Ao9 y102.length co9 : Value).ownBlock) (fun _ => False) rfl rfl ?aO ?aR (fun _ _ h => h) (fun _ h => h.elim) ?aF ?aB ?aS ?aL ?_; (case aR => repeat (first | exact (Kd.C_below HR108_0.out HB.out) | (with_reducible refine Kd.C_alloc ?_ _) | (with_reducible refine Kd.C_drewN ?_ _) | (with_reducible refine Kd.C_drew ?_))); (case aB => exact (by repeat (first | (with_reducible first | exact HB.out | apply below_alloc | apply pw_below_drewN | apply below_drew1) | exact HB.out))); (case aF => exact (fun k_ hk => Kd.fresh' (Kd.R_lt (by (with_reducible repeat (first | apply Kd.R_alloc | apply Kd.R_drewN | apply Kd.R_drew)); exact HO104.out)) k_ hk)); (case aO => exact (by (with_reducible repeat (first | apply Kd.R_alloc | apply Kd.R_drewN | apply Kd.R_drew)); exact HO107.out)); (case aS => exact (below_size (by repeat (first | (with_reducible first | exact HB.out | apply below_alloc | apply pw_below_drewN | apply below_drew1) | exact HB.out)))); (case aL => have := LMc5.out; omega); intro v110 w10 ho hb hg hat; rw [← Ny109.out] at ho; have n0_ := Aside0.mk (Kd.R_after (ok := (fun _ => True)) (by (with_reducible repeat (first | apply Kd.R_alloc | apply Kd.R_drewN | apply Kd.R_drew)); exact HO104.out) hg hat); have n1_ := Aside0.mk (hb); have n2_ := Aside0.mk (ho); clear HO104; clear HB; clear HO107; have HO104 := n0_; have HB := n1_; have HO111 := n2_; clear n0_ n1_ n2_; clear ho hb hg hat))
              go_roundg k1
              case measure => have := HK1.out; omega
              case rel => exact ⟨(y109), (wrap64 (x4_1 + 1)), (by first | rfl | (simp; done) | (simp [*]; done) | (simp; omega)), H', ⟨by have := HK1.out; omega⟩, ⟨by (with_reducible repeat (first | apply Kd.R_alloc | apply Kd.R_drewN | apply Kd.R_drew)); exact Kd.R_mono HO111.out (fun _ hk => trivial)⟩, ⟨by repeat (first | (with_reducible first | exact HB.out | apply below_alloc | apply pw_below_drewN | apply below_drew1) | exact HB.out)⟩⟩
            · rw [if_neg c5] at H
              exact absurd H (by simp)
          · rw [if_neg c4] at H
            exact absurd H (by simp)
        · rw [if_neg c3] at H
          exact absurd H (by simp)
      · rw [if_neg c2] at H
        have c2b0 : decide (x4_1 < (l0.length : Int)) = false := decide_eq_false c2
        clear c2
        obtain rfl := Option.some.inj H
        go_wp2
        go_ret
        exact ⟨_, by first | rfl | (simp [errW_none, errW_some] <;> rfl) | (simp [*, errW_none, errW_some] <;> rfl), by (with_reducible repeat (first | apply Kd.R_alloc | apply Kd.R_drewN | apply Kd.R_drew)); exact HO_3.out, by repeat (first | (with_reducible first | exact HB.out | apply below_alloc | apply pw_below_drewN | apply below_drew1) | exact HB.out)⟩
end Go.Proofs.Ytoiiacbbfhlocaa.Hj
end
section
set_option linter.unusedVariables false
set_option linter.unusedSimpArgs false
namespace Go.Proofs.Ytoiiacbbfhlocaa.HHa
open Go.RowKit Go.Proofs.YtoiiacbbfhlocaaW.PrintWords Go.Proofs.YtoiiacbbfhlocaaW.PrintLast Go.Proofs.YtoiiacbbfhlocaaW.PrintMore Go.Proofs.Ytoiiacbbfhlocaa.Kit Go.Proofs.Ytoiiacbbfhlocaa.HSa
attribute [local go_sem ↓] Go.wp_at_zero Go.wp_at_succ
theorem kF_eq (key b : List Int) : kF (padK key) b = hmF key b := by unfold kF hmF inF padX mapX; rfl
theorem jN_small (ps : List (List Int)) (c : Nat) (h : ∀ j, j < ps.length → (ps.getD j []).length ≤ c) : ∀ k, k ≤ ps.length → (jN ps k).length ≤ (c + 4) * k
  | 0, _ => by simp [jN]
  | k + 1, hk => by
    have h1 := jN_small ps c h k (by omega)
    have h2 := h k (by omega)
    simp only [jN, List.length_append, len4, List.length_cons, List.length_nil]
    rw [Nat.mul_add]
    omega
theorem len4_bytes (n : Nat) : Bytes (len4 n) := by
  intro x hx
  simp only [len4, List.mem_cons, List.not_mem_nil, or_false] at hx
  omega
theorem jN_bytes (ps : List (List Int)) (h : ∀ p ∈ ps, Bytes p) : ∀ k, Bytes (jN ps k)
  | 0 => by intro x hx; simp [jN] at hx
  | k + 1 => by
    intro x hx
    simp only [jN, List.mem_append] at hx
    rcases hx with (hx | hx) | hx
    · exact jN_bytes ps h k x hx
    · exact len4_bytes _ x hx
    · by_cases hk : k < ps.length
      · refine h _ ?_ x hx
        rw [List.getD_eq_getElem?_getD, List.getElem?_eq_getElem hk]
        exact List.getElem_mem hk
      · rw [List.getD_eq_getElem?_getD, List.getElem?_eq_none (by omega)] at hx
        simp at hx
theorem padK_bytes (key : List Int) (h : Bytes key) : Bytes (padK key) := by
  intro x hx
  unfold padK fillK at hx
  rcases List.mem_append.1 hx with hx | hx
  · split at hx
    · exact sumF_bytes _ x hx
    · exact h x hx
  · have := List.eq_of_mem_replicate hx
    omega
theorem joined_steps (ps : List (List Int)) (hm : ps.length ≤ 100000) (hs : ∀ k, k ≤ ps.length → (jN ps k).length ≤ 90000) : ∀ n j, j + n = ps.length → Hj.padlockref02_Joined.l0 (n + 1) ps (jN ps j) j = some (jN ps ps.length)
  | 0, j, h => by
    rw [Hj.padlockref02_Joined.l0, if_neg (by omega), show j = ps.length from by omega]
  | n + 1, j, h => by
    have h1 := hs j (by omega)
    have h2 := hs (j + 1) (by omega)
    have hp : Hj.rd_L1 ps (j : Int) = ps.getD j [] := by unfold Hj.rd_L1; rw [Int.toNat_natCast]
    have hl : (jN ps (j + 1)).length = (jN ps j).length + 4 + (ps.getD j []).length := by simp [jN, len4]; omega
    have hw : ∀ a : Int, 0 ≤ a → a < 1000000000 → wrap64 a = a := fun a h0 h1 => by unfold wrap64; omega
    rw [Hj.padlockref02_Joined.l0, if_pos (by omega), if_pos (by omega)]
    simp only [Option.bind_some, hp]
    rw [if_pos (by simp only [List.length_append, List.length_cons, List.length_nil]; omega)]
    rw [hw _ (by omega) (by omega), hw _ (by omega) (by omega), hw _ (by omega) (by omega), hw _ (by omega) (by omega)]
    rw [if_pos (by simp only [List.length_append, List.length_cons, List.length_nil]; omega)]
    have ih := joined_steps ps hm hs n (j + 1) (by omega)
    rw [jN, len4] at ih
    exact ih
theorem joined_tells (ps : List (List Int)) (hm : ps.length ≤ 100000) (hs : ∀ k, k ≤ ps.length → (jN ps k).length ≤ 90000) : Hj.padlockref02_Joined.f (ps.length + 1) ps = some (jF ps) := by
  have h := joined_steps ps hm hs ps.length 0 (by omega)
  rw [jN] at h
  exact h
theorem joined_any (A0 : Option Addr) (c0 : Nat) (ps : List (List Int)) (w : World) (hr : Kd.C (Kd.slice 5 (Kd.int .u8)) w A0 ps.length ps) (hc : ps.length ≤ c0) (hm : ps.length ≤ 100000) (hs : ∀ k, k ≤ ps.length → (jN ps k).length ≤ 90000) :
    Calls Try.prog 131 #[.slice A0 ps.length c0] w (OutB w (jF ps)) := Hj.padlockref02_Joined.calls (ps.length + 1) A0 c0 ps (jF ps) w hr hc (joined_tells ps hm hs)
attribute [local irreducible] sumF padX inF hmF jN jF iv consts allF comeN padK fillK kF
end Go.Proofs.Ytoiiacbbfhlocaa.HHa
end
section
set_option linter.unusedVariables false
set_option linter.unusedSimpArgs false
namespace Go.Proofs.Ytoiiacbbfhlocaa.HHa
open Go.RowKit Go.Proofs.YtoiiacbbfhlocaaW.PrintWords Go.Proofs.YtoiiacbbfhlocaaW.PrintLast Go.Proofs.YtoiiacbbfhlocaaW.PrintMore Go.Proofs.Ytoiiacbbfhlocaa.Kit Go.Proofs.Ytoiiacbbfhlocaa.HSa
attribute [local go_sem ↓] Go.wp_at_zero Go.wp_at_succ
theorem map_inj : ∀ a b : List Int, Bytes a → Bytes b → (a.map fun n => UInt8.ofNat n.toNat) = (b.map fun n => UInt8.ofNat n.toNat) → a = b
  | [], [], _, _, _ => rfl
  | [], _ :: _, _, _, h => by simp at h
  | _ :: _, [], _, _, h => by simp at h
  | x :: a, y :: b, ha, hb, h => by
    simp only [List.map_cons, List.cons.injEq] at h
    have hx := ha x (by simp)
    have hy := hb y (by simp)
    have h2 := congrArg UInt8.toNat h.1
    simp only [UInt8.toNat_ofNat'] at h2
    have : x = y := by omega
    rw [this, map_inj a b (fun z hz => ha z (by simp [hz])) (fun z hz => hb z (by simp [hz])) h.2]
theorem str_inj (a b : List Int) (ha : Bytes a) (hb : Bytes b) (h : strOfNums a = strOfNums b) : a = b := by
  have h1 := congrArg (fun s : ByteArray => s.data.toList) h
  exact map_inj a b ha hb h1
def sameN (a b : List (List Int)) : Nat → Bool
  | 0 => decide (a.length = b.length)
  | k + 1 => sameN a b k && decide (a.getD k [] = b.getD k [])
theorem str_beq (x y : ByteArray) : (x.toList == y.toList) = decide (x = y) := by
  rw [Bool.eq_iff_iff, beq_iff_eq, decide_eq_true_iff, ByteArray.toList_eq, ByteArray.toList_eq]
  exact ⟨Go.WideShapes.bytes_inj, fun h => by rw [h]⟩
theorem part_same (a b : List Int) (ha : Bytes a) (hb : Bytes b) : decide (strOfNums a = strOfNums b) = decide (a = b) := by
  rw [Bool.eq_iff_iff, decide_eq_true_iff, decide_eq_true_iff]
  exact ⟨str_inj a b ha hb, fun h => by rw [h]⟩
attribute [local irreducible] sumF padX inF hmF jN jF iv consts allF comeN padK fillK kF sameN
end Go.Proofs.Ytoiiacbbfhlocaa.HHa
end
section
set_option linter.unusedVariables false
set_option linter.unusedSimpArgs false
namespace Go.Proofs.Ytoiiacbbfhlocaa.HMa
open Go.RowKit Go.Proofs.YtoiiacbbfhlocaaW.PrintWords Go.Proofs.YtoiiacbbfhlocaaW.PrintLast Go.Proofs.YtoiiacbbfhlocaaW.PrintMore Go.Proofs.Ytoiiacbbfhlocaa.Kit Go.Proofs.Ytoiiacbbfhlocaa.HHa Go.Proofs.Ytoiiacbbfhlocaa.HSa
theorem blk {p : Prop} (h : Aside0 p) : p := h.out
theorem infoRow : (Try.prog.info? 29).map (fun i => (i.zero, i.size, i.bytes)) = some (some (.slice none 0 0), 1, 24) := by kernel_rfl
theorem rows_of {k : IntKind} {e : Nat} {W : World} {A : Option Addr} {ps : List (List Int)} {n : Nat} (hn : ps.length = n) (h1 : n ≤ 1000000) (g : Nat) (hA : 0 < n → A = some ⟨g, 0, none⟩)
    (h : ∀ j, j < n → ∃ A c, W.cell? ⟨g, j, none⟩ = some (.slice A (ps.getD j []).length c) ∧ (ps.getD j []).length ≤ c ∧ Kd.C (Kd.int k) W A (ps.getD j []).length (ps.getD j [])) : Kd.C (Kd.slice e (Kd.int k)) W A n ps := by
  refine ⟨hn, by omega, fun h0 => ⟨_, hA h0, fun j p hj => ?_⟩⟩
  have hj' : j < n := by have := (List.getElem?_eq_some_iff.1 hj).1; omega
  obtain ⟨A, c, hc, hl, hC⟩ := h j hj'
  have hp : ps.getD j [] = p := by rw [List.getD_eq_getElem?_getD, hj]; rfl
  rw [hp] at hc hl hC
  refine ⟨[.slice A p.length c], rfl, ⟨A, c, rfl, hl, hC⟩, fun i u hu => ?_⟩
  cases i with
  | succ i => simp at hu
  | zero =>
    simp at hu
    subst hu
    rw [show (⟨g, 0, none⟩ : Addr).add (j * (Kd.slice e (Kd.int k)).sz + 0) = ⟨g, j, none⟩ from by rw [add_plain]; simp [Kd.slice]]
    exact hc
theorem lit_C (w : World) (T : TypeId) (fr : Nat × Nat) (p : List Int) (n : Nat) (hn : p.length = n) (h1 : n ≤ 1000) : Kd.C (Kd.int .u8) (w.alloc (.cells (nums .u8 p).toArray T fr)) (some ⟨w.heap.size, 0, none⟩) n p := by
  subst hn
  refine Kd.C_of_reads (d := (0 : Int)) (h1 := fun _ => rfl) ⟨rfl, by omega, fun _ => ⟨_, rfl, fun j hj => ?_⟩⟩
  rw [add_plain, World.cell?_alloc_mark]
  simp [nums, hj, List.getD]
def tNode : List Int := [110, 111, 100, 101]
def quad (xs : List Int) (j : Nat) : List Int := (xs.drop (j * 32)).take 32
def partsF (xs : List Int) : List (List Int) := [tNode, quad xs 0, quad xs 1, quad xs 2, quad xs 3]
def nodeF (key xs : List Int) : List Int := hmF key (jF (partsF xs))
theorem nodeF_length (key xs : List Int) : (nodeF key xs).length = 32 := by unfold nodeF; exact hmF_length _ _
theorem quad_length (xs : List Int) (h : xs.length = 128) (j : Nat) (hj : j < 4) : (quad xs j).length = 32 := by
  unfold quad
  rw [List.length_take, List.length_drop, h]
  omega
attribute [local irreducible] sumF padX inF hmF jN jF
theorem parts_small (xs : List Int) (h : xs.length = 128) : ∀ k, k ≤ (partsF xs).length → (jN (partsF xs) k).length ≤ 90000 := by
  intro k hk
  have hk5 : k ≤ 5 := hk
  have := jN_small (partsF xs) 32 (fun j hj => by
    have hj5 : j < 5 := hj
    have h0 := quad_length xs h 0 (by omega)
    have h1 := quad_length xs h 1 (by omega)
    have h2 := quad_length xs h 2 (by omega)
    have h3 := quad_length xs h 3 (by omega)
    unfold partsF
    match j, hj5 with
    | 0, _ => show tNode.length ≤ 32; decide
    | 1, _ => show (quad xs 0).length ≤ 32; omega
    | 2, _ => show (quad xs 1).length ≤ 32; omega
    | 3, _ => show (quad xs 2).length ≤ 32; omega
    | 4, _ => show (quad xs 3).length ≤ 32; omega) k hk
  omega
def partV (l g : Nat) : Nat → List Value
  | 0 => [.slice (some ⟨l, 0, none⟩) 4 4]
  | k + 1 => partV l g k ++ [.slice (some ⟨g, k * 32, none⟩) 32 32]
theorem partV_at (l g : Nat) : ∀ (k j : Nat), j ≤ k → (partV l g k)[j]? = some (if j = 0 then .slice (some ⟨l, 0, none⟩) 4 4 else .slice (some ⟨g, (j - 1) * 32, none⟩) 32 32)
  | 0, j, h => by
    obtain rfl : j = 0 := by omega
    rfl
  | k + 1, j, h => by
    have hl : ∀ k, (partV l g k).length = k + 1 := fun k => by
      induction k with
      | zero => rfl
      | succ k ih => rw [partV, List.length_append, ih]; rfl
    rw [partV]
    by_cases hj : j ≤ k
    · rw [List.getElem?_append_left (by rw [hl]; omega)]
      exact partV_at l g k j hj
    · obtain rfl : j = k + 1 := by omega
      rw [List.getElem?_append_right (by rw [hl]; omega), hl, Nat.sub_self, if_neg (by omega)]
      rfl
set_option maxHeartbeats 4000000 in
set_option maxRecDepth 100000 in
theorem node_any (A0 : Option Addr) (c0 : Nat) (key : List Int) (xs : List Int) (hx : xs.length = 128) (w : World) (hr : Kd.C (Kd.int .u8) w A0 key.length key) (hc : key.length ≤ c0) (hl : key.length ≤ 1000) :
    Calls Try.prog 81 #[.slice A0 key.length c0, .agg (nums .u8 xs).toArray] w (GivesArr .u8 (nodeF key xs) w) := by
  have HR := Lib.hid hr
  have HX := Lib.hid hx
  obtain ⟨n, hn⟩ : ∃ n, n = key.length := ⟨_, rfl⟩
  have HN := Lib.hid hn
  rw [← hn] at hc hl ⊢
  clear hr hn hx
  go_enter Try.func81, Try.ntmps81
  go_wp2_with (first
    | ((with_reducible refine gate_dst (N := 3) rfl ?_); refine arr_new rfl 123 .u8 xs (by first | (go_simp; done) | (go_simp; rfl)) ?_; intro w1 hA1 hB1; have HA1 := Lib.hid hA1; have HB1 := Lib.hid hB1; clear hA1 hB1)
    | ((with_reducible refine gate_dst (N := 4) rfl ?_); refine alloc_arr rfl 24 rfl .u8 (List.replicate 32 0) (fun w => Try.zeroValue24 w) (by first | (go_simp; done) | (go_simp; rfl)) ?_; intro w2 hA2 hB2; have HA2 := Lib.hid hA2; have HA12 := Lib.hid (HA1.out.next hB2); have HB2 := Lib.hid (below_next HB1.out hB2); have kc1 := fun (C : Array Value) (n c : Nat) => Lib.run_convert_bytes_const (P := Try.prog) w2 29 5 C n c Try.underlying29 Try.underlying5; clear hA2 hB2))
  obtain ⟨w3, hw3⟩ : ∃ w3, w3 = w2.alloc (.cells (nums .u8 tNode).toArray 5 (4, 5)) := ⟨_, rfl⟩
  have hs3 : w3.heap.size = w2.heap.size + 1 := by rw [hw3]; show (w2.heap.push _).size = _; rw [Array.size_push]
  have hB3 : Below w2.heap.size w2 w3 := by rw [hw3]; exact below_alloc (Below.refl _ _) _
  have HLIT := Lib.hid (show Kd.C (Kd.int .u8) w3 (some ⟨w2.heap.size, 0, none⟩) 4 tNode from by rw [hw3]; exact lit_C w2 _ _ tNode 4 rfl (by decide))
  have HA3 := Lib.hid (HA12.out.next hB3)
  have HZ3 := Lib.hid (HA2.out.next hB3)
  have HR3 := Lib.hid (Kd.C_below HR.out (below_next HB2.out hB3))
  have HB3 := Lib.hid (below_next HB2.out hB3)
  have HO3 := Lib.hid (show (w3.alloc (.cells #[.slice (some ⟨w2.heap.size, 0, none⟩) 4 4] 29)).ownsRow w3.heap.size 29 1 (.slice (some ⟨w3.heap.size, 0, none⟩) 1 1) 1 (partV w2.heap.size w.heap.size 0) from ⟨rfl, .inr ⟨w3.heap.size, 1, #[.slice (some ⟨w2.heap.size, 0, none⟩) 4 4], rfl, Nat.le_refl _, heap_alloc_new w3 _, Nat.le_refl _, by decide, rfl, rfl⟩⟩)
  have HS3 := Lib.hid hs3
  rw [← hs3]
  first
    | rw [show (w2.alloc (.cells #[.int .u8 110, .int .u8 111, .int .u8 100, .int .u8 101] 5 (4, 5))) = w3 from hw3.symm]
    | skip
  have HW3 := Lib.hid hw3
  clear hw3 hs3 hB3 kc1
  go_loopg [5, 10] 4 (fun gg v5 s10 wr => ∃ k : Nat, k ≤ 4 ∧ 4 - k ≤ gg ∧ s10 = .int .i64 k ∧ Aside0 (Below w3.heap.size w3 wr) ∧ Aside0 (wr.ownsRow w3.heap.size 29 1 v5 (k + 1) (partV w2.heap.size w.heap.size k)))
  case atStart => exact ⟨0, Nat.zero_le _, by omega, rfl, ⟨below_alloc (Below.refl _ _) _⟩, ⟨HO3.out⟩⟩
  case round =>
    clear HO3
    obtain ⟨k, hk, hg, rfl, BW, HO⟩ := hrel
    by_cases hlt : k < 4
    · have hltz : (k : Int) < 4 := by omega
      have hk2 : ¬ (k : Int) < 0 := by omega
      have hk3 : k ≤ 9223372036854775807 := by omega
      go_wp2_with (((with_reducible refine gate_builtin (b := .append) (xs := #[.tmp 13, .tmp 17]) rfl ?_); at_builtin; refine blk ?_))
      refine ⟨?_⟩
      refine print_append_cells (w0 := w3) w3.heap.size rfl (.tmp 13) (.tmp 17) 177 29 (.slice none 0 0) 1 24 rfl Try.underlying177 infoRow rfl (by decide) (by decide) u5 (k + 1) (partV w2.heap.size w.heap.size k) [.slice (some ⟨w.heap.size, k * 32, none⟩) 32 32] rfl rfl rfl (by simp [Value.oneCell']) HO.out BW.out BW.out.size (by omega) ?_
      intro v1 w8 ho hb hg8 hat
      have HO8 := Lib.hid ho
      have HB8 := Lib.hid hb
      clear ho hb hg8 hat
      go_wp2
      go_roundg (4 - (k + 1))
      case measure => omega
      case rel => exact ⟨k + 1, by omega, by omega, by go_num, ⟨HB8.out⟩, ⟨HO8.out⟩⟩
    · have hltz : ¬ (k : Int) < 4 := by omega
      obtain rfl : k = 4 := by omega
      obtain ⟨g5, c5, rfl⟩ := ownsRow_succ HO.out
      have hc5 : 5 ≤ c5 := by
        rcases HO.out.2 with ⟨h, -⟩ | ⟨g', cap, cur, hv, -, -, hn, -⟩
        · cases h
        · obtain ⟨-, -, rfl⟩ := Value.slice.inj hv
          exact hn
      have HA4 := Lib.hid (HA3.out.next BW.out)
      have hC := rows_of (k := .u8) (e := 5) (W := wr) (A := some ⟨g5, 0, none⟩) (ps := partsF xs) (n := 5) rfl (by decide) g5 (fun _ => rfl) (fun j hj => by
        have hcell := World.ownsRow.cells HO.out (g := g5) rfl j _ (partV_at w2.heap.size w.heap.size 4 j (by omega))
        rw [add_plain] at hcell
        have hq : ∀ i, i < 4 → Kd.C (Kd.int .u8) wr (some ⟨w.heap.size, i * 32, none⟩) 32 (quad xs i) := fun i hi => HA4.out.reads_part (i * 32) 32 (by rw [HX.out]; omega) (by decide)
        match j, hj with
        | 0, _ => exact ⟨_, _, hcell, Nat.le_refl _, Kd.C_below HLIT.out BW.out⟩
        | 1, _ => exact ⟨_, 32, by rw [show ((partsF xs).getD 1 []).length = 32 from quad_length xs HX.out 0 (by omega)]; exact hcell, Nat.le_of_eq (quad_length xs HX.out 0 (by omega)), by rw [show ((partsF xs).getD 1 []).length = 32 from quad_length xs HX.out 0 (by omega)]; exact hq 0 (by omega)⟩
        | 2, _ => exact ⟨_, 32, by rw [show ((partsF xs).getD 2 []).length = 32 from quad_length xs HX.out 1 (by omega)]; exact hcell, Nat.le_of_eq (quad_length xs HX.out 1 (by omega)), by rw [show ((partsF xs).getD 2 []).length = 32 from quad_length xs HX.out 1 (by omega)]; exact hq 1 (by omega)⟩
        | 3, _ => exact ⟨_, 32, by rw [show ((partsF xs).getD 3 []).length = 32 from quad_length xs HX.out 2 (by omega)]; exact hcell, Nat.le_of_eq (quad_length xs HX.out 2 (by omega)), by rw [show ((partsF xs).getD 3 []).length = 32 from quad_length xs HX.out 2 (by omega)]; exact hq 2 (by omega)⟩
        | 4, _ => exact ⟨_, 32, by rw [show ((partsF xs).getD 4 []).length = 32 from quad_length xs HX.out 3 (by omega)]; exact hcell, Nat.le_of_eq (quad_length xs HX.out 3 (by omega)), by rw [show ((partsF xs).getD 4 []).length = 32 from quad_length xs HX.out 3 (by omega)]; exact hq 3 (by omega)⟩)
      have hj : Calls Try.prog 117 #[.slice A0 n c0, .slice (some ⟨g5, 0, none⟩) 5 c5] wr (GivesArr .u8 (nodeF key xs) wr) := by
        have h := join_any A0 c0 key (some ⟨g5, 0, none⟩) c5 (partsF xs) wr (by have h := Kd.C_below HR3.out BW.out; exact h) (by rw [← HN.out]; exact hc) (by rw [← HN.out]; omega) hC hc5 (show (5 : Nat) ≤ 100000 from by decide) (parts_small xs HX.out)
        rw [← HN.out] at h
        exact h
      obtain ⟨E, hE⟩ : ∃ E, E = nodeF key xs := ⟨_, rfl⟩
      rw [← hE] at hj
      have HEL : Hid (E.length = 32) := Lib.hid (by rw [hE]; exact nodeF_length _ _)
      have HE := Lib.hid hE
      have HZ4 := Lib.hid (HZ3.out.next BW.out)
      have HW1 := Lib.hid (show w.heap.size ≤ w1.heap.size from HB1.out.size)
      have HBR := Lib.hid (below_next HB3.out BW.out)
      clear hC hE hc5 HO BW
      go_wp2_with (first
        | (go_at_call 117; refine hj.mono ?_; rintro e w6 ⟨rfl, hb6⟩; have HZ6 := Lib.hid (HZ4.out.next hb6); have HB6 := Lib.hid (below_next HBR.out hb6); clear hb6)
        | ((with_reducible refine gate_store (t := 24) (p := 4) rfl ?_); refine store_arr rfl 24 _ _ rfl w1.heap.size .u8 E rfl rfl 24 _ HZ6.out (by rw [HEL.out]; rfl) (by rw [HEL.out]; kernel_rfl) ?_; intro w7 hA7 hw7; have hB7 := below_setRow HB6.out w1.heap.size HW1.out (nums .u8 E).toArray; rw [← hw7] at hB7; have HA7 := Lib.hid hA7; have HB7 := Lib.hid hB7; clear hw7 hA7 hB7))
      exact bodyPost_ret (results_arr rfl _ _ w1.heap.size .u8 _ _ _ E rfl HA7.out Try.underlying24 (by rw [HEL.out]; kernel_rfl)) rfl ⟨by rw [HE.out], HB7.out⟩
end Go.Proofs.Ytoiiacbbfhlocaa.HMa
end
section
set_option linter.unusedVariables false
set_option linter.unusedSimpArgs false
namespace Go.Proofs.Ytoiiacbbfhlocaa.HMa
open Go.RowKit Go.Proofs.YtoiiacbbfhlocaaW.PrintWords Go.Proofs.YtoiiacbbfhlocaaW.PrintLast Go.Proofs.YtoiiacbbfhlocaaW.PrintMore Go.Proofs.Ytoiiacbbfhlocaa.Kit Go.Proofs.Ytoiiacbbfhlocaa.HHa Go.Proofs.Ytoiiacbbfhlocaa.HSa
theorem run_neq_arrs {P : Program} {o : Oper} {a : Act} (T : TypeId) (x y : Operand) (T2 : TypeId) (ho : o.op = .binOp .neq T x y T2) (k : IntKind) (xs ys : List Int) (hx : a.eval x = .agg (nums k xs).toArray) (hy : a.eval y = .agg (nums k ys).toArray)
    (hm : P.eqGuardType P.depth T = false) (n e : Nat) (hu : P.underlying T = some (.array n e)) (he : P.underlying e = some (.int k)) (hi : (P.info? e).map (·.size) = some 1) (hl : xs.length = n) (hl2 : ys.length = n) (w : World) :
    (execOp a.eval o).run P w = .ok (.value (.bool (!decide (xs = ys)))) w := by
  have heq := eql_arrs T e n k xs ys hu he hi hl hl2 w
  unfold execOp
  simp only [ho, hx, hy]
  simp [run_eqGuard_agg w _ _ _ _ _ _ hm, run_neq_struct, heq, Result.andThen]
theorem run_eql_arrs {P : Program} {o : Oper} {a : Act} (T : TypeId) (x y : Operand) (T2 : TypeId) (ho : o.op = .binOp .eql T x y T2) (k : IntKind) (xs ys : List Int) (hx : a.eval x = .agg (nums k xs).toArray) (hy : a.eval y = .agg (nums k ys).toArray)
    (hm : P.eqGuardType P.depth T = false) (n e : Nat) (hu : P.underlying T = some (.array n e)) (he : P.underlying e = some (.int k)) (hi : (P.info? e).map (·.size) = some 1) (hl : xs.length = n) (hl2 : ys.length = n) (w : World) :
    (execOp a.eval o).run P w = .ok (.value (.bool (decide (xs = ys)))) w := by
  have heq := eql_arrs T e n k xs ys hu he hi hl hl2 w
  unfold execOp
  simp only [ho, hx, hy]
  simp [run_eqGuard_agg w _ _ _ _ _ _ hm, run_eql_struct, heq, Result.andThen]
theorem list_run_g {P : Program} {ops : Array Oper} {rest : List Oper} {o : Oper} {a : Act} {w : World} {Q : Exit → Act → World → Prop} (hw : Region.wanted o (yielded ops a.tmps) = true) (v : Value) (hrun : (execOp a.eval o).run P w = .ok (.value v) w) (h : wpList P ops Q rest (a.put o.dst v) w) : wpList P ops Q (o :: rest) a w :=
  wpList_step fun K hK => Go.Proofs.YtoiiacbbfhlocaaW.PrintWords.event_step hw hrun (hK _ _ h)
def Rows8 (m : Nat) (W : World) (A : Option Addr) (z : List (List Int)) : Prop := ∀ (i : Nat) (x : List Int), z[i]? = some x → ∃ b o, A = some ⟨b, o, none⟩ ∧ W.rangeAt b (o + i * m) (nums .u8 x)
theorem Rows8.next {m : Nat} {W W' : World} {A : Option Addr} {z : List (List Int)} (h : Rows8 m W A z) (hb : Below W.heap.size W W') : Rows8 m W' A z := fun i x hx => by
  obtain ⟨b, o, hA, hr⟩ := h i x hx
  exact ⟨b, o, hA, fun j v hv => (hb.cell (p := ⟨b, o + i * m + j, none⟩) (World.block_lt_of_cell? _ _ (hr j v hv))).trans (hr j v hv)⟩
attribute [local irreducible] sumF padX inF hmF jN jF
def checkF (key root : List Int) : List (List Int) → Nat → List Int → Bool
  | [], place, leaf => decide (place = 0) && decide (leaf = root)
  | x :: ws, place, leaf => if quad x (place % 4) = leaf then checkF key root ws (place / 4) (nodeF key x) else false
def wayF (key root : List Int) (z : List (List Int)) (place : Int) (leaf : List Int) : Bool := decide (0 ≤ place) && !z.isEmpty && checkF key root z place.toNat leaf
def TellsB (b : Bool) (w : World) (e : Ending) (w' : World) : Prop := e = .returned (.bool b) ∧ Below w.heap.size w w'
set_option maxRecDepth 100000 in
set_option maxHeartbeats 4000000 in
theorem check_any (A0 : Option Addr) (c0 : Nat) (key : List Int) (A1 : Option Addr) (n1 c1 : Nat) (z : List (List Int)) (place : Int) (leaf root : List Int) (w : World) (hr : Kd.C (Kd.int .u8) w A0 key.length key) (hc : key.length ≤ c0) (hl : key.length ≤ 1000)
    (hz : Rows8 128 w A1 z) (hzl : z.length = n1) (hn1 : n1 ≤ 1000) (hz8 : ∀ x ∈ z, x.length = 128) (hll : leaf.length = 32) (hrl : root.length = 32) (hp : place ≤ 9223372036854775807) :
    Calls Try.prog 79 #[.slice A0 key.length c0, .slice A1 n1 c1, .int .i64 place, .agg (nums .u8 leaf).toArray, .agg (nums .u8 root).toArray] w (TellsB (wayF key root z place leaf) w) := by
  have HR := Lib.hid hr
  have HZ := Lib.hid hz
  have HZL := Lib.hid hzl
  have HZ8 := Lib.hid hz8
  have HLL := Lib.hid hll
  have HRL := Lib.hid hrl
  obtain ⟨kn, hkn⟩ : ∃ n, n = key.length := ⟨_, rfl⟩
  have HKN := Lib.hid hkn
  rw [← hkn] at hc hl ⊢
  have hnode : ∀ (x : List Int), x.length = 128 → ∀ W, Below w.heap.size w W → Calls Try.prog 81 #[.slice A0 kn c0, .agg (nums .u8 x).toArray] W (GivesArr .u8 (nodeF key x) W) := fun x hx W hW => by
    have h := node_any A0 c0 key x hx W (Kd.C_below HR.out hW) (by rw [← HKN.out]; exact hc) (by rw [← HKN.out]; exact hl)
    rw [← HKN.out] at h
    exact h
  have HNODE := Lib.hid hnode
  clear hr hz hzl hz8 hll hrl hkn hnode
  unfold wayF
  by_cases hneg : place < 0
  · rw [show decide (0 ≤ place) = false from decide_eq_false (by omega), Bool.false_and, Bool.false_and]
    go_enter Try.func79, Try.ntmps79
    go_wp2_with (first
      | ((with_reducible refine gate_dst (N := 8) rfl ?_); refine arr_new rfl 24 .u8 leaf (by first | (go_simp; done) | (go_simp; rfl)) ?_; intro w1 hA1 hB1; have HB1 := Lib.hid hB1; clear hA1 hB1)
      | ((with_reducible refine gate_dst (N := 9) rfl ?_); refine arr_new rfl 24 .u8 root (by first | (go_simp; done) | (go_simp; rfl)) ?_; intro w2 hA2 hB2; have HB2 := Lib.hid (below_next HB1.out hB2); clear hA2 hB2))
    go_ret
    exact ⟨rfl, HB2.out⟩
  obtain ⟨p0, rfl⟩ := Int.eq_ofNat_of_zero_le (show 0 ≤ place by omega)
  rw [show decide (0 ≤ (p0 : Int)) = true from decide_eq_true (by omega), Bool.true_and, Int.toNat_natCast]
  by_cases hemp : n1 = 0
  · have hze : z = [] := by cases z with | nil => rfl | cons a t => have := HZL.out; simp at this; omega
    rw [hze]
    subst hemp
    go_enter Try.func79, Try.ntmps79
    go_wp2_with (first
      | ((with_reducible refine gate_dst (N := 8) rfl ?_); refine arr_new rfl 24 .u8 leaf (by first | (go_simp; done) | (go_simp; rfl)) ?_; intro w1 hA1 hB1; have HB1 := Lib.hid hB1; clear hA1 hB1)
      | ((with_reducible refine gate_dst (N := 9) rfl ?_); refine arr_new rfl 24 .u8 root (by first | (go_simp; done) | (go_simp; rfl)) ?_; intro w2 hA2 hB2; have HB2 := Lib.hid (below_next HB1.out hB2); clear hA2 hB2))
    go_ret
    exact ⟨rfl, HB2.out⟩
  have hnz : ¬ (n1 : Int) = 0 := by omega
  have hzb : (!z.isEmpty) = true := by cases z with | nil => have := HZL.out; simp at this; omega | cons a t => rfl
  rw [hzb, Bool.true_and]
  obtain ⟨RES, hRES⟩ : ∃ b, b = checkF key root z p0 leaf := ⟨_, rfl⟩
  rw [← hRES]
  have HRES := Lib.hid hRES
  clear hRES hzb hemp
  go_enter Try.func79, Try.ntmps79
  go_wp2_with (first
    | ((with_reducible refine gate_dst (N := 8) rfl ?_); refine arr_new rfl 24 .u8 leaf (by first | (go_simp; done) | (go_simp; rfl)) ?_; intro w1 hA1 hB1; have HA1 := Lib.hid hA1; have HB1 := Lib.hid hB1; clear hA1 hB1)
    | ((with_reducible refine gate_dst (N := 9) rfl ?_); refine arr_new rfl 24 .u8 root (by first | (go_simp; done) | (go_simp; rfl)) ?_; intro w2 hA2 hB2; have HA2 := Lib.hid hA2; have HL2 := Lib.hid (HA1.out.next hB2); have HB2 := Lib.hid (below_next HB1.out hB2); have HW1 := Lib.hid (show w.heap.size < w1.heap.size from HA1.out.lt); clear hA2 hB2))
  go_loopg [2, 22] n1 (fun gg s2 s22 wr => ∃ (k p : Nat) (lf : List Int), k ≤ n1 ∧ n1 - k ≤ gg ∧ p ≤ 9223372036854775807 ∧ s2 = .int .i64 p ∧ s22 = .int .i64 k ∧ lf.length = 32 ∧ Aside0 (checkF key root (z.drop k) p lf = RES) ∧ Aside0 (Arr .u8 24 wr w.heap.size lf) ∧ Aside0 (Arr .u8 24 wr w1.heap.size root) ∧ Aside0 (Below w.heap.size w wr))
  case atStart => exact ⟨0, p0, leaf, Nat.zero_le _, by omega, by omega, rfl, rfl, HLL.out, ⟨HRES.out.symm⟩, ⟨HL2.out⟩, ⟨HA2.out⟩, ⟨HB2.out⟩⟩
  case round =>
    clear HA1 HA2 HL2 HB1 HB2 HRES HLL
    obtain ⟨k, p, lf, hk, hg, hp2, rfl, rfl, hlf, HC, HL, HG, HB⟩ := hrel
    have HLL := Lib.hid hlf
    clear hlf
    obtain ⟨leaf, hleaf⟩ : ∃ l, l = lf := ⟨_, rfl⟩
    subst hleaf
    by_cases hlt : k < n1
    · have hltz : (k : Int) < (n1 : Int) := by omega
      have hk4 : ¬ (k : Int) < 0 := by omega
      have hk5 : k ≤ 9223372036854775807 := by omega
      obtain ⟨x, hx⟩ : ∃ x, z[k]? = some x := ⟨_, List.getElem?_eq_getElem (by rw [HZL.out]; exact hlt)⟩
      obtain ⟨b, o, rfl, hrange⟩ := HZ.out.next HB.out k x hx
      have HXL := Lib.hid (HZ8.out x (List.mem_of_getElem? hx))
      have HRG := Lib.hid hrange
      obtain ⟨q, hq⟩ : ∃ q, q = p % 4 := ⟨_, rfl⟩
      have hq0 : q < 4 := by omega
      have hq1 : (q : Int) < 4 := by omega
      have hq2 : ¬ (q : Int) < 0 := by omega
      have hq3 : q ≤ 9223372036854775807 := by omega
      have HQ := Lib.hid (show (p : Int).tmod 4 = (q : Int) from by rw [Int.tmod_eq_emod_of_nonneg (by omega)]; omega)
      have hstep : checkF key root (z.drop k) p leaf = if quad x q = leaf then checkF key root (z.drop (k + 1)) (p / 4) (nodeF key x) else false := by
        have hkz : k < z.length := by rw [HZL.out]; exact hlt
        rw [List.drop_eq_getElem_cons hkz]
        have e : z[k] = x := by rw [List.getElem?_eq_getElem hkz] at hx; exact Option.some.inj hx
        rw [e, checkF, hq]
      rw [hstep] at HC
      clear hx hq hstep hrange
      by_cases hqe : quad x q = leaf
      · rw [if_pos hqe] at HC
        go_wp2_with (first
          | ((with_reducible refine gate_dst (N := 25) rfl ?_); refine wpList_load_mid rfl 123 _ rfl b (o + k * 128) rfl (nums .u8 x) _ HRG.out Try.underlying123 rfl (by rw [show (nums .u8 x).length = 128 from by simp [nums, HXL.out]]; kernel_rfl) ?_)
          | ((with_reducible refine gate_dst (N := 12) rfl ?_); refine alloc_arr rfl 123 rfl .u8 (List.replicate 128 0) (fun w => Try.zeroValue123 w) (by first | (go_simp; done) | (go_simp; rfl)) ?_; intro w3 hA3 hB3)
          | ((with_reducible refine gate_store (t := 123) (p := 12) rfl ?_); refine store_arr rfl 123 _ _ rfl wr.heap.size .u8 x rfl rfl 123 _ hA3 (by rw [HXL.out]; rfl) (by rw [HXL.out]; kernel_rfl) ?_; intro w4 hA4 hw4; have hB4 := below_setRow hB3 wr.heap.size (Nat.le_refl _) (nums .u8 x).toArray; rw [← hw4] at hB4; have HA4 := Lib.hid hA4; have HL4 := Lib.hid (HL.out.next hB4); have HG4 := Lib.hid (HG.out.next hB4); have HB4 := Lib.hid (below_next HB.out hB4); clear hw4 hA4 hA3 hB3 hB4))
        obtain ⟨g12, hg12⟩ : ∃ g, g = wr.heap.size := ⟨_, rfl⟩
        rw [← hg12] at HA4 ⊢
        have HG12 := Lib.hid (show w.heap.size < g12 from by rw [hg12]; exact Nat.lt_of_lt_of_le HW1.out (by have := HG.out.lt; omega))
        clear hg12
        refine s_region (fun u => Below w4.drew.heap.size w4.drew u) (by kernel_rfl) 6 (by kernel_rfl) (Below.refl _ _) (fun hS => ?_)
        have HAd := Lib.hid (HA4.out.next (below_drew (Below.refl w4.heap.size w4)))
        have HLd := Lib.hid (HL4.out.next (below_drew (Below.refl w4.heap.size w4)))
        have HGd := Lib.hid (HG4.out.next (below_drew (Below.refl w4.heap.size w4)))
        have HBd := Lib.hid (below_drew HB4.out)
        generalize hwd : w4.drew = wd at *
        clear hwd HA4 HL4 HG4 HB4
        refine s_take 0 (_) hS rfl (by kernel_rfl) (by kernel_rfl) (by kernel_rfl) (fun _ _ _ h => h) rfl (fun w' hw' => run_move_at _ rfl w') ?_
        simp only [Act.put, List.setIfInBounds_toArray, List.set_cons_zero, List.set_cons_succ]
        refine s_take 1 (.int .i64 (q : Int)) hS rfl (by kernel_rfl) (by kernel_rfl) (by kernel_rfl) (fun _ _ _ h => h) rfl (fun w' hw' => by (have hc0 := HQ.out; unfold execOp; simp [go_sem, Act.put, Act.eval, hc0])) ?_
        simp only [Act.put, List.setIfInBounds_toArray, List.set_cons_zero, List.set_cons_succ]
        refine s_take 2 (.pointer (some ⟨g12, q * 32, none⟩)) hS rfl (by kernel_rfl) (by kernel_rfl) (by kernel_rfl) (fun _ _ _ h => h) rfl (fun w' hw' => by (have hc0 := hq1; have hc1 := hq2; have hc2 := hq3; unfold execOp; simp [go_sem, Act.put, Act.eval, hc0, hc1, hc2])) ?_
        simp only [Act.put, List.setIfInBounds_toArray, List.set_cons_zero, List.set_cons_succ]
        refine s_take 3 (.agg (nums .u8 (quad x q)).toArray) hS rfl (by kernel_rfl) (by kernel_rfl) (by kernel_rfl) (fun _ _ _ h => h) rfl (fun w' hw' => run_load_part 24 _ rfl g12 (q * 32) 32 rfl .u8 _ _ x (HAd.out.next hw') (by rw [HXL.out]; omega) Try.underlying24 rfl (by kernel_rfl)) ?_
        simp only [Act.put, List.setIfInBounds_toArray, List.set_cons_zero, List.set_cons_succ]
        refine s_take 4 (.agg (nums .u8 leaf).toArray) hS rfl (by kernel_rfl) (by kernel_rfl) (by kernel_rfl) (fun _ _ _ h => h) rfl (fun w' hw' => run_load_row 24 _ rfl w.heap.size rfl .u8 _ _ leaf (HLd.out.next hw') Try.underlying24 rfl (by rw [HLL.out]; kernel_rfl)) ?_
        simp only [Act.put, List.setIfInBounds_toArray, List.set_cons_zero, List.set_cons_succ]
        refine s_take 5 (.bool false) hS rfl (by kernel_rfl) (by kernel_rfl) (by kernel_rfl) (fun _ _ _ h => h) rfl (fun w' hw' => (run_neq_arrs 24 _ _ _ rfl .u8 (quad x q) leaf rfl rfl (by kernel_rfl) 32 5 Try.underlying24 Try.underlying5 (by kernel_rfl) (quad_length x HXL.out q (by omega)) HLL.out w').trans (by rw [decide_eq_true hqe]; rfl)) ?_
        simp only [Act.put, List.setIfInBounds_toArray, List.set_cons_zero, List.set_cons_succ]
        refine s_done (by kernel_rfl) ?_
        clear hS
        go_wp2_with (first
          | ((with_reducible refine gate_dst (N := 33) rfl ?_); refine load_row rfl 123 _ rfl g12 rfl .u8 _ _ x HAd.out Try.underlying123 rfl (by rw [HXL.out]; kernel_rfl) ?_)
          | (go_at_call 81; refine (HNODE.out x HXL.out _ HBd.out).mono ?_; rintro e w6 ⟨rfl, hb6⟩; have HL6 := Lib.hid (HLd.out.next hb6); have HG6 := Lib.hid (HGd.out.next hb6); have HB6 := Lib.hid (below_next HBd.out hb6); clear hb6)
          | ((with_reducible refine gate_store (t := 24) (p := 8) rfl ?_); refine store_arr rfl 24 _ _ rfl w.heap.size .u8 (nodeF key x) rfl rfl 24 _ HL6.out (by rw [HLL.out]; exact (nodeF_length _ _).symm) (by rw [nodeF_length]; kernel_rfl) ?_; intro w7 hA7 hw7; have hB7 := below_setRow HB6.out w.heap.size (Nat.le_refl _) (nums .u8 (nodeF key x)).toArray; have hG7 := HG6.out.setRow_far w.heap.size (Nat.ne_of_gt HW1.out) (nums .u8 (nodeF key x)).toArray; rw [← hw7] at hB7 hG7; have HL7 := Lib.hid hA7; have HG7 := Lib.hid hG7; have HB7 := Lib.hid hB7; clear hw7 hA7 hB7 hG7))
        go_roundg (n1 - (k + 1))
        case measure => omega
        case rel => exact ⟨k + 1, p / 4, nodeF key x, by omega, by omega, by omega, by go_num, by go_num, nodeF_length _ _, ⟨HC.out⟩, ⟨HL7.out⟩, ⟨HG7.out⟩, ⟨HB7.out⟩⟩
      · rw [if_neg hqe] at HC
        go_wp2_with (first
          | ((with_reducible refine gate_dst (N := 25) rfl ?_); refine wpList_load_mid rfl 123 _ rfl b (o + k * 128) rfl (nums .u8 x) _ HRG.out Try.underlying123 rfl (by rw [show (nums .u8 x).length = 128 from by simp [nums, HXL.out]]; kernel_rfl) ?_)
          | ((with_reducible refine gate_dst (N := 12) rfl ?_); refine alloc_arr rfl 123 rfl .u8 (List.replicate 128 0) (fun w => Try.zeroValue123 w) (by first | (go_simp; done) | (go_simp; rfl)) ?_; intro w3 hA3 hB3)
          | ((with_reducible refine gate_store (t := 123) (p := 12) rfl ?_); refine store_arr rfl 123 _ _ rfl wr.heap.size .u8 x rfl rfl 123 _ hA3 (by rw [HXL.out]; rfl) (by rw [HXL.out]; kernel_rfl) ?_; intro w4 hA4 hw4; have hB4 := below_setRow hB3 wr.heap.size (Nat.le_refl _) (nums .u8 x).toArray; rw [← hw4] at hB4; have HA4 := Lib.hid hA4; have HL4 := Lib.hid (HL.out.next hB4); have HG4 := Lib.hid (HG.out.next hB4); have HB4 := Lib.hid (below_next HB.out hB4); clear hw4 hA4 hA3 hB3 hB4))
        obtain ⟨g12, hg12⟩ : ∃ g, g = wr.heap.size := ⟨_, rfl⟩
        rw [← hg12] at HA4 ⊢
        clear hg12
        refine s_region (fun u => Below w4.drew.heap.size w4.drew u) (by kernel_rfl) 6 (by kernel_rfl) (Below.refl _ _) (fun hS => ?_)
        have HAd := Lib.hid (HA4.out.next (below_drew (Below.refl w4.heap.size w4)))
        have HLd := Lib.hid (HL4.out.next (below_drew (Below.refl w4.heap.size w4)))
        have HGd := Lib.hid (HG4.out.next (below_drew (Below.refl w4.heap.size w4)))
        have HBd := Lib.hid (below_drew HB4.out)
        generalize hwd : w4.drew = wd at *
        clear hwd HA4 HL4 HG4 HB4
        refine s_take 0 (_) hS rfl (by kernel_rfl) (by kernel_rfl) (by kernel_rfl) (fun _ _ _ h => h) rfl (fun w' hw' => run_move_at _ rfl w') ?_
        simp only [Act.put, List.setIfInBounds_toArray, List.set_cons_zero, List.set_cons_succ]
        refine s_take 1 (.int .i64 (q : Int)) hS rfl (by kernel_rfl) (by kernel_rfl) (by kernel_rfl) (fun _ _ _ h => h) rfl (fun w' hw' => by (have hc0 := HQ.out; unfold execOp; simp [go_sem, Act.put, Act.eval, hc0])) ?_
        simp only [Act.put, List.setIfInBounds_toArray, List.set_cons_zero, List.set_cons_succ]
        refine s_take 2 (.pointer (some ⟨g12, q * 32, none⟩)) hS rfl (by kernel_rfl) (by kernel_rfl) (by kernel_rfl) (fun _ _ _ h => h) rfl (fun w' hw' => by (have hc0 := hq1; have hc1 := hq2; have hc2 := hq3; unfold execOp; simp [go_sem, Act.put, Act.eval, hc0, hc1, hc2])) ?_
        simp only [Act.put, List.setIfInBounds_toArray, List.set_cons_zero, List.set_cons_succ]
        refine s_take 3 (.agg (nums .u8 (quad x q)).toArray) hS rfl (by kernel_rfl) (by kernel_rfl) (by kernel_rfl) (fun _ _ _ h => h) rfl (fun w' hw' => run_load_part 24 _ rfl g12 (q * 32) 32 rfl .u8 _ _ x (HAd.out.next hw') (by rw [HXL.out]; omega) Try.underlying24 rfl (by kernel_rfl)) ?_
        simp only [Act.put, List.setIfInBounds_toArray, List.set_cons_zero, List.set_cons_succ]
        refine s_take 4 (.agg (nums .u8 leaf).toArray) hS rfl (by kernel_rfl) (by kernel_rfl) (by kernel_rfl) (fun _ _ _ h => h) rfl (fun w' hw' => run_load_row 24 _ rfl w.heap.size rfl .u8 _ _ leaf (HLd.out.next hw') Try.underlying24 rfl (by rw [HLL.out]; kernel_rfl)) ?_
        simp only [Act.put, List.setIfInBounds_toArray, List.set_cons_zero, List.set_cons_succ]
        refine s_take 5 (.bool true) hS rfl (by kernel_rfl) (by kernel_rfl) (by kernel_rfl) (fun _ _ _ h => h) rfl (fun w' hw' => (run_neq_arrs 24 _ _ _ rfl .u8 (quad x q) leaf rfl rfl (by kernel_rfl) 32 5 Try.underlying24 Try.underlying5 (by kernel_rfl) (quad_length x HXL.out q (by omega)) HLL.out w').trans (by rw [decide_eq_false hqe]; rfl)) ?_
        simp only [Act.put, List.setIfInBounds_toArray, List.set_cons_zero, List.set_cons_succ]
        refine s_done (by kernel_rfl) ?_
        clear hS
        go_wp2
        go_ret
        refine ⟨by rw [← HC.out]; rfl, HBd.out⟩
    · have hltz : ¬ (k : Int) < (n1 : Int) := by omega
      have HC2 := Lib.hid (show (decide (p = 0) && decide (leaf = root)) = RES from by
        have h := HC.out
        rw [List.drop_eq_nil_of_le (by rw [HZL.out]; omega)] at h
        exact h)
      by_cases hp0 : p = 0
      · subst hp0
        go_wp2_with (first
          | ((with_reducible refine gate_dst (N := 41) rfl ?_); refine list_run_g (by rfl) _ (run_load_row 24 _ rfl w.heap.size rfl .u8 _ _ leaf HL.out Try.underlying24 rfl (by rw [HLL.out]; kernel_rfl)) ?_)
          | ((with_reducible refine gate_dst (N := 42) rfl ?_); refine list_run_g (by rfl) _ (run_load_row 24 _ rfl w1.heap.size rfl .u8 _ _ root HG.out Try.underlying24 rfl (by rw [HRL.out]; kernel_rfl)) ?_)
          | ((with_reducible refine gate_dst (N := 43) rfl ?_); refine list_run_g (by rfl) _ (run_eql_arrs 24 _ _ _ rfl .u8 leaf root rfl rfl (by kernel_rfl) 32 5 Try.underlying24 Try.underlying5 (by kernel_rfl) HLL.out HRL.out _) ?_))
        go_ret
        refine ⟨?_, HB.out⟩
        rw [← HC2.out]
        simp
      · have hp1 : ¬ (p : Int) = 0 := by omega
        have hp3 : ((p : Int) == 0) = false := by simpa using hp1
        go_wp2
        go_ret
        refine ⟨?_, HB.out⟩
        rw [← HC2.out, decide_eq_false hp0]
        rfl
end Go.Proofs.Ytoiiacbbfhlocaa.HMa
end
section
set_option linter.unusedVariables false
set_option linter.unusedSimpArgs false
namespace Go.Proofs.Ytoiiacbbfhlocaa.HMa
open Go.RowKit Go.Proofs.YtoiiacbbfhlocaaW.PrintWords Go.Proofs.YtoiiacbbfhlocaaW.PrintLast Go.Proofs.YtoiiacbbfhlocaaW.PrintMore Go.Proofs.Ytoiiacbbfhlocaa.Kit Go.Proofs.Ytoiiacbbfhlocaa.HHa Go.Proofs.Ytoiiacbbfhlocaa.HSa
attribute [local irreducible] sumF padX inF hmF jN jF kF padK
theorem C_move8 {w w1 : World} {A : Option Addr} {n : Nat} {xs : List Int} (h : Kd.C (Kd.int .u8) w A n xs) (hm : ∀ a, A = some a → w1.heap[a.block]? = w.heap[a.block]?) : Kd.C (Kd.int .u8) w1 A n xs := by
  have hr := Kd.reads_of_C (enc := Value.int .u8) (d := (0 : Int)) (h1 := fun _ => rfl) h
  refine Kd.C_of_reads (d := (0 : Int)) (h1 := fun _ => rfl) ⟨hr.1, hr.2.1, fun hn => ?_⟩
  obtain ⟨ad, e, hc⟩ := hr.2.2 hn
  refine ⟨ad, e, fun j hj => ?_⟩
  rw [← hc j hj]
  unfold World.cell?
  rw [show (ad.add j).block = ad.block from by unfold Addr.add; split <;> rfl, hm ad e]
def PartOk (W : World) (v : Value) (x : List Int) (u : Value) : Prop := ∃ (ad : Addr) (c : Nat), u = .slice (some ad) x.length c ∧ x.length ≤ c ∧ Kd.C (Kd.int .u8) W (some ad) x.length x ∧ ad.block < W.heap.size ∧ v.ownBlock ≠ some ad.block
theorem PartOk.grown {W W1 : World} {v v1 u : Value} {x : List Int} (h : PartOk W v x u) (hg : W.grownBy W1 v.ownBlock) (hat : v1.ownBlock = v.ownBlock ∨ ∃ b, v1.ownBlock = some b ∧ W.heap.size ≤ b) : PartOk W1 v1 x u := by
  obtain ⟨ad, c, hu, hc, hC, hlt, hne⟩ := h
  refine ⟨ad, c, hu, hc, C_move8 hC (fun a ha => ?_), Nat.lt_of_lt_of_le hlt hg.size, ?_⟩
  · obtain rfl := Option.some.inj ha
    exact hg.block _ hlt (fun e => hne e.symm)
  · rcases hat with hat | ⟨b, hb, hle⟩
    · rw [hat]; exact hne
    · rw [hb]; intro e; have := Option.some.inj e; omega
theorem PartOk.next {W W1 : World} {v u : Value} {x : List Int} (h : PartOk W v x u) (hb : Below W.heap.size W W1) : PartOk W1 v x u := by
  obtain ⟨ad, c, hu, hc, hC, hlt, hne⟩ := h
  exact ⟨ad, c, hu, hc, Kd.C_below hC hb, Nat.lt_of_lt_of_le hlt hb.size, hne⟩
theorem bytes_back (xs : List Int) (h : Bytes xs) : bytesOf (strOfNums xs) = xs := by
  unfold bytesOf
  rw [strOfNums_data, List.map_map]
  refine (List.map_congr_left (fun x hx => ?_)).trans (List.map_id xs)
  obtain ⟨h0, h1⟩ := h x hx
  obtain ⟨n, rfl⟩ := Int.eq_ofNat_of_zero_le h0
  simp only [Function.comp_apply, Int.toNat_natCast, id]
  rw [UInt8.toNat_ofNat', Nat.mod_eq_of_lt (by omega)]
theorem own_lt {w : World} {base e size n : Nat} {v : Value} {xs : List Value} (hr : w.ownsRow base e size v n xs) (k : Nat) (hk : v.ownBlock = some k) : k < w.heap.size := by
  rcases hr.2 with ⟨rfl, -⟩ | ⟨g, cap, cur, rfl, -, hh, -⟩
  · cases hk
  · simp only [Value.ownBlock, Option.some.injEq] at hk
    subst hk
    exact (Array.getElem?_eq_some_iff.1 hh).1
theorem own_below {w w1 : World} {base e size n : Nat} {v : Value} {xs : List Value} (h : w.ownsRow base e size v n xs) (hb : Below w.heap.size w w1) : w1.ownsRow base e size v n xs := pw_own_below h hb
def nodeR (key : List Int) (four : List (List Int)) : List Int := hmF key (jF (tNode :: four))
theorem nodeR_eq (key xs : List Int) : nodeR key [quad xs 0, quad xs 1, quad xs 2, quad xs 3] = nodeF key xs := rfl
theorem four_small (four : List (List Int)) (h4 : four.length = 4) (h32 : ∀ x ∈ four, x.length = 32) : ∀ k, k ≤ (tNode :: four).length → (jN (tNode :: four) k).length ≤ 90000 := by
  intro k hk
  have hk5 : k ≤ 5 := by rw [List.length_cons, h4] at hk; exact hk
  have := jN_small (tNode :: four) 32 (fun j hj => by
    cases j with
    | zero => show tNode.length ≤ 32; decide
    | succ j =>
      rw [List.getD_cons_succ]
      have hj4 : j < four.length := by rw [List.length_cons] at hj; omega
      rw [List.getD_eq_getElem?_getD, List.getElem?_eq_getElem hj4]
      exact Nat.le_of_eq (h32 _ (List.getElem_mem hj4))) k hk
  omega
def TellsS (s : List Int) (w : World) (e : Ending) (w' : World) : Prop := e = .returned (.string (strOfNums s)) ∧ Below w.heap.size w w'
def SRow (W : World) (A : Option Addr) (z : List (List Int)) : Prop := ∀ (i : Nat) (x : List Int), z[i]? = some x → ∃ b o, A = some ⟨b, o, none⟩ ∧ W.cell? ⟨b, o + i, none⟩ = some (.string (strOfNums x))
theorem SRow.next {W W' : World} {A : Option Addr} {z : List (List Int)} (h : SRow W A z) (hb : Below W.heap.size W W') : SRow W' A z := fun i x hx => by
  obtain ⟨b, o, hA, hc⟩ := h i x hx
  exact ⟨b, o, hA, (hb.cell (p := ⟨b, o + i, none⟩) (World.block_lt_of_cell? _ _ hc)).trans hc⟩
set_option maxHeartbeats 4000000 in
set_option maxRecDepth 100000 in
theorem rnode_any (g : Nat) (key : List Int) (AK : Option Addr) (cK : Nat) (AR : Option Addr) (cR : Nat) (AC : Option Addr) (cC : Nat) (A1 : Option Addr) (c1 : Nat) (four : List (List Int)) (w : World) (hK : KeyAt w g (padK key) AK cK AR cR AC cC) (hkb : Bytes key)
    (h4 : four.length = 4) (h32 : ∀ x ∈ four, x.length = 32) (hb4 : ∀ x ∈ four, Bytes x) (hS : SRow w A1 four) : Calls Try.prog 116 #[.pointer (some ⟨g, 0, none⟩), .slice A1 4 c1] w (TellsS (nodeR key four) w) := by
  have HK := Lib.hid hK
  have HS := Lib.hid hS
  have H4 := Lib.hid h4
  have H32 := Lib.hid h32
  have HB4 := Lib.hid hb4
  have HKB := Lib.hid hkb
  have kb := fun (x : List Int) W => print_bytes (P := Try.prog) 9 29 5 Try.underlying9 Try.underlying29 Try.underlying5 (strOfNums x) W
  have kc1 := fun (C : Array Value) (n c : Nat) => Lib.run_convert_bytes_const (P := Try.prog) w 29 5 C n c Try.underlying29 Try.underlying5
  have HKB2 := Lib.hid kb
  clear hK hS h4 h32 hb4 hkb kb
  go_enter Try.func116, Try.ntmps116
  go_wp2
  obtain ⟨w3, hw3⟩ : ∃ w3, w3 = w.alloc (.cells (nums .u8 tNode).toArray 5 (4, 5)) := ⟨_, rfl⟩
  have hs3 : w3.heap.size = w.heap.size + 1 := by rw [hw3]; show (w.heap.push _).size = _; rw [Array.size_push]
  have hB3 : Below w.heap.size w w3 := by rw [hw3]; exact below_alloc (Below.refl _ _) _
  have HLIT := Lib.hid (show Kd.C (Kd.int .u8) w3 (some ⟨w.heap.size, 0, none⟩) 4 tNode from by rw [hw3]; exact lit_C w _ _ tNode 4 rfl (by decide))
  have HB3 := Lib.hid hB3
  have HO3 := Lib.hid (show (w3.alloc (.cells #[.slice (some ⟨w.heap.size, 0, none⟩) 4 4] 29)).ownsRow w3.heap.size 29 1 (.slice (some ⟨w3.heap.size, 0, none⟩) 1 1) 1 [.slice (some ⟨w.heap.size, 0, none⟩) 4 4] from ⟨rfl, .inr ⟨w3.heap.size, 1, #[.slice (some ⟨w.heap.size, 0, none⟩) 4 4], rfl, Nat.le_refl _, heap_alloc_new w3 _, Nat.le_refl _, by decide, rfl, rfl⟩⟩)
  have HP3 := Lib.hid (show PartOk (w3.alloc (.cells #[.slice (some ⟨w.heap.size, 0, none⟩) 4 4] 29)) (.slice (some ⟨w3.heap.size, 0, none⟩) 1 1) tNode (.slice (some ⟨w.heap.size, 0, none⟩) 4 4) from ⟨⟨w.heap.size, 0, none⟩, 4, rfl, Nat.le_refl _, Kd.C_below HLIT.out (below_alloc (Below.refl _ _) _), by have := (below_alloc (Below.refl w3.heap.size w3) (.cells #[.slice (some ⟨w.heap.size, 0, none⟩) 4 4] 29)).size; show w.heap.size < _; omega, fun e => by have h : w3.heap.size = w.heap.size := Option.some.inj e; omega⟩)
  rw [← hs3]
  first
    | rw [show (w.alloc (.cells #[.int .u8 110, .int .u8 111, .int .u8 100, .int .u8 101] 5 (4, 5))) = w3 from hw3.symm]
    | skip
  have HW3 := Lib.hid (show w.heap.size ≤ w3.heap.size from by omega)
  clear hw3 hs3 hB3 kc1
  go_loopg [5, 6] 4 (fun gg v5 s6 wr => ∃ (k : Nat) (us : List Value), k ≤ 4 ∧ 4 - k ≤ gg ∧ s6 = .int .i64 k ∧ us.length = k + 1 ∧ Aside0 (Below w3.heap.size w3 wr) ∧ Aside0 (wr.ownsRow w3.heap.size 29 1 v5 (k + 1) us) ∧ Aside0 (∀ (j : Nat) (x : List Int) (u : Value), (tNode :: four)[j]? = some x → us[j]? = some u → PartOk wr v5 x u))
  case atStart => exact ⟨0, _, Nat.zero_le _, by omega, rfl, rfl, ⟨below_alloc (Below.refl _ _) _⟩, ⟨HO3.out⟩, ⟨fun j x u hx hu => by
    cases j with
    | zero =>
      simp only [List.getElem?_cons_zero, Option.some.injEq] at hx hu
      subst hx
      subst hu
      exact HP3.out
    | succ j => simp at hu⟩⟩
  case round =>
    clear HO3 HP3
    obtain ⟨k, us, hk, hg, rfl, hus, BW, HO, HP⟩ := hrel
    have HUS := Lib.hid hus
    clear hus
    by_cases hlt : k < 4
    · have hltz : (k : Int) < 4 := by omega
      have hk2 : ¬ (k : Int) < 0 := by omega
      have hk3 : k ≤ 9223372036854775807 := by omega
      obtain ⟨x, hx⟩ : ∃ x, four[k]? = some x := ⟨_, List.getElem?_eq_getElem (by rw [H4.out]; exact hlt)⟩
      obtain ⟨b, o, rfl, hcell⟩ := HS.out.next (below_next HB3.out BW.out) k x hx
      have hxl := H32.out x (List.mem_of_getElem? hx)
      have hxb := HB4.out x (List.mem_of_getElem? hx)
      have kbx := HKB2.out x
      have hsz : (strOfNums x).size = 32 := (strOfNums_size x).trans hxl
      rw [hsz] at kbx
      have hCn : Kd.C (Kd.int .u8) (Lib.bytesWorld wr 5 (strOfNums x)) (some ⟨wr.heap.size, 0, none⟩) x.length x := by
        have h := bytes_reads wr 5 (strOfNums x) (by rw [hsz]; omega)
        rw [bytes_back x hxb, hsz, ← hxl] at h
        exact Kd.C_of_reads (d := (0 : Int)) (h1 := fun _ => rfl) h
      have HCN := Lib.hid hCn
      have HX := Lib.hid hx
      have HXL := Lib.hid hxl
      have hbs := Lib.bytesWorld_size wr 5 (strOfNums x)
      have HBS := Lib.hid hbs
      clear hx hxl hxb hsz hCn hbs
      go_wp2_with (((with_reducible refine gate_builtin (b := .append) (xs := #[.tmp 14, .tmp 20]) rfl ?_); at_builtin; refine blk ?_))
      refine ⟨?_⟩
      have hbw := bytes_below (Below.refl wr.heap.size wr) (Nat.le_refl _) 5 (strOfNums x)
      have HBW := Lib.hid (below_next BW.out hbw)
      have hOb := own_below HO.out hbw
      refine print_append_cells (w0 := w3) w3.heap.size rfl (.tmp 14) (.tmp 20) 177 29 (.slice none 0 0) 1 24 rfl Try.underlying177 infoRow rfl (by decide) (by decide) u5 (k + 1) us [.slice (some ⟨wr.heap.size, 0, none⟩) 32 (grownCap wr 32 0 5)] rfl rfl rfl (by simp [Value.oneCell']) hOb HBW.out HBW.out.size (by omega) ?_
      intro v1 w8 ho hb hg8 hat
      have HO8 := Lib.hid ho
      have HB8 := Lib.hid hb
      have HP8 := Lib.hid (show ∀ (j : Nat) (y : List Int) (u : Value), (tNode :: four)[j]? = some y → (us ++ [.slice (some ⟨wr.heap.size, 0, none⟩) 32 (grownCap wr 32 0 5)])[j]? = some u → PartOk w8 v1 y u from fun j y u hy hu => by
        by_cases hj : j < k + 1
        · rw [List.getElem?_append_left (by rw [HUS.out]; exact hj)] at hu
          exact ((HP.out j y u hy hu).next hbw).grown hg8 hat
        · have hjk : j = k + 1 := by
            have := (List.getElem?_eq_some_iff.1 hu).1
            rw [List.length_append, List.length_singleton, HUS.out] at this
            omega
          subst hjk
          rw [List.getElem?_append_right (by rw [HUS.out]; exact Nat.le_refl _), HUS.out, Nat.sub_self] at hu
          simp only [List.getElem?_cons_zero, Option.some.injEq] at hu
          subst hu
          rw [List.getElem?_cons_succ, HX.out] at hy
          obtain rfl := Option.some.inj hy
          have hp : PartOk (Lib.bytesWorld wr 5 (strOfNums x)) u5 x (.slice (some ⟨wr.heap.size, 0, none⟩) 32 (grownCap wr 32 0 5)) :=
            ⟨⟨wr.heap.size, 0, none⟩, _, by rw [HXL.out], by rw [HXL.out]; exact grownCap_ge _ _ _ _, HCN.out, by rw [HBS.out]; show wr.heap.size < _; omega, fun e => by have h1 := own_lt HO.out _ e; have h2 : wr.heap.size < wr.heap.size := h1; omega⟩
          exact hp.grown hg8 hat)
      clear ho hb hg8 hat hbw hOb
      go_wp2
      go_roundg (4 - (k + 1))
      case measure => omega
      case rel => exact ⟨k + 1, _, by omega, by omega, by go_num, by rw [List.length_append, List.length_singleton, HUS.out], ⟨HB8.out⟩, ⟨HO8.out⟩, ⟨HP8.out⟩⟩
    · have hltz : ¬ (k : Int) < 4 := by omega
      obtain rfl : k = 4 := by omega
      obtain ⟨g5, c5, rfl⟩ := ownsRow_succ HO.out
      have hc5 : 5 ≤ c5 := by
        rcases HO.out.2 with ⟨h, -⟩ | ⟨g', cap, cur, hv, -, -, hn, -⟩
        · cases h
        · obtain ⟨-, -, rfl⟩ := Value.slice.inj hv
          exact hn
      have hC := rows_of (k := .u8) (e := 5) (W := wr) (A := some ⟨g5, 0, none⟩) (ps := tNode :: four) (n := 5) (by rw [List.length_cons, H4.out]) (by decide) g5 (fun _ => rfl) (fun j hj => by
        have hjt : j < (tNode :: four).length := by rw [List.length_cons, H4.out]; exact hj
        have hju : j < us.length := by rw [HUS.out]; exact hj
        have hy := List.getElem?_eq_getElem hjt
        have hu := List.getElem?_eq_getElem hju
        obtain ⟨ad, c, e, hc, hCC, -, -⟩ := HP.out j _ _ hy hu
        have hcell := World.ownsRow.cells HO.out (g := g5) rfl j _ hu
        rw [add_plain, e] at hcell
        have hd : (tNode :: four).getD j [] = (tNode :: four)[j] := by rw [List.getD_eq_getElem?_getD, hy]; rfl
        rw [hd]
        exact ⟨_, _, hcell, hc, hCC⟩)
      obtain ⟨ps, hps⟩ : ∃ ps, ps = tNode :: four := ⟨_, rfl⟩
      have hps5 : ps.length = 5 := by rw [hps, List.length_cons, H4.out]
      rw [← hps] at hC
      have hj : Calls Try.prog 131 #[.slice (some ⟨g5, 0, none⟩) 5 c5] wr (OutB wr (jF ps)) := by
        have h := joined_any (some ⟨g5, 0, none⟩) c5 ps wr (by rw [hps5]; exact hC) (by rw [hps5]; exact hc5) (by rw [hps5]; decide) (by rw [hps]; exact four_small four H4.out H32.out)
        rw [hps5] at h
        exact h
      have HJL := Lib.hid (show (jF ps).length ≤ 90000 from by unfold jF; exact (by rw [hps]; exact four_small four H4.out H32.out _ (Nat.le_refl _)))
      have HJB := Lib.hid (show Bytes (jF ps) from by
        unfold jF
        refine jN_bytes ps (fun p hp => ?_) _
        rw [hps] at hp
        rcases List.mem_cons.1 hp with rfl | hp
        · intro y hy
          simp only [tNode, List.mem_cons, List.not_mem_nil, or_false] at hy
          rcases hy with rfl | rfl | rfl | rfl <;> decide
        · exact HB4.out p hp)
      have HRES := Lib.hid (show kF (padK key) (jF ps) = nodeR key four from by rw [kF_eq, hps]; rfl)
      have HBR := Lib.hid (below_next HB3.out BW.out)
      have HKw := Lib.hid (HK.out.next HBR.out)
      clear hC hps hc5 HO HP BW hps5
      go_wp2_with (first
        | (go_at_call 131; refine hj.mono ?_; rintro e w6 ⟨v6, rfl, hO6, hb6⟩; obtain ⟨A6, c6, e6, hc6, hr6⟩ := Kd.R_reads hO6; subst e6; have HR6 := Lib.hid hr6; have HK6 := Lib.hid (HKw.out.next hb6); have HB6 := Lib.hid (below_next HBR.out hb6); clear hO6 hr6 hb6)
        | (go_at_call 130; refine (show Calls _ _ _ _ (OutB w6 (nodeR key four)) from (by have h := ksum_any g (padK key) AK cK AR cR AC cC A6 c6 (jF ps) w6 HK6.out (padK_length key) (padK_bytes key HKB.out) HR6.out hc6 HJL.out HJB.out; rw [HRES.out] at h; exact h)).mono ?_; rintro e w7 ⟨v7, rfl, hO7, hb7⟩; obtain ⟨A7, c7, e7, hc7, hr7⟩ := Kd.R_reads hO7; subst e7; have hst := Kd.C_string (P := Try.prog) (dst := 9) (c := c7) Try.underlying29 Try.underlying5 Try.underlying9 hr7; have HB7 := Lib.hid (below_next HB6.out hb7); clear hO7 hr7 hb7))
      go_ret
      exact ⟨rfl, HB7.out⟩
end Go.Proofs.Ytoiiacbbfhlocaa.HMa
end
section
set_option linter.unusedVariables false
set_option linter.unusedSimpArgs false
namespace Go.Proofs.Ytoiiacbbfhlocaa.HMa
open Go.RowKit Go.Proofs.YtoiiacbbfhlocaaW.PrintWords Go.Proofs.YtoiiacbbfhlocaaW.PrintLast Go.Proofs.YtoiiacbbfhlocaaW.PrintMore Go.Proofs.Ytoiiacbbfhlocaa.Kit Go.Proofs.Ytoiiacbbfhlocaa.HHa Go.Proofs.Ytoiiacbbfhlocaa.HSa
theorem nodeF_bytes (k x : List Int) : Bytes (nodeF k x) := by unfold nodeF hmF; exact sumF_bytes _
attribute [local irreducible] sumF padX inF hmF jN jF kF padK
def fourF (x : List Int) : List (List Int) := [quad x 0, quad x 1, quad x 2, quad x 3]
theorem fourF_at (x : List Int) (q : Nat) (hq : q < 4) : (fourF x)[q]? = some (quad x q) := by
  match q, hq with
  | 0, _ => rfl
  | 1, _ => rfl
  | 2, _ => rfl
  | 3, _ => rfl
theorem quad_bytes {x : List Int} (h : Bytes x) (q : Nat) : Bytes (quad x q) := fun y hy => h y (List.mem_of_mem_drop (List.mem_of_mem_take hy))
theorem str_same (a b : List Int) (ha : Bytes a) (hb : Bytes b) : ((strOfNums a).toList == (strOfNums b).toList) = decide (a = b) := by rw [str_beq, part_same a b ha hb]
def SWay (W : World) (A : Option Addr) (z : List (List Int)) : Prop := ∀ (i : Nat) (x : List Int), z[i]? = some x → ∃ b o A2 c2, A = some ⟨b, o, none⟩ ∧ W.cell? ⟨b, o + i, none⟩ = some (.slice A2 4 c2) ∧ 4 ≤ c2 ∧ SRow W A2 (fourF x)
theorem SWay.next {W W' : World} {A : Option Addr} {z : List (List Int)} (h : SWay W A z) (hb : Below W.heap.size W W') : SWay W' A z := fun i x hx => by
  obtain ⟨b, o, A2, c2, hA, hc, h2, hs⟩ := h i x hx
  exact ⟨b, o, A2, c2, hA, (hb.cell (p := ⟨b, o + i, none⟩) (World.block_lt_of_cell? _ _ hc)).trans hc, h2, hs.next hb⟩
set_option maxRecDepth 100000 in
set_option maxHeartbeats 4000000 in
theorem rcheck_any (g : Nat) (key : List Int) (AK : Option Addr) (cK : Nat) (AR : Option Addr) (cR : Nat) (AC : Option Addr) (cC : Nat) (A1 : Option Addr) (n1 c1 : Nat) (z : List (List Int)) (place : Int) (leaf root : List Int) (w : World) (hK : KeyAt w g (padK key) AK cK AR cR AC cC) (hkb : Bytes key)
    (hz : SWay w A1 z) (hzl : z.length = n1) (hn1 : n1 ≤ 1000) (hz8 : ∀ x ∈ z, x.length = 128) (hzb : ∀ x ∈ z, Bytes x) (hlb : Bytes leaf) (hrb : Bytes root) (hp : place ≤ 9223372036854775807) :
    Calls Try.prog 80 #[.pointer (some ⟨g, 0, none⟩), .slice A1 n1 c1, .int .i64 place, .string (strOfNums leaf), .string (strOfNums root)] w (TellsB (wayF key root z place leaf) w) := by
  have HK := Lib.hid hK
  have HZ := Lib.hid hz
  have HZL := Lib.hid hzl
  have HZ8 := Lib.hid hz8
  have HZB := Lib.hid hzb
  have HKB := Lib.hid hkb
  have HRB := Lib.hid hrb
  have HLB := Lib.hid hlb
  have hnode : ∀ (x : List Int), x ∈ z → ∀ (A2 : Option Addr) (c2 : Nat) (W : World), Below w.heap.size w W → SRow W A2 (fourF x) → Calls Try.prog 116 #[.pointer (some ⟨g, 0, none⟩), .slice A2 4 c2] W (TellsS (nodeF key x) W) := fun x hx A2 c2 W hW hS => by
    have hx8 := hz8 x hx
    have h := rnode_any g key AK cK AR cR AC cC A2 c2 (fourF x) W (HK.out.next hW) HKB.out rfl (fun y hy => by
      simp only [fourF, List.mem_cons, List.not_mem_nil, or_false] at hy
      rcases hy with rfl | rfl | rfl | rfl
      · exact quad_length x hx8 0 (by omega)
      · exact quad_length x hx8 1 (by omega)
      · exact quad_length x hx8 2 (by omega)
      · exact quad_length x hx8 3 (by omega)) (fun y hy => by
      simp only [fourF, List.mem_cons, List.not_mem_nil, or_false] at hy
      rcases hy with rfl | rfl | rfl | rfl <;> exact quad_bytes (HZB.out x hx) _) hS
    exact h
  have HNODE := Lib.hid hnode
  clear hK hz hzl hz8 hzb hkb hrb hlb hnode
  unfold wayF
  by_cases hneg : place < 0
  · rw [show decide (0 ≤ place) = false from decide_eq_false (by omega), Bool.false_and, Bool.false_and]
    go_enter Try.func80, Try.ntmps80
    go_wp2_with fail
    go_ret
    exact ⟨rfl, Below.refl _ _⟩
  obtain ⟨p0, rfl⟩ := Int.eq_ofNat_of_zero_le (show 0 ≤ place by omega)
  rw [show decide (0 ≤ (p0 : Int)) = true from decide_eq_true (by omega), Bool.true_and, Int.toNat_natCast]
  by_cases hemp : n1 = 0
  · have hze : z = [] := by cases z with | nil => rfl | cons a t => have := HZL.out; simp at this; omega
    rw [hze]
    subst hemp
    go_enter Try.func80, Try.ntmps80
    go_wp2_with fail
    go_ret
    exact ⟨rfl, Below.refl _ _⟩
  have hnz : ¬ (n1 : Int) = 0 := by omega
  have hzb : (!z.isEmpty) = true := by cases z with | nil => have := HZL.out; simp at this; omega | cons a t => rfl
  rw [hzb, Bool.true_and]
  obtain ⟨RES, hRES⟩ : ∃ b, b = checkF key root z p0 leaf := ⟨_, rfl⟩
  rw [← hRES]
  have HRES := Lib.hid hRES
  clear hRES hzb hemp
  go_enter Try.func80, Try.ntmps80
  go_wp2
  go_loopg [2, 3, 11] n1 (fun gg s2 s3 s11 wr => ∃ (k p : Nat) (lf : List Int), k ≤ n1 ∧ n1 - k ≤ gg ∧ p ≤ 9223372036854775807 ∧ s2 = .int .i64 p ∧ s3 = .string (strOfNums lf) ∧ s11 = .int .i64 k ∧ Aside0 (Bytes lf) ∧ Aside0 (checkF key root (z.drop k) p lf = RES) ∧ Aside0 (Below w.heap.size w wr))
  case atStart => exact ⟨0, p0, leaf, Nat.zero_le _, by omega, by omega, rfl, rfl, rfl, ⟨HLB.out⟩, ⟨HRES.out.symm⟩, ⟨Below.refl _ _⟩⟩
  case round =>
    clear HRES HLB
    obtain ⟨k, p, lf, hk, hg, hp2, rfl, rfl, rfl, HLB, HC, HB⟩ := hrel
    by_cases hlt : k < n1
    · have hltz : (k : Int) < (n1 : Int) := by omega
      have hk4 : ¬ (k : Int) < 0 := by omega
      have hk5 : k ≤ 9223372036854775807 := by omega
      obtain ⟨x, hx⟩ : ∃ x, z[k]? = some x := ⟨_, List.getElem?_eq_getElem (by rw [HZL.out]; exact hlt)⟩
      obtain ⟨b, o, A2, c2, rfl, hc1, hc2, hs2⟩ := HZ.out.next HB.out k x hx
      have HX := Lib.hid (List.mem_of_getElem? hx)
      obtain ⟨q, hq⟩ : ∃ q, q = p % 4 := ⟨_, rfl⟩
      have hq0 : q < 4 := by omega
      have hq1 : (q : Int) < 4 := by omega
      have hq2 : ¬ (q : Int) < 0 := by omega
      have hq3 : q ≤ 9223372036854775807 := by omega
      have hrem : (p : Int).tmod 4 = (q : Int) := by rw [Int.tmod_eq_emod_of_nonneg (by omega)]; omega
      have hrem2 : (p : Int) % 4 = (q : Int) := by omega
      obtain ⟨b2, o2, rfl, hcs⟩ := hs2 q _ (fourF_at x q hq0)
      have hstep : checkF key root (z.drop k) p lf = if quad x q = lf then checkF key root (z.drop (k + 1)) (p / 4) (nodeF key x) else false := by
        have hkz : k < z.length := by rw [HZL.out]; exact hlt
        rw [List.drop_eq_getElem_cons hkz]
        have e : z[k] = x := by rw [List.getElem?_eq_getElem hkz] at hx; exact Option.some.inj hx
        rw [e, checkF, hq]
      rw [hstep] at HC
      have hcmp := str_same (quad x q) lf (quad_bytes (HZB.out x HX.out) q) HLB.out
      have HS2 := Lib.hid hs2
      clear hx hq hstep hs2
      by_cases hqe : quad x q = lf
      · rw [if_pos hqe] at HC
        rw [decide_eq_true hqe] at hcmp
        clear hqe
        go_wp2_with (go_at_call 116; refine (HNODE.out x HX.out _ _ _ HB.out HS2.out).mono ?_; rintro e w6 ⟨rfl, hb6⟩; have HB6 := Lib.hid (below_next HB.out hb6); clear hb6)
        go_roundg (n1 - (k + 1))
        case measure => omega
        case rel => exact ⟨k + 1, p / 4, nodeF key x, by omega, by omega, by omega, by go_num, rfl, by go_num, ⟨nodeF_bytes _ _⟩, ⟨HC.out⟩, ⟨HB6.out⟩⟩
      · rw [if_neg hqe] at HC
        rw [decide_eq_false hqe] at hcmp
        clear hqe
        go_wp2
        go_ret
        exact ⟨by rw [← HC.out]; rfl, HB.out⟩
    · have hltz : ¬ (k : Int) < (n1 : Int) := by omega
      have HC2 := Lib.hid (show (decide (p = 0) && decide (lf = root)) = RES from by
        have h := HC.out
        rw [List.drop_eq_nil_of_le (by rw [HZL.out]; omega)] at h
        exact h)
      have hcmp := str_same lf root HLB.out HRB.out
      by_cases hp0 : p = 0
      · subst hp0
        go_wp2
        go_ret
        refine ⟨?_, HB.out⟩
        rw [← HC2.out]
        simp [hcmp]
      · have hp1 : ¬ (p : Int) = 0 := by omega
        have hp3 : ((p : Int) == 0) = false := by simpa using hp1
        go_wp2
        go_ret
        refine ⟨?_, HB.out⟩
        rw [← HC2.out, decide_eq_false hp0]
        rfl
end Go.Proofs.Ytoiiacbbfhlocaa.HMa
end
section
set_option linter.unusedVariables false
set_option linter.unusedSimpArgs false
namespace Go.Proofs.Ytoiiacbbfhlocaa.HMa
open Go.RowKit Go.Proofs.YtoiiacbbfhlocaaW.PrintWords Go.Proofs.YtoiiacbbfhlocaaW.PrintLast Go.Proofs.YtoiiacbbfhlocaaW.PrintMore Go.Proofs.Ytoiiacbbfhlocaa.Kit Go.Proofs.Ytoiiacbbfhlocaa.HHa Go.Proofs.Ytoiiacbbfhlocaa.HSa
attribute [local irreducible] sumF padX inF hmF jN jF kF padK
theorem infoS : (Try.prog.info? 9).map (fun i => (i.zero, i.size, i.bytes)) = some (some (.string ⟨#[]⟩), 1, 16) := by kernel_rfl
theorem infoSS : (Try.prog.info? 94).map (fun i => (i.zero, i.size, i.bytes)) = some (some (.slice none 0 0), 1, 24) := by kernel_rfl
def strC (l : List (List Int)) : List Value := l.map fun s => .string (strOfNums s)
theorem strC_snoc (l : List (List Int)) (s : List Int) : strC (l ++ [s]) = strC l ++ [.string (strOfNums s)] := by simp [strC]
def GivesT (z : List (List Int)) (w : World) (e : Ending) (w' : World) : Prop := ∃ v, e = .returned v ∧ w'.ownsRow w.heap.size 9 1 v z.length (strC z) ∧ Below w.heap.size w w'
theorem own_nil (W : World) (base e size : Nat) : W.ownsRow base e size (.slice none 0 0) 0 [] := ⟨by simp, .inl ⟨rfl, rfl⟩⟩
theorem SRow.of_own {W : World} {base n c : Nat} {A : Option Addr} {z : List (List Int)} (h : W.ownsRow base 9 1 (.slice A n c) n (strC z)) : SRow W A z := fun i x hx => by
  rcases h.2 with ⟨hv, h0⟩ | ⟨g, cap, cur, hv, -⟩
  · have h1 := h.1
    obtain ⟨rfl, rfl, rfl⟩ := Value.slice.inj hv
    have hl : z.length = 0 := by simpa [strC] using h1
    have := (List.getElem?_eq_some_iff.1 hx).1
    omega
  · obtain ⟨rfl, -, -⟩ := Value.slice.inj hv
    have hc := World.ownsRow.cells h (g := g) rfl i (.string (strOfNums x)) (by unfold strC; rw [List.getElem?_map, hx]; rfl)
    rw [add_plain] at hc
    exact ⟨g, 0, rfl, by rw [Nat.zero_add]; exact hc⟩
theorem own_slice {W : World} {base e size n : Nat} {v : Value} {xs : List Value} (h : W.ownsRow base e size v n xs) : ∃ A c, v = .slice A n c ∧ n ≤ c := by
  rcases h.2 with ⟨rfl, rfl⟩ | ⟨g, cap, cur, rfl, -, -, hn, -⟩
  · exact ⟨none, 0, rfl, Nat.le_refl _⟩
  · exact ⟨_, cap, rfl, hn⟩
theorem range_C {W : World} {b o n : Nat} {x : List Int} (h : W.rangeAt b o (nums .u8 x)) (hn : x.length = n) (h1 : n ≤ 1000) : Kd.C (Kd.int .u8) W (some ⟨b, o, none⟩) n x := by
  subst hn
  refine Kd.C_of_reads (d := (0 : Int)) (h1 := fun _ => rfl) ⟨rfl, by omega, fun _ => ⟨_, rfl, fun j hj => ?_⟩⟩
  rw [Addr.add_mid]
  refine h j _ ?_
  simp [nums, hj, List.getD]
set_option maxRecDepth 100000 in
theorem texts_any (A1 : Option Addr) (n1 c1 : Nat) (z : List (List Int)) (w : World) (hz : Rows8 32 w A1 z) (hzl : z.length = n1) (hn1 : n1 ≤ 1000) (hz8 : ∀ x ∈ z, x.length = 32) :
    Calls Try.prog 74 #[.slice A1 n1 c1] w (GivesT z w) := by
  have HZ := Lib.hid hz
  have HZL := Lib.hid hzl
  have HZ8 := Lib.hid hz8
  clear hz hzl hz8
  go_enter Try.func74, Try.ntmps74
  go_wp2
  go_loopg [3, 4] n1 (fun gg v3 s4 wr => ∃ k : Nat, k ≤ n1 ∧ n1 - k ≤ gg ∧ s4 = .int .i64 k ∧ Aside0 (Below w.heap.size w wr) ∧ Aside0 (wr.ownsRow w.heap.size 9 1 v3 k (strC (z.take k))))
  case atStart => exact ⟨0, Nat.zero_le _, by omega, rfl, ⟨Below.refl _ _⟩, ⟨by rw [List.take_zero]; exact own_nil _ _ _ _⟩⟩
  case round =>
    obtain ⟨k, hk, hg, rfl, BW, HO⟩ := hrel
    by_cases hlt : k < n1
    · have hltz : (k : Int) < (n1 : Int) := by omega
      have hk4 : ¬ (k : Int) < 0 := by omega
      have hk5 : k ≤ 9223372036854775807 := by omega
      obtain ⟨x, hx⟩ : ∃ x, z[k]? = some x := ⟨_, List.getElem?_eq_getElem (by rw [HZL.out]; exact hlt)⟩
      obtain ⟨b, o, rfl, hr⟩ := HZ.out.next BW.out k x hx
      have hxl := HZ8.out x (List.mem_of_getElem? hx)
      have hst := Kd.C_string (P := Try.prog) (dst := 9) (c := 32) Try.underlying29 Try.underlying5 Try.underlying9 (range_C hr hxl (by decide))
      have HX := Lib.hid hx
      clear hx hxl hr
      go_wp2_with (((with_reducible refine gate_builtin (b := .append) (xs := #[.tmp 11, .tmp 17]) rfl ?_); at_builtin; refine blk ?_))
      refine ⟨?_⟩
      refine print_append_cells (w0 := w) w.heap.size rfl (.tmp 11) (.tmp 17) 94 9 (.string ⟨#[]⟩) 1 16 rfl Try.underlying94 infoS rfl (by decide) (by decide) u3 k (strC (z.take k)) [.string (strOfNums x)] rfl rfl rfl (by simp [Value.oneCell']) HO.out BW.out BW.out.size (by omega) ?_
      intro v1 w8 ho hb hg8 hat
      have HO8 := Lib.hid ho
      have HB8 := Lib.hid hb
      clear ho hb hg8 hat
      go_wp2
      go_roundg (n1 - (k + 1))
      case measure => omega
      case rel => exact ⟨k + 1, by omega, by omega, by go_num, ⟨HB8.out⟩, ⟨by
        have e : z.take (k + 1) = z.take k ++ [x] := by rw [List.take_add_one, HX.out]; rfl
        rw [e, strC_snoc]
        exact HO8.out⟩⟩
    · have hltz : ¬ (k : Int) < (n1 : Int) := by omega
      have hkn : k = n1 := by omega
      have HKN := Lib.hid hkn
      clear hkn
      go_wp2
      go_ret
      have h := HO.out
      rw [HKN.out, List.take_of_length_le (by rw [HZL.out]; exact Nat.le_refl _)] at h
      rw [← HZL.out] at h
      exact ⟨_, rfl, h, BW.out⟩
def PartS (W : World) (v : Value) (x : List Int) (u : Value) : Prop := ∃ (ad : Addr) (c : Nat), u = .slice (some ad) 4 c ∧ 4 ≤ c ∧ SRow W (some ad) (fourF x) ∧ ad.block < W.heap.size ∧ v.ownBlock ≠ some ad.block
theorem SRow.same {W W1 : World} {ad : Addr} {z : List (List Int)} (h : SRow W (some ad) z) (he : W1.heap[ad.block]? = W.heap[ad.block]?) : SRow W1 (some ad) z := fun i x hx => by
  obtain ⟨b, o, hA, hc⟩ := h i x hx
  obtain rfl := Option.some.inj hA
  refine ⟨b, o, rfl, ?_⟩
  rw [← hc]
  unfold World.cell?
  rw [he]
theorem PartS.grown {W W1 : World} {v v1 u : Value} {x : List Int} (h : PartS W v x u) (hg : W.grownBy W1 v.ownBlock) (hat : v1.ownBlock = v.ownBlock ∨ ∃ b, v1.ownBlock = some b ∧ W.heap.size ≤ b) : PartS W1 v1 x u := by
  obtain ⟨ad, c, hu, hc, hC, hlt, hne⟩ := h
  refine ⟨ad, c, hu, hc, hC.same (hg.block _ hlt (fun e => hne e.symm)), Nat.lt_of_lt_of_le hlt hg.size, ?_⟩
  rcases hat with hat | ⟨b, hb, hle⟩
  · rw [hat]; exact hne
  · rw [hb]; intro e; have := Option.some.inj e; omega
theorem PartS.next {W W1 : World} {v u : Value} {x : List Int} (h : PartS W v x u) (hb : Below W.heap.size W W1) : PartS W1 v x u := by
  obtain ⟨ad, c, hu, hc, hC, hlt, hne⟩ := h
  exact ⟨ad, c, hu, hc, hC.next hb, Nat.lt_of_lt_of_le hlt hb.size, hne⟩
theorem fours_of {W : World} {b o : Nat} {x : List Int} (h : W.rangeAt b o (nums .u8 x)) (hx : x.length = 128) : Rows8 32 W (some ⟨b, o, none⟩) (fourF x) := fun i y hy => by
  have hi : i < 4 := (List.getElem?_eq_some_iff.1 hy).1
  rw [fourF_at x i hi] at hy
  obtain rfl := Option.some.inj hy
  refine ⟨b, o, rfl, fun j v hv => ?_⟩
  rw [Nat.add_assoc]
  refine h (i * 32 + j) v ?_
  rw [← hv]
  unfold nums quad
  rw [List.getElem?_map, List.getElem?_map, List.getElem?_take, List.getElem?_drop]
  have hj : j < 32 := by
    have := (List.getElem?_eq_some_iff.1 hv).1
    rw [show (nums .u8 (quad x i)).length = 32 from by simp [nums, quad_length x hx i hi]] at this
    exact this
  rw [if_pos hj]
def GivesW (z : List (List Int)) (w : World) (e : Ending) (w' : World) : Prop := ∃ A c, e = .returned (.slice A z.length c) ∧ z.length ≤ c ∧ SWay w' A z ∧ Below w.heap.size w w'
set_option maxRecDepth 100000 in
set_option maxHeartbeats 4000000 in
theorem ways_any (A1 : Option Addr) (n1 c1 : Nat) (z : List (List Int)) (w : World) (hz : Rows8 128 w A1 z) (hzl : z.length = n1) (hn1 : n1 ≤ 1000) (hz8 : ∀ x ∈ z, x.length = 128) :
    Calls Try.prog 77 #[.slice A1 n1 c1] w (GivesW z w) := by
  have HZ := Lib.hid hz
  have HZL := Lib.hid hzl
  have HZ8 := Lib.hid hz8
  clear hz hzl hz8
  go_enter Try.func77, Try.ntmps77
  go_wp2
  go_loopg [3, 4] n1 (fun gg v3 s4 wr => ∃ (k : Nat) (us : List Value), k ≤ n1 ∧ n1 - k ≤ gg ∧ s4 = .int .i64 k ∧ us.length = k ∧ Aside0 (Below w.heap.size w wr) ∧ Aside0 (wr.ownsRow w.heap.size 94 1 v3 k us) ∧ Aside0 (∀ (j : Nat) (x : List Int) (u : Value), z[j]? = some x → us[j]? = some u → PartS wr v3 x u))
  case atStart => exact ⟨0, [], Nat.zero_le _, by omega, rfl, rfl, ⟨Below.refl _ _⟩, ⟨own_nil _ _ _ _⟩, ⟨fun j x u _ hu => by simp at hu⟩⟩
  case round =>
    obtain ⟨k, us, hk, hg, rfl, hus, BW, HO, HP⟩ := hrel
    have HUS := Lib.hid hus
    clear hus
    by_cases hlt : k < n1
    · have hltz : (k : Int) < (n1 : Int) := by omega
      have hk4 : ¬ (k : Int) < 0 := by omega
      have hk5 : k ≤ 9223372036854775807 := by omega
      obtain ⟨x, hx⟩ : ∃ x, z[k]? = some x := ⟨_, List.getElem?_eq_getElem (by rw [HZL.out]; exact hlt)⟩
      obtain ⟨b, o, rfl, hr⟩ := HZ.out.next BW.out k x hx
      have hxl := HZ8.out x (List.mem_of_getElem? hx)
      have HT := Lib.hid (show Calls Try.prog 74 #[.slice (some ⟨b, o + k * 128, none⟩) 4 4] wr (GivesT (fourF x) wr) from texts_any _ 4 4 (fourF x) wr (fours_of hr hxl) rfl (by decide) (fun y hy => by
        simp only [fourF, List.mem_cons, List.not_mem_nil, or_false] at hy
        rcases hy with rfl | rfl | rfl | rfl
        · exact quad_length x hxl 0 (by omega)
        · exact quad_length x hxl 1 (by omega)
        · exact quad_length x hxl 2 (by omega)
        · exact quad_length x hxl 3 (by omega)))
      have HX := Lib.hid hx
      clear hx hxl hr
      go_wp2_with (first
        | (go_at_call 74; refine HT.out.mono ?_; rintro e w5 ⟨v5, rfl, hO5, hb5⟩; have hO5' : w5.ownsRow wr.heap.size 9 1 v5 4 (strC (fourF x)) := hO5; obtain ⟨g5, c5, e5⟩ := ownsRow_succ hO5'; subst e5; have HO5 := Lib.hid hO5'; have HB5 := Lib.hid hb5; clear hO5 hO5' hb5)
        | ((with_reducible refine gate_builtin (b := .append) (xs := #[.tmp 11, .tmp 17]) rfl ?_); at_builtin; refine blk ?_))
      refine ⟨?_⟩
      have HBW := Lib.hid (below_next BW.out HB5.out)
      have hOb := own_below HO.out HB5.out
      refine print_append_cells (w0 := w) w.heap.size rfl (.tmp 11) (.tmp 17) 116 94 (.slice none 0 0) 1 24 rfl Try.underlying116 infoSS rfl (by decide) (by decide) u3 k us [.slice (some ⟨g5, 0, none⟩) 4 c5] rfl rfl rfl (by simp [Value.oneCell']) hOb HBW.out HBW.out.size (by omega) ?_
      intro v1 w8 ho hb hg8 hat
      have HO8 := Lib.hid ho
      have HB8 := Lib.hid hb
      have HP8 := Lib.hid (show ∀ (j : Nat) (y : List Int) (u : Value), z[j]? = some y → (us ++ [.slice (some ⟨g5, 0, none⟩) 4 c5])[j]? = some u → PartS w8 v1 y u from fun j y u hy hu => by
        by_cases hj : j < k
        · rw [List.getElem?_append_left (by rw [HUS.out]; exact hj)] at hu
          exact ((HP.out j y u hy hu).next HB5.out).grown hg8 hat
        · have hjk : j = k := by
            have := (List.getElem?_eq_some_iff.1 hu).1
            rw [List.length_append, List.length_singleton, HUS.out] at this
            omega
          subst hjk
          rw [List.getElem?_append_right (by rw [HUS.out]; exact Nat.le_refl _), HUS.out, Nat.sub_self] at hu
          simp only [List.getElem?_cons_zero, Option.some.injEq] at hu
          subst hu
          rw [HX.out] at hy
          obtain rfl := Option.some.inj hy
          have hg5 : wr.heap.size ≤ g5 := by
            rcases HO5.out.2 with ⟨h, -⟩ | ⟨g', cap, cur, hv, hg', -⟩
            · cases h
            · obtain ⟨e1, -, -⟩ := Value.slice.inj hv
              have := (Addr.mk.inj (Option.some.inj e1)).1
              omega
          have hc5 : 4 ≤ c5 := by
            obtain ⟨A, c, e, hc⟩ := own_slice HO5.out
            obtain ⟨-, -, rfl⟩ := Value.slice.inj e
            exact hc
          have hp : PartS w5 u3 x (.slice (some ⟨g5, 0, none⟩) 4 c5) :=
            ⟨⟨g5, 0, none⟩, c5, rfl, hc5, SRow.of_own HO5.out, own_lt HO5.out g5 rfl, fun e => by have h1 := own_lt HO.out _ e; have h2 : g5 < wr.heap.size := h1; omega⟩
          exact hp.grown hg8 hat)
      clear ho hb hg8 hat hOb
      go_wp2
      go_roundg (n1 - (k + 1))
      case measure => omega
      case rel => exact ⟨k + 1, _, by omega, by omega, by go_num, by rw [List.length_append, List.length_singleton, HUS.out], ⟨HB8.out⟩, ⟨HO8.out⟩, ⟨HP8.out⟩⟩
    · have hltz : ¬ (k : Int) < (n1 : Int) := by omega
      have hkn : k = n1 := by omega
      subst hkn
      obtain ⟨A, c, hA, hAc⟩ := own_slice HO.out
      subst hA
      go_wp2
      go_ret
      refine ⟨A, c, by rw [HZL.out]; rfl, by rw [HZL.out]; exact hAc, fun i x hx => ?_, BW.out⟩
      have hi : i < us.length := by rw [HUS.out, ← HZL.out]; exact (List.getElem?_eq_some_iff.1 hx).1
      have hu := List.getElem?_eq_getElem hi
      obtain ⟨ad, c2, e, hc2, hS, -, -⟩ := HP.out i x _ hx hu
      rcases HO.out.2 with ⟨hv, h0⟩ | ⟨g, cap, cur, hv, -⟩
      · obtain ⟨-, rfl, -⟩ := Value.slice.inj hv
        have := (List.getElem?_eq_some_iff.1 hx).1
        rw [HZL.out] at this
        omega
      · obtain ⟨rfl, -, -⟩ := Value.slice.inj hv
        have hcell := World.ownsRow.cells HO.out (g := g) rfl i _ hu
        rw [add_plain, e] at hcell
        exact ⟨g, 0, some ad, c2, rfl, by rw [Nat.zero_add]; exact hcell, hc2, hS⟩
end Go.Proofs.Ytoiiacbbfhlocaa.HMa
end
section
namespace Go.Proofs.Ytoiiacbbfhlocaa.Mr
open Go.RowKit Go.Proofs.YtoiiacbbfhlocaaW.PrintWords Go.Proofs.YtoiiacbbfhlocaaW.PrintLast Go.Proofs.YtoiiacbbfhlocaaW.PrintMore
attribute [local go_sem] max2_int min2_int max_two min_two max_three min_three max_four min_four   -- for this text's walks alone
set_option linter.unusedVariables false
set_option linter.unusedSimpArgs false
def errW : Option Int → Value
  | none => .nilIface
  | some c => .iface 0 (.int .i64 c)
theorem errW_none : errW none = .nilIface := rfl
theorem errW_some (c : Int) : errW (some c) = .iface 0 (.int .i64 c) := rfl
theorem info5 : (Try.prog.info? 5).map (fun i => (i.zero, i.size, i.bytes)) = some (some (.int .u8 0), 1, 1) := by kernel_rfl
-- the values' own types
def rd_L2 (xs : List (List ByteArray)) (i : Int) : (List ByteArray) := xs.getD i.toNat ([] : List ByteArray)
theorem at_L2 {w : World} {A : Option Addr} {n : Nat} {xs : List (List ByteArray)} (h : Kd.C (Kd.slice 9 Kd.string) w A n xs) (i : Int) (h0 : 0 ≤ i) (h1 : i < n) : ∃ ad A0 c0, A = some ad ∧ w.cell? (ad.add i.toNat) = some (.slice A0 (rd_L2 xs i).length c0) ∧ (rd_L2 xs i).length ≤ c0 ∧ Kd.string.C w A0 (rd_L2 xs i).length (rd_L2 xs i) := by
  obtain ⟨ad, c, e, _, hK, hc0⟩ := Kd.C_get h ([] : List ByteArray) i h0 h1
  have hc : ∀ j u, c[j]? = some u → w.cell? (ad.add (i.toNat * 1 + j)) = some u := hc0
  obtain ⟨A0, c0, rfl, l0, g0⟩ := hK
  exact ⟨ad, A0, c0, e, by have hq := hc 0 _ rfl; rwa [Nat.mul_one, Nat.add_zero] at hq, l0, g0⟩
end Go.Proofs.Ytoiiacbbfhlocaa.Mr
end
section
namespace Go.Proofs.Ytoiiacbbfhlocaa.Mr
open Go.RowKit Go.Proofs.YtoiiacbbfhlocaaW.PrintWords Go.Proofs.YtoiiacbbfhlocaaW.PrintLast Go.Proofs.YtoiiacbbfhlocaaW.PrintMore
attribute [local go_sem] max2_int min2_int max_two min_two max_three min_three max_four min_four   -- for this text's walks alone
set_option linter.unusedVariables false
set_option linter.unusedSimpArgs false
/-! ### merkle_Height: function 72 -/
def merkle_Height.l0 : Nat → Int → Int → Int → Option (Int)
  | 0, _, _, _ => none
  | k + 1, x0, x3, x4 => if x4 < x0 then (if x4 > (wrap64 (Int.tdiv x0 4)) then (some (wrap64 (x3 + 1))) else (merkle_Height.l0 k x0 (wrap64 (x3 + 1)) (wrap64 (x4 * 4)))) else (some x3)
def merkle_Height.f (k : Nat) (a0 : Int) : Option (Int) := merkle_Height.l0 k a0 1 4
theorem merkle_Height.mono_l : ∀ k, (∀ y0 y1 y2, LeO (merkle_Height.l0 k y0 y1 y2) (merkle_Height.l0 (k + 1) y0 y1 y2))
  | 0 => fun _ _ _ r h => by simp [merkle_Height.l0] at h
  | k + 1 => by
    have ih0 := merkle_Height.mono_l k
    · intro y0 y1 y2
      unfold merkle_Height.l0
      repeat' first
      | (with_reducible exact ih0 _ _ _)
      | (with_reducible exact LeO.refl _)
      | (with_reducible exact LeO.none _)
      | (with_reducible refine LeO.ite ?_ ?_)
      | (with_reducible refine LeO.bind ?_ (fun _ => ?_))
      | exact ih0 _ _ _
      | exact LeO.none _
      | refine LeO.ite ?_ ?_
      | refine LeO.bind ?_ (fun _ => ?_)
theorem merkle_Height.mono : ∀ a0 k, LeO (merkle_Height.f k a0) (merkle_Height.f (k + 1) a0) := by
  intro a0 k
  have ih0 := merkle_Height.mono_l k
  unfold merkle_Height.f
  repeat' first
      | (with_reducible exact ih0 _ _ _)
      | (with_reducible exact LeO.refl _)
      | (with_reducible exact LeO.none _)
      | (with_reducible refine LeO.ite ?_ ?_)
      | (with_reducible refine LeO.bind ?_ (fun _ => ?_))
      | exact ih0 _ _ _
      | exact LeO.none _
      | refine LeO.ite ?_ ?_
      | refine LeO.bind ?_ (fun _ => ?_)
set_option maxHeartbeats 8000000 in
set_option maxRecDepth 100000 in
theorem merkle_Height.calls (k : Nat) (a0 : Int) (r : Int) (w : World) (h : merkle_Height.f k a0 = some r) :
    Calls Try.prog 72 #[.int .i64 a0] w fun e w' => e = .returned (.int .i64 r) ∧ Drawn0 w w' := by
  have H : (merkle_Height.l0 k a0 1 4) = some r := h
  clear h
  have H' := Aside0.mk H
  clear H
  go_enter Try.func72, Try.ntmps72
  go_wp2
  go_loopg [3, 4] k (fun kq v3 v4 w' => ∃ (x3_1 : Int) (x4_1 : Int), v3 = .int .i64 x3_1 ∧ v4 = .int .i64 x4_1 ∧ Aside0 (merkle_Height.l0 kq a0 x3_1 x4_1 = some r) ∧ Aside0 (kq ≤ k) ∧ Drawn0 w w')
  case atStart => exact ⟨(1), (4), (by first | rfl | (simp; done) | (simp [*]; done) | (simp; omega)), (by first | rfl | (simp; done) | (simp [*]; done) | (simp; omega)), H', ⟨Nat.le_refl _⟩, by repeat (first | exact Drawn0.refl _ | apply Drawn0.step)⟩
  case round =>
    clear H'
    obtain ⟨x3_1, x4_1, rfl, rfl, HA, HK1, ⟨m1, rfl⟩⟩ := hrel
    cases gk with
    | zero => exact absurd HA.out (by simp [merkle_Height.l0])
    | succ k1 =>
      have H := HA.out
      clear HA
      simp only [merkle_Height.l0] at H
      by_cases c2 : x4_1 < a0
      · rw [if_pos c2] at H
        have c2b0 : decide (x4_1 < a0) = true := decide_eq_true c2
        clear c2
        by_cases c3 : x4_1 > (wrap64 (Int.tdiv a0 4))
        · rw [if_pos c3] at H
          have c3b0 : decide ((wrap64 (Int.tdiv a0 4)) < x4_1) = true := decide_eq_true c3
          clear c3
          obtain rfl := Option.some.inj H
          go_wp2
          go_ret
          exact ⟨by first | rfl | (simp; done) | (simp [*]; done), by repeat (first | exact Drawn0.refl _ | apply Drawn0.step)⟩
        · rw [if_neg c3] at H
          have c3b0 : decide ((wrap64 (Int.tdiv a0 4)) < x4_1) = false := decide_eq_false c3
          clear c3
          have H' := Aside0.mk H
          clear H
          go_wp2
          go_roundg k1
          case measure => have := HK1.out; omega
          case rel => exact ⟨(wrap64 (x3_1 + 1)), (wrap64 (x4_1 * 4)), (by first | rfl | (simp; done) | (simp [*]; done) | (simp; omega)), (by first | rfl | (simp; done) | (simp [*]; done) | (simp; omega)), H', ⟨by have := HK1.out; omega⟩, by repeat (first | exact Drawn0.refl _ | apply Drawn0.step)⟩
      · rw [if_neg c2] at H
        have c2b0 : decide (x4_1 < a0) = false := decide_eq_false c2
        clear c2
        obtain rfl := Option.some.inj H
        go_wp2
        go_ret
        exact ⟨by first | rfl | (simp; done) | (simp [*]; done), by repeat (first | exact Drawn0.refl _ | apply Drawn0.step)⟩
-- NOT PRINTED: function 144 (sha256_Sum)
-- NOT PRINTED: function 145 (hmac_pad)
-- NOT PRINTED: function 132 (hmac_Sum)
-- NOT PRINTED: function 117 (hmac_Join)
-- NOT PRINTED: function 81 (merkle_Node)
-- NOT PRINTED: function 127 (hmac_Tag_127)
-- NOT PRINTED: function 128 (hmac_Tag_128)
-- NOT PRINTED: function 112 (merkle_levels)
-- NOT PRINTED: function 71 (merkle_Root)
-- NOT PRINTED: function 75 (merkle_Way)
-- NOT PRINTED: function 68 (padlocklaw08_knows)
-- NOT PRINTED: function 123 (padlockref01_Prime)
-- NOT PRINTED: function 137 (padlockref01_Digits)
-- NOT PRINTED: function 138 (padlockref01_Times)
-- NOT PRINTED: function 139 (padlockref01_Above)
-- NOT PRINTED: function 124 (padlockref01_Root)
-- NOT PRINTED: function 110 (padlockref01_Constants)
-- NOT PRINTED: function 125 (padlockref01_Filled)
-- NOT PRINTED: function 141 (padlockref01_Turn)
-- NOT PRINTED: function 140 (padlockref01_Words)
-- NOT PRINTED: function 126 (padlockref01_Come)
-- NOT PRINTED: function 111 (padlockref01_Summed)
-- NOT PRINTED: function 69 (padlockref02_New)
/-! ### padlockref08_Whole: function 70 -/
def padlockref08_Whole.l0 : Nat → Int → Int → Int → Option (Int × Int)
  | 0, _, _, _ => none
  | k + 1, x0, x4, x5 => if x4 < x0 then (padlockref08_Whole.l0 k x0 (wrap64 (4 * x4)) (wrap64 (x5 + 1))) else (some (x4, x5))
def padlockref08_Whole.f (k : Nat) (a0 : Int) : Option (Int × Int) := padlockref08_Whole.l0 k a0 4 1
theorem padlockref08_Whole.mono_l : ∀ k, (∀ y0 y1 y2, LeO (padlockref08_Whole.l0 k y0 y1 y2) (padlockref08_Whole.l0 (k + 1) y0 y1 y2))
  | 0 => fun _ _ _ r h => by simp [padlockref08_Whole.l0] at h
  | k + 1 => by
    have ih0 := padlockref08_Whole.mono_l k
    · intro y0 y1 y2
      unfold padlockref08_Whole.l0
      repeat' first
      | (with_reducible exact ih0 _ _ _)
      | (with_reducible exact LeO.refl _)
      | (with_reducible exact LeO.none _)
      | (with_reducible refine LeO.ite ?_ ?_)
      | (with_reducible refine LeO.bind ?_ (fun _ => ?_))
      | exact ih0 _ _ _
      | exact LeO.none _
      | refine LeO.ite ?_ ?_
      | refine LeO.bind ?_ (fun _ => ?_)
theorem padlockref08_Whole.mono : ∀ a0 k, LeO (padlockref08_Whole.f k a0) (padlockref08_Whole.f (k + 1) a0) := by
  intro a0 k
  have ih0 := padlockref08_Whole.mono_l k
  unfold padlockref08_Whole.f
  repeat' first
      | (with_reducible exact ih0 _ _ _)
      | (with_reducible exact LeO.refl _)
      | (with_reducible exact LeO.none _)
      | (with_reducible refine LeO.ite ?_ ?_)
      | (with_reducible refine LeO.bind ?_ (fun _ => ?_))
      | exact ih0 _ _ _
      | exact LeO.none _
      | refine LeO.ite ?_ ?_
      | refine LeO.bind ?_ (fun _ => ?_)
set_option maxHeartbeats 8000000 in
set_option maxRecDepth 100000 in
theorem padlockref08_Whole.calls (k : Nat) (a0 : Int) (r1 : Int) (r2 : Int) (w : World) (h : padlockref08_Whole.f k a0 = some (r1, r2)) :
    Calls Try.prog 70 #[.int .i64 a0] w fun e w' => e = .returned (.tuple #[.int .i64 r1, .int .i64 r2]) ∧ Drawn0 w w' := by
  have H : (padlockref08_Whole.l0 k a0 4 1) = some (r1, r2) := h
  clear h
  have H' := Aside0.mk H
  clear H
  go_enter Try.func70, Try.ntmps70
  go_wp2
  go_loopg [4, 5] k (fun kq v4 v5 w' => ∃ (x4_1 : Int) (x5_1 : Int), v4 = .int .i64 x4_1 ∧ v5 = .int .i64 x5_1 ∧ Aside0 (padlockref08_Whole.l0 kq a0 x4_1 x5_1 = some (r1, r2)) ∧ Aside0 (kq ≤ k) ∧ Drawn0 w w')
  case atStart => exact ⟨(4), (1), (by first | rfl | (simp; done) | (simp [*]; done) | (simp; omega)), (by first | rfl | (simp; done) | (simp [*]; done) | (simp; omega)), H', ⟨Nat.le_refl _⟩, by repeat (first | exact Drawn0.refl _ | apply Drawn0.step)⟩
  case round =>
    clear H'
    obtain ⟨x4_1, x5_1, rfl, rfl, HA, HK1, ⟨m1, rfl⟩⟩ := hrel
    cases gk with
    | zero => exact absurd HA.out (by simp [padlockref08_Whole.l0])
    | succ k1 =>
      have H := HA.out
      clear HA
      simp only [padlockref08_Whole.l0] at H
      by_cases c2 : x4_1 < a0
      · rw [if_pos c2] at H
        have c2b0 : decide (x4_1 < a0) = true := decide_eq_true c2
        clear c2
        have H' := Aside0.mk H
        clear H
        go_wp2
        go_roundg k1
        case measure => have := HK1.out; omega
        case rel => exact ⟨(wrap64 (4 * x4_1)), (wrap64 (x5_1 + 1)), (by first | rfl | (simp; done) | (simp [*]; done) | (simp; omega)), (by first | rfl | (simp; done) | (simp [*]; done) | (simp; omega)), H', ⟨by have := HK1.out; omega⟩, by repeat (first | exact Drawn0.refl _ | apply Drawn0.step)⟩
      · rw [if_neg c2] at H
        have c2b0 : decide (x4_1 < a0) = false := decide_eq_false c2
        clear c2
        simp only [Option.some.injEq, Prod.mk.injEq] at H
        obtain ⟨rfl, rfl⟩ := H
        go_wp2
        go_ret2
        exact ⟨by first | rfl | (simp; done) | (simp [*]; done), by repeat (first | exact Drawn0.refl _ | apply Drawn0.step)⟩
-- NOT PRINTED: function 143 (padlockref02_Key_with)
-- NOT PRINTED: function 130 (padlockref02_Key_Sum)
-- NOT PRINTED: function 131 (padlockref02_Joined)
-- NOT PRINTED: function 116 (padlockref08_Node)
/-! ### padlockref08_Zero: function 129 -/
def padlockref08_Zero.f  : Option (ByteArray) := if 32 ≤ 281474976710656 then (some (strOfNums (List.replicate 32 0))) else (none)
set_option maxHeartbeats 8000000 in
set_option maxRecDepth 100000 in
theorem padlockref08_Zero.calls  (r : ByteArray) (w : World) (h : padlockref08_Zero.f  = some r) :
    Calls Try.prog 129 #[] w fun e w' => e = .returned (.string r) ∧ Below w.heap.size w w' := by
  have HB := Aside0.mk (Below.refl w.heap.size w)
  have H : (if 32 ≤ 281474976710656 then (some (strOfNums (List.replicate 32 0))) else (none)) = some r := h
  clear h
  by_cases c1 : 32 ≤ 281474976710656
  · rw [if_pos c1] at H
    have c1b0 := eq_true c1
    have c1b1 : decide (32 ≤ 281474976710656) = true := decide_eq_true c1
    clear c1
    obtain ⟨y101, hy101⟩ : ∃ y_ : List Int, y_ = (List.replicate 32 0) := ⟨_, rfl⟩
    replace H : (some (strOfNums y101)) = some r := by first | (rw [hy101]; with_reducible exact H) | (have H2_ := (Option.bind_some _ _).symm.trans H; rw [hy101]; with_reducible exact H2_) | (have H2_ := (Option.bind_some _ _).symm.trans H; with_reducible exact H2_) | with_reducible exact H | (rw [hy101]; exact H) | exact H
    have Ny101 := Aside0.mk hy101
    clear hy101
    obtain rfl := Option.some.inj H
    go_enter Try.func129, Try.ntmps129
    go_wp2_with (first | ((with_reducible refine gate_dst (N := 1) rfl ?_); refine Kd.R_make (Kd.int .u8) _ 5 rfl (N := 1) rfl 29 _ _ rfl 32 rfl rfl Try.underlying29 (.int .u8 0) 1 info5 rfl (by decide) (by omega) 0 (ok := fun _ => True) (okp := fun _ => True) rfl (fun _ hk => hk) trivial (by omega) (by omega) (Below.refl _ _) (Nat.le_refl _) ?_; intro v102 w2 ho3 hb hg_ hnew_; clear hg_ hnew_; (first | rw [← Ny101.out] at ho3 | (simp only [Int.reduceToNat] at ho3; rw [← Ny101.out] at ho3)); have n0_ := Aside0.mk (Kd.R_lower ho3 (below_size (by repeat (first | (with_reducible first | exact HB.out | apply below_alloc | apply pw_below_drewN | apply below_drew1) | exact HB.out)))); have n1_ := Aside0.mk (below_step (by repeat (first | (with_reducible first | exact HB.out | apply below_alloc | apply pw_below_drewN | apply below_drew1) | exact HB.out)) hb); clear HB; have HO103 := n0_; have HB := n1_; clear n0_ n1_; clear hb ho3; have hcv4 := own_string (P := Try.prog) Try.underlying29 Try.underlying5 Try.underlying9 (Kd.own_of_R HO103.out)))
    go_ret
    exact ⟨by first | rfl | (simp [errW_none, errW_some] <;> rfl) | (simp [*, errW_none, errW_some] <;> rfl), by repeat (first | (with_reducible first | exact HB.out | apply below_alloc | apply pw_below_drewN | apply below_drew1) | exact HB.out)⟩
  · rw [if_neg c1] at H
    exact absurd H (by simp)
-- NOT PRINTED: function 114 (padlockref08_Rows)
-- NOT PRINTED: function 73 (padlockref08_Root)
-- NOT PRINTED: function 74 (padlocklaw08_Texts)
/-! ### padlocklaw08_same: function 76 -/
mutual
def padlocklaw08_same.l0 : Nat → List (List ByteArray) → List (List ByteArray) → Int → Option (Bool)
  | 0, _, _, _ => none
  | k + 1, x0, x1, x5 => if x5 < (x0.length : Int) then (padlocklaw08_same.l1 k x0 x1 x5 0) else (some true)
def padlocklaw08_same.l1 : Nat → List (List ByteArray) → List (List ByteArray) → Int → Int → Option (Bool)
  | 0, _, _, _, _ => none
  | k + 1, x0, x1, x5, x6 => if x6 < 4 then (if 0 ≤ x5 then (if x5 < (x0.length : Int) then (if 0 ≤ x6 then (if x6 < ((rd_L2 x0 x5).length : Int) then (if x5 < (x1.length : Int) then (if x6 < ((rd_L2 x1 x5).length : Int) then (if (rdOf ByteArray.empty (rd_L2 x0 x5) x6).toList = (rdOf ByteArray.empty (rd_L2 x1 x5) x6).toList then (padlocklaw08_same.l1 k x0 x1 x5 (wrap64 (x6 + 1))) else (some false)) else (none)) else (none)) else (none)) else (none)) else (none)) else (none)) else (padlocklaw08_same.l0 k x0 x1 (wrap64 (x5 + 1)))
end
def padlocklaw08_same.f (k : Nat) (l0 : List (List ByteArray)) (l1 : List (List ByteArray)) : Option (Bool) := if (l0.length : Int) = (l1.length : Int) then (padlocklaw08_same.l0 k l0 l1 0) else (some false)
theorem padlocklaw08_same.mono_l : ∀ k, (∀ y0 y1 y2, LeO (padlocklaw08_same.l0 k y0 y1 y2) (padlocklaw08_same.l0 (k + 1) y0 y1 y2)) ∧ (∀ y0 y1 y2 y3, LeO (padlocklaw08_same.l1 k y0 y1 y2 y3) (padlocklaw08_same.l1 (k + 1) y0 y1 y2 y3))
  | 0 => ⟨fun _ _ _ r h => by simp [padlocklaw08_same.l0] at h, fun _ _ _ _ r h => by simp [padlocklaw08_same.l1] at h⟩
  | k + 1 => by
    obtain ⟨ih0, ih1⟩ := padlocklaw08_same.mono_l k
    refine ⟨?_, ?_⟩
    · intro y0 y1 y2
      unfold padlocklaw08_same.l0
      repeat' first
      | (with_reducible exact ih0 _ _ _)
      | (with_reducible exact ih1 _ _ _ _)
      | (with_reducible exact LeO.refl _)
      | (with_reducible exact LeO.none _)
      | (with_reducible refine LeO.ite ?_ ?_)
      | (with_reducible refine LeO.bind ?_ (fun _ => ?_))
      | exact ih0 _ _ _
      | exact ih1 _ _ _ _
      | exact LeO.none _
      | refine LeO.ite ?_ ?_
      | refine LeO.bind ?_ (fun _ => ?_)
    · intro y0 y1 y2 y3
      unfold padlocklaw08_same.l1
      repeat' first
      | (with_reducible exact ih0 _ _ _)
      | (with_reducible exact ih1 _ _ _ _)
      | (with_reducible exact LeO.refl _)
      | (with_reducible exact LeO.none _)
      | (with_reducible refine LeO.ite ?_ ?_)
      | (with_reducible refine LeO.bind ?_ (fun _ => ?_))
      | exact ih0 _ _ _
      | exact ih1 _ _ _ _
      | exact LeO.none _
      | refine LeO.ite ?_ ?_
      | refine LeO.bind ?_ (fun _ => ?_)
theorem padlocklaw08_same.mono : ∀ a0 a1 k, LeO (padlocklaw08_same.f k a0 a1) (padlocklaw08_same.f (k + 1) a0 a1) := by
  intro a0 a1 k
  obtain ⟨ih0, ih1⟩ := padlocklaw08_same.mono_l k
  unfold padlocklaw08_same.f
  repeat' first
      | (with_reducible exact ih0 _ _ _)
      | (with_reducible exact ih1 _ _ _ _)
      | (with_reducible exact LeO.refl _)
      | (with_reducible exact LeO.none _)
      | (with_reducible refine LeO.ite ?_ ?_)
      | (with_reducible refine LeO.bind ?_ (fun _ => ?_))
      | exact ih0 _ _ _
      | exact ih1 _ _ _ _
      | exact LeO.none _
      | refine LeO.ite ?_ ?_
      | refine LeO.bind ?_ (fun _ => ?_)
set_option maxHeartbeats 8000000 in
set_option maxRecDepth 100000 in
theorem padlocklaw08_same.calls (k : Nat) (A0 : Option Addr) (c0 : Nat) (l0 : List (List ByteArray)) (A1 : Option Addr) (c1 : Nat) (l1 : List (List ByteArray)) (r : Bool) (w : World) (hr0 : Kd.C (Kd.slice 9 Kd.string) w A0 l0.length l0) (hc0 : l0.length ≤ c0) (hr1 : Kd.C (Kd.slice 9 Kd.string) w A1 l1.length l1) (hc1 : l1.length ≤ c1) (h : padlocklaw08_same.f k l0 l1 = some r) :
    Calls Try.prog 76 #[.slice A0 l0.length c0, .slice A1 l1.length c1] w fun e w' => e = .returned (.bool r) ∧ Drawn0 w w' := by
  have HR0 := Aside0.mk hr0
  have HC0 := Aside0.mk hc0
  clear hr0 hc0
  have HR1 := Aside0.mk hr1
  have HC1 := Aside0.mk hc1
  clear hr1 hc1
  have H : (if (l0.length : Int) = (l1.length : Int) then (padlocklaw08_same.l0 k l0 l1 0) else (some false)) = some r := h
  clear h
  by_cases c3 : (l0.length : Int) = (l1.length : Int)
  · rw [if_pos c3] at H
    have c3b0 : ((l0.length : Int) == (l1.length : Int)) = true := beq_iff_eq.mpr c3
    have c3b1 : ((l0.length : Int) != (l1.length : Int)) = false := bne_eq_false_iff_eq.mpr c3
    have c3b2 : (l0.length == l1.length) = true := by first | simpa using c3 | (simp at c3 ⊢; omega)
    clear c3
    have H' := Aside0.mk H
    clear H
    go_enter Try.func76, Try.ntmps76
    go_wp2
    repeat (go_quiet (fail); try go_wp2)
    go_loopg [5] k (fun kq v5 w' => ∃ (x5_1 : Int), v5 = .int .i64 x5_1 ∧ Aside0 (padlocklaw08_same.l0 kq l0 l1 x5_1 = some r) ∧ Aside0 (kq ≤ k) ∧ Drawn0 w w')
    case atStart => exact ⟨(0), (by first | rfl | (simp; done) | (simp [*]; done) | (simp; omega)), H', ⟨Nat.le_refl _⟩, by repeat (first | exact Drawn0.refl _ | apply Drawn0.step)⟩
    case round =>
      clear H'
      try clear c1
      try clear p2
      try clear c3
      try clear c3b0
      try clear c3b1
      try clear c3b2
      obtain ⟨x5_1, rfl, HA, HK1, ⟨m1, rfl⟩⟩ := hrel
      cases gk with
      | zero => exact absurd HA.out (by simp [padlocklaw08_same.l0])
      | succ k1 =>
        have H := HA.out
        clear HA
        simp only [padlocklaw08_same.l0] at H
        by_cases c4 : x5_1 < (l0.length : Int)
        · rw [if_pos c4] at H
          have c4b0 : decide (x5_1 < (l0.length : Int)) = true := decide_eq_true c4
          clear c4
          have H' := Aside0.mk H
          clear H
          go_wp2
          repeat (go_quiet (fail); try go_wp2)
          go_loopg [6] k1 (fun kq v6 w' => ∃ (x6_2 : Int), v6 = .int .i64 x6_2 ∧ Aside0 (padlocklaw08_same.l1 kq l0 l1 x5_1 x6_2 = some r) ∧ Aside0 (kq ≤ k1) ∧ Drawn0 w w')
          case atStart => exact ⟨(0), (by first | rfl | (simp; done) | (simp [*]; done) | (simp; omega)), H', ⟨Nat.le_refl _⟩, by repeat (first | exact Drawn0.refl _ | apply Drawn0.step)⟩
          case round =>
            clear H'
            try clear c1
            try clear p2
            try clear c3
            try clear c3b0
            try clear c3b1
            try clear c3b2
            try clear c4
            try clear c4b0
            try clear p2
            obtain ⟨x6_2, rfl, HA, HK2, ⟨m2, rfl⟩⟩ := hrel
            cases gk with
            | zero => exact absurd HA.out (by simp [padlocklaw08_same.l1])
            | succ k2 =>
              have H := HA.out
              clear HA
              simp only [padlocklaw08_same.l1] at H
              by_cases c5 : x6_2 < 4
              · rw [if_pos c5] at H
                have c5b0 : decide (x6_2 < 4) = true := decide_eq_true c5
                clear c5
                by_cases c6 : 0 ≤ x5_1
                · rw [if_pos c6] at H
                  have c6b0 : decide (0 ≤ x5_1) = true := decide_eq_true c6
                  clear c6
                  by_cases c7 : x5_1 < (l0.length : Int)
                  · rw [if_pos c7] at H
                    have c7b0 : decide (x5_1 < (l0.length : Int)) = true := decide_eq_true c7
                    clear c7
                    by_cases c8 : 0 ≤ x6_2
                    · rw [if_pos c8] at H
                      have c8b0 : decide (0 ≤ x6_2) = true := decide_eq_true c8
                      clear c8
                      by_cases c9 : x6_2 < ((rd_L2 l0 x5_1).length : Int)
                      · rw [if_pos c9] at H
                        have c9b0 : decide (x6_2 < ((rd_L2 l0 x5_1).length : Int)) = true := decide_eq_true c9
                        clear c9
                        by_cases c10 : x5_1 < (l1.length : Int)
                        · rw [if_pos c10] at H
                          have c10b0 : decide (x5_1 < (l1.length : Int)) = true := decide_eq_true c10
                          clear c10
                          by_cases c11 : x6_2 < ((rd_L2 l1 x5_1).length : Int)
                          · rw [if_pos c11] at H
                            have c11b0 : decide (x6_2 < ((rd_L2 l1 x5_1).length : Int)) = true := decide_eq_true c11
                            clear c11
                            by_cases c12 : (rdOf ByteArray.empty (rd_L2 l0 x5_1) x6_2).toList = (rdOf ByteArray.empty (rd_L2 l1 x5_1) x6_2).toList
                            · rw [if_pos c12] at H
                              have c12b0 : ((rdOf ByteArray.empty (rd_L2 l0 x5_1) x6_2).toList == (rdOf ByteArray.empty (rd_L2 l1 x5_1) x6_2).toList) = true := beq_iff_eq.mpr c12
                              have c12b1 : ((rdOf ByteArray.empty (rd_L2 l0 x5_1) x6_2).toList != (rdOf ByteArray.empty (rd_L2 l1 x5_1) x6_2).toList) = false := bne_eq_false_iff_eq.mpr c12
                              clear c12
                              have H' := Aside0.mk H
                              clear H
                              have p104 : 0 ≤ (x5_1 : Int) := of_decide_eq_true (by first | (with_reducible assumption) | assumption)
                              have q104 : x5_1 < (l0.length : Int) := of_decide_eq_true (by first | (with_reducible assumption) | assumption)
                              obtain ⟨ad104, A104_0, c104_0, e104, hx104_0, hl104_0, hi104_0⟩ := at_L2 HR0.out x5_1 p104 q104
                              cases e104
                              have HR104_0 := Aside0.mk hi104_0
                              have HC104_0 := Aside0.mk hl104_0
                              clear hi104_0 hl104_0
                              replace p104 := eq_true p104
                              replace q104 := eq_true q104
                              have p105 : 0 ≤ (x6_2 : Int) := of_decide_eq_true (by first | (with_reducible assumption) | assumption)
                              have q105 : x6_2 < ((rd_L2 l0 x5_1).length : Int) := of_decide_eq_true (by first | (with_reducible assumption) | assumption)
                              obtain ⟨ad105, e105, hx105_0⟩ := Kd.at_string HR104_0.out x6_2 p105 q105
                              cases e105
                              replace p105 := eq_true p105
                              replace q105 := eq_true q105
                              have p106 : 0 ≤ (x5_1 : Int) := of_decide_eq_true (by first | (with_reducible assumption) | assumption)
                              have q106 : x5_1 < (l1.length : Int) := of_decide_eq_true (by first | (with_reducible assumption) | assumption)
                              obtain ⟨ad106, A106_0, c106_0, e106, hx106_0, hl106_0, hi106_0⟩ := at_L2 HR1.out x5_1 p106 q106
                              cases e106
                              have HR106_0 := Aside0.mk hi106_0
                              have HC106_0 := Aside0.mk hl106_0
                              clear hi106_0 hl106_0
                              replace p106 := eq_true p106
                              replace q106 := eq_true q106
                              have p107 : 0 ≤ (x6_2 : Int) := of_decide_eq_true (by first | (with_reducible assumption) | assumption)
                              have q107 : x6_2 < ((rd_L2 l1 x5_1).length : Int) := of_decide_eq_true (by first | (with_reducible assumption) | assumption)
                              obtain ⟨ad107, e107, hx107_0⟩ := Kd.at_string HR106_0.out x6_2 p107 q107
                              cases e107
                              replace p107 := eq_true p107
                              replace q107 := eq_true q107
                              go_wp2
                              repeat (go_quiet (fail); try go_wp2)
                              go_roundg k2
                              case measure => have := HK1.out; have := HK2.out; omega
                              case rel => exact ⟨(wrap64 (x6_2 + 1)), (by first | rfl | (simp; done) | (simp [*]; done) | (simp; omega)), H', ⟨by have := HK1.out; have := HK2.out; omega⟩, by repeat (first | exact Drawn0.refl _ | apply Drawn0.step)⟩
                            · rw [if_neg c12] at H
                              have c12b0 : ((rdOf ByteArray.empty (rd_L2 l0 x5_1) x6_2).toList == (rdOf ByteArray.empty (rd_L2 l1 x5_1) x6_2).toList) = false := beq_eq_false_iff_ne.mpr c12
                              have c12b1 : ((rdOf ByteArray.empty (rd_L2 l0 x5_1) x6_2).toList != (rdOf ByteArray.empty (rd_L2 l1 x5_1) x6_2).toList) = true := bne_iff_ne.mpr c12
                              obtain rfl := Option.some.inj H
                              have p104 : 0 ≤ (x5_1 : Int) := of_decide_eq_true (by first | (with_reducible assumption) | assumption)
                              have q104 : x5_1 < (l0.length : Int) := of_decide_eq_true (by first | (with_reducible assumption) | assumption)
                              obtain ⟨ad104, A104_0, c104_0, e104, hx104_0, hl104_0, hi104_0⟩ := at_L2 HR0.out x5_1 p104 q104
                              cases e104
                              have HR104_0 := Aside0.mk hi104_0
                              have HC104_0 := Aside0.mk hl104_0
                              clear hi104_0 hl104_0
                              replace p104 := eq_true p104
                              replace q104 := eq_true q104
                              have p105 : 0 ≤ (x6_2 : Int) := of_decide_eq_true (by first | (with_reducible assumption) | assumption)
                              have q105 : x6_2 < ((rd_L2 l0 x5_1).length : Int) := of_decide_eq_true (by first | (with_reducible assumption) | assumption)
                              obtain ⟨ad105, e105, hx105_0⟩ := Kd.at_string HR104_0.out x6_2 p105 q105
                              cases e105
                              replace p105 := eq_true p105
                              replace q105 := eq_true q105
                              have p106 : 0 ≤ (x5_1 : Int) := of_decide_eq_true (by first | (with_reducible assumption) | assumption)
                              have q106 : x5_1 < (l1.length : Int) := of_decide_eq_true (by first | (with_reducible assumption) | assumption)
                              obtain ⟨ad106, A106_0, c106_0, e106, hx106_0, hl106_0, hi106_0⟩ := at_L2 HR1.out x5_1 p106 q106
                              cases e106
                              have HR106_0 := Aside0.mk hi106_0
                              have HC106_0 := Aside0.mk hl106_0
                              clear hi106_0 hl106_0
                              replace p106 := eq_true p106
                              replace q106 := eq_true q106
                              have p107 : 0 ≤ (x6_2 : Int) := of_decide_eq_true (by first | (with_reducible assumption) | assumption)
                              have q107 : x6_2 < ((rd_L2 l1 x5_1).length : Int) := of_decide_eq_true (by first | (with_reducible assumption) | assumption)
                              obtain ⟨ad107, e107, hx107_0⟩ := Kd.at_string HR106_0.out x6_2 p107 q107
                              cases e107
                              replace p107 := eq_true p107
                              replace q107 := eq_true q107
                              go_wp2
                              repeat (go_quiet (fail); try go_wp2)
                              go_ret
                              exact ⟨by first | rfl | (simp; done) | (simp [*]; done), by repeat (first | exact Drawn0.refl _ | apply Drawn0.step)⟩
                          · rw [if_neg c11] at H
                            exact absurd H (by simp)
                        · rw [if_neg c10] at H
                          exact absurd H (by simp)
                      · rw [if_neg c9] at H
                        exact absurd H (by simp)
                    · rw [if_neg c8] at H
                      exact absurd H (by simp)
                  · rw [if_neg c7] at H
                    exact absurd H (by simp)
                · rw [if_neg c6] at H
                  exact absurd H (by simp)
              · rw [if_neg c5] at H
                have c5b0 : decide (x6_2 < 4) = false := decide_eq_false c5
                clear c5
                have H' := Aside0.mk H
                clear H
                go_wp2
                repeat (go_quiet (fail); try go_wp2)
                go_roundg k2
                case measure => have := HK1.out; have := HK2.out; omega
                case rel => exact ⟨(wrap64 (x5_1 + 1)), (by first | rfl | (simp; done) | (simp [*]; done) | (simp; omega)), H', ⟨by have := HK1.out; have := HK2.out; omega⟩, by repeat (first | exact Drawn0.refl _ | apply Drawn0.step)⟩
        · rw [if_neg c4] at H
          have c4b0 : decide (x5_1 < (l0.length : Int)) = false := decide_eq_false c4
          clear c4
          obtain rfl := Option.some.inj H
          go_wp2
          repeat (go_quiet (fail); try go_wp2)
          go_ret
          exact ⟨by first | rfl | (simp; done) | (simp [*]; done), by repeat (first | exact Drawn0.refl _ | apply Drawn0.step)⟩
  · rw [if_neg c3] at H
    have c3b0 : ((l0.length : Int) == (l1.length : Int)) = false := beq_eq_false_iff_ne.mpr c3
    have c3b1 : ((l0.length : Int) != (l1.length : Int)) = true := bne_iff_ne.mpr c3
    have c3b2 : (l0.length == l1.length) = false := by first | simpa using c3 | (simp at c3 ⊢; omega)
    obtain rfl := Option.some.inj H
    go_enter Try.func76, Try.ntmps76
    go_wp2
    repeat (go_quiet (fail); try go_wp2)
    go_ret
    exact ⟨by first | rfl | (simp; done) | (simp [*]; done), by repeat (first | exact Drawn0.refl _ | apply Drawn0.step)⟩
-- NOT PRINTED: function 77 (padlocklaw08_ways)
-- NOT PRINTED: function 78 (padlockref08_Way)
-- NOT PRINTED: function 12 (padlocklaw08_MerkleRoots)
end Go.Proofs.Ytoiiacbbfhlocaa.Mr
end
section
set_option linter.unusedVariables false
set_option linter.unusedSimpArgs false
namespace Go.Proofs.Ytoiiacbbfhlocaa.HMa
open Go.RowKit Go.Proofs.YtoiiacbbfhlocaaW.PrintWords Go.Proofs.YtoiiacbbfhlocaaW.PrintLast Go.Proofs.YtoiiacbbfhlocaaW.PrintMore Go.Proofs.Ytoiiacbbfhlocaa.Kit Go.Proofs.Ytoiiacbbfhlocaa.HHa Go.Proofs.Ytoiiacbbfhlocaa.HSa
attribute [local irreducible] sumF padX inF hmF jN jF kF padK
def T32 (z : List (List Int)) : Prop := ∀ x ∈ z, x.length = 32
theorem T32.flat : ∀ {z : List (List Int)}, T32 z → z.flatten.length = z.length * 32
  | [], _ => rfl
  | x :: z, h => by
    rw [List.flatten_cons, List.length_append, h x List.mem_cons_self, T32.flat (fun y hy => h y (List.mem_cons_of_mem _ hy)), List.length_cons]
    omega
theorem T32.drop {z : List (List Int)} (h : T32 z) (k : Nat) : T32 (z.drop k) := fun x hx => h x (List.mem_of_mem_drop hx)
theorem T32.take {z : List (List Int)} (h : T32 z) (k : Nat) : T32 (z.take k) := fun x hx => h x (List.mem_of_mem_take hx)
theorem T32.append {z y : List (List Int)} (h : T32 z) (h' : T32 y) : T32 (z ++ y) := fun x hx => by
  rcases List.mem_append.1 hx with hx | hx
  · exact h x hx
  · exact h' x hx
theorem flat_drop : ∀ (z : List (List Int)) (k : Nat), T32 z → (z.drop k).flatten = z.flatten.drop (k * 32)
  | z, 0, _ => by simp
  | [], k + 1, _ => by simp
  | x :: z, k + 1, h => by
    have hx := h x List.mem_cons_self
    have e1 : x.drop ((k + 1) * 32) = [] := List.drop_eq_nil_of_le (by omega)
    have e2 : (k + 1) * 32 - 32 = k * 32 := by omega
    rw [List.drop_succ_cons, flat_drop z k (fun y hy => h y (List.mem_cons_of_mem _ hy)), List.flatten_cons, List.drop_append, e1, hx, e2]
    rfl
theorem flat_take : ∀ (z : List (List Int)) (k : Nat), T32 z → (z.take k).flatten = z.flatten.take (k * 32)
  | z, 0, _ => by simp
  | [], k + 1, _ => by simp
  | x :: z, k + 1, h => by
    have hx := h x List.mem_cons_self
    have e1 : x.take ((k + 1) * 32) = x := List.take_of_length_le (by omega)
    have e2 : (k + 1) * 32 - 32 = k * 32 := by omega
    rw [List.take_succ_cons, List.flatten_cons, flat_take z k (fun y hy => h y (List.mem_cons_of_mem _ hy)), List.flatten_cons, List.take_append, e1, hx, e2]
def Flat (W : World) (A : Option Addr) (z : List (List Int)) : Prop := z ≠ [] → ∃ b o, A = some ⟨b, o, none⟩ ∧ W.rangeAt b o (nums .u8 z.flatten)
theorem range_app {W : World} {b o : Nat} {xs ys : List Value} (h : W.rangeAt b o xs) (h' : W.rangeAt b (o + xs.length) ys) : W.rangeAt b o (xs ++ ys) := fun j v hv => by
  by_cases hj : j < xs.length
  · rw [List.getElem?_append_left hj] at hv
    exact h j v hv
  · rw [List.getElem?_append_right (by omega)] at hv
    have := h' _ v hv
    rw [show o + xs.length + (j - xs.length) = o + j from by omega] at this
    exact this
theorem range_part {W : World} {b o : Nat} {xs : List Value} (h : W.rangeAt b o xs) (k m : Nat) : W.rangeAt b (o + k) ((xs.drop k).take m) := fun j v hv => by
  rw [Nat.add_assoc]
  refine h (k + j) v ?_
  rw [List.getElem?_take] at hv
  split at hv
  · rw [List.getElem?_drop] at hv; exact hv
  · cases hv
theorem range_below {W W' : World} {b o : Nat} {xs : List Value} (h : W.rangeAt b o xs) (hb : W'.heap[b]? = W.heap[b]?) : W'.rangeAt b o xs := fun j v hv => by
  rw [← h j v hv]
  unfold World.cell?
  rw [hb]
theorem Flat.of_rows {W : World} {A : Option Addr} {z : List (List Int)} (h : Rows8 32 W A z) (h32 : T32 z) : Flat W A z := fun hne => by
  cases z with
  | nil => exact absurd rfl hne
  | cons x z =>
    obtain ⟨b, o, hA, hr⟩ := h 0 x rfl
    refine ⟨b, o, hA, ?_⟩
    have key : ∀ (y : List (List Int)) (o : Nat), T32 y → (∀ i x, y[i]? = some x → W.rangeAt b (o + i * 32) (nums .u8 x)) → W.rangeAt b o (nums .u8 y.flatten) := by
      intro y
      induction y with
      | nil => intro o _ _ j v hv; simp [nums] at hv
      | cons a y ih =>
        intro o h32 hh
        rw [List.flatten_cons, show nums .u8 (a ++ y.flatten) = nums .u8 a ++ nums .u8 y.flatten from by simp [nums]]
        refine range_app (by simpa using hh 0 a rfl) (ih _ (fun x hx => h32 x (List.mem_cons_of_mem _ hx)) (fun i x hx => ?_))
        have := hh (i + 1) x (by simpa using hx)
        rw [show o + (nums .u8 a).length + i * 32 = o + (i + 1) * 32 from by simp [nums, h32 a List.mem_cons_self]; omega]
        exact this
    refine key _ o h32 (fun i y hy => ?_)
    obtain ⟨b', o', hA', hr'⟩ := h i y hy
    rw [hA] at hA'
    cases hA'
    exact hr'
theorem Flat.next' {W W' : World} {A : Option Addr} {z : List (List Int)} (h : Flat W A z) (h32 : T32 z) (hb : ∀ b o (ob : Obj), A = some ⟨b, o, none⟩ → W.heap[b]? = some ob → ob.isCells = true → W'.heap[b]? = W.heap[b]?) : Flat W' A z := fun hne => by
  obtain ⟨b, o, hA, hr⟩ := h hne
  have h0 : 0 < (nums .u8 z.flatten).length := by
    simp only [nums, List.length_map, h32.flat]
    have := List.length_pos_iff.2 hne
    omega
  obtain ⟨ob, ho, hc⟩ := cells_of_cell (hr 0 _ (List.getElem?_eq_getElem h0))
  exact ⟨b, o, hA, range_below hr (hb b o ob hA ho hc)⟩
theorem Flat.next {W W' : World} {A : Option Addr} {z : List (List Int)} (h : Flat W A z) (h32 : T32 z) (hb : ∀ b o, A = some ⟨b, o, none⟩ → b < W.heap.size → W'.heap[b]? = W.heap[b]?) : Flat W' A z :=
  h.next' h32 (fun b o ob hA ho _ => hb b o hA (Array.getElem?_eq_some_iff.1 ho).1)
theorem Flat.below {W W' : World} {A : Option Addr} {z : List (List Int)} (h : Flat W A z) (h32 : T32 z) (hb : Below W.heap.size W W') : Flat W' A z := h.next h32 (fun b o _ hlt => hb.block b hlt)
theorem Flat.of_own {W : World} {base n : Nat} {v : Value} {A : Option Addr} {c : Nat} {z : List (List Int)} (h : W.ownsRow base 24 32 (.slice A n c) n (nums .u8 z.flatten)) (h32 : T32 z) : Flat W A z := fun hne => by
  rcases h.2 with ⟨hv, h0⟩ | ⟨g, cap, cur, hv, -⟩
  · have h1 := h.1
    simp only [nums, List.length_map, h32.flat, h0] at h1
    have := List.length_pos_iff.2 hne
    omega
  · obtain ⟨rfl, -, -⟩ := Value.slice.inj hv
    refine ⟨g, 0, rfl, fun j u hu => ?_⟩
    have hc := World.ownsRow.cells h (g := g) rfl j u hu
    rw [add_plain] at hc
    rw [Nat.zero_add]
    exact hc
theorem tags_size {k : IntKind} (x : List Int) (h : x.length = 32) : (Value.agg (nums k x).toArray).cells.size = 32 := by
  simp [Value.cells, nums, h]
theorem flat_cells {k : IntKind} : ∀ (xs : List (List Int)), ((xs.map fun x => Value.agg (nums k x).toArray).flatMap fun v => v.cells.toList) = nums k xs.flatten
  | [] => rfl
  | x :: xs => by
    rw [List.map_cons, List.flatMap_cons, flat_cells xs, List.flatten_cons]
    simp [Value.cells, nums]
theorem built_tags {P : Program} (t e : TypeId) (m : Nat) (it ie : TypeInfo) (z : Value) (hit : P.info? t = some it) (hu : P.underlying t = some (.array m e)) (hz : it.zero = some z) (hie : P.info? e = some ie) (hs : ie.size = 32) (hzs : z.cells.size = m * 32)
    (xs : List (List Int)) (hm : xs.length = m) (h32 : T32 xs) : P.built t (((xs.map fun x => Value.agg (nums .u8 x).toArray).zipIdx 0).map fun x => (x.2, x.1)) = some (nums .u8 xs.flatten).toArray := by
  unfold Program.built
  simp only [hit, hu, hz, hie, hs]
  rw [Great.fill_whole (s := 32) (by decide) _ _ (by
    intro v hv
    obtain ⟨x, hx, rfl⟩ := List.mem_map.1 hv
    exact tags_size x (h32 x hx)) (by rw [List.length_map, hm, hzs]), flat_cells]
theorem infoTag : (Try.prog.info? 24).map (fun i => (i.zero, i.size, i.bytes)) = some (some (.agg (nums .u8 (List.replicate 32 0)).toArray), 32, 32) := by kernel_rfl
theorem infoTag4 : (Try.prog.info? 123).map (fun i => (i.zero, i.size, i.bytes)) = some (some (.agg (nums .u8 (List.replicate 128 0)).toArray), 128, 128) := by kernel_rfl
theorem run_build4 {o : Oper} {a : Act} (x0 x1 x2 x3 : Operand) (ho : o.op = .build 123 #[(0, x0), (1, x1), (2, x2), (3, x3)]) (a0 a1 a2 a3 : List Int) (h0 : a.eval x0 = .agg (nums .u8 a0).toArray) (h1 : a.eval x1 = .agg (nums .u8 a1).toArray) (h2 : a.eval x2 = .agg (nums .u8 a2).toArray) (h3 : a.eval x3 = .agg (nums .u8 a3).toArray)
    (h32 : T32 [a0, a1, a2, a3]) (w : World) : (execOp a.eval o).run Try.prog w = .ok (.value (.agg (nums .u8 [a0, a1, a2, a3].flatten).toArray)) w := by
  obtain ⟨ie, hie, hzz⟩ := Option.map_eq_some_iff.1 infoTag
  simp only [Prod.mk.injEq] at hzz
  obtain ⟨hz0, hz1, hz2⟩ := hzz
  obtain ⟨it, hit, hyy⟩ := Option.map_eq_some_iff.1 infoTag4
  simp only [Prod.mk.injEq] at hyy
  obtain ⟨hy0, hy1, hy2⟩ := hyy
  refine run_build_at 123 _ ho _ rfl _ (run_build w _ _ _ ?_)
  have h := built_tags (P := Try.prog) 123 24 4 it ie _ hit Try.underlying123 hy0 hie hz1 (by simp [Value.cells, nums]) [a0, a1, a2, a3] rfl h32
  rw [← h]
  simp [h0, h1, h2, h3, List.zipIdx]
theorem run_bs3 {o : Oper} {a : Act} (x0 x1 x2 : Operand) (ho : o.op = .buildSlice 104 3 #[(0, x0), (1, x1), (2, x2)]) (a0 a1 a2 : List Int) (h0 : a.eval x0 = .agg (nums .u8 a0).toArray) (h1 : a.eval x1 = .agg (nums .u8 a1).toArray) (h2 : a.eval x2 = .agg (nums .u8 a2).toArray)
    (h32 : T32 [a0, a1, a2]) (w : World) : (execOp a.eval o).run Try.prog w = .ok (.value (.slice (some ⟨w.heap.size, 0, none⟩) 3 3)) (w.alloc (.cells (nums .u8 [a0, a1, a2].flatten).toArray 24)) := by
  obtain ⟨ie, hie, hzz⟩ := Option.map_eq_some_iff.1 infoTag
  simp only [Prod.mk.injEq] at hzz
  obtain ⟨hz0, hz1, hz2⟩ := hzz
  have h := run_buildSlice (P := Try.prog) w 104 24 3 #[(0, a.eval x0), (1, a.eval x1), (2, a.eval x2)] (nums .u8 [a0, a1, a2].flatten).toArray ie _ Try.underlying104 hie hz0 (by rw [hz1]; decide) (by rw [hz1]; decide) (by
    rw [hz1]
    rw [h0, h1, h2]
    have := Great.fill_whole (s := 32) (by decide) ([a0, a1, a2].map fun x => Value.agg (nums .u8 x).toArray) ((Array.range (3 * 32)).map ((Value.agg (nums .u8 (List.replicate 32 0)).toArray).cells[· % (Value.agg (nums .u8 (List.replicate 32 0)).toArray).cells.size]!)) (by
      intro v hv
      obtain ⟨x, hx, rfl⟩ := List.mem_map.1 hv
      exact tags_size x (h32 x hx)) (by simp)
    rw [flat_cells] at this
    exact this)
  unfold execOp
  simp only [ho]
  simp [Sem.run_bind, h, Result.andThen]
theorem run_bs1 {o : Oper} {a : Act} (x0 : Operand) (ho : o.op = .buildSlice 104 1 #[(0, x0)]) (a0 : List Int) (h0 : a.eval x0 = .agg (nums .u8 a0).toArray)
    (h32 : a0.length = 32) (w : World) : (execOp a.eval o).run Try.prog w = .ok (.value (.slice (some ⟨w.heap.size, 0, none⟩) 1 1)) (w.alloc (.cells (nums .u8 a0).toArray 24)) := by
  obtain ⟨ie, hie, hzz⟩ := Option.map_eq_some_iff.1 infoTag
  simp only [Prod.mk.injEq] at hzz
  obtain ⟨hz0, hz1, hz2⟩ := hzz
  have h := run_buildSlice (P := Try.prog) w 104 24 1 #[(0, a.eval x0)] (nums .u8 [a0].flatten).toArray ie _ Try.underlying104 hie hz0 (by rw [hz1]; decide) (by rw [hz1]; decide) (by
    rw [hz1]
    rw [h0]
    have := Great.fill_whole (s := 32) (by decide) ([a0].map fun x => Value.agg (nums .u8 x).toArray) ((Array.range (1 * 32)).map ((Value.agg (nums .u8 (List.replicate 32 0)).toArray).cells[· % (Value.agg (nums .u8 (List.replicate 32 0)).toArray).cells.size]!)) (by
      intro v hv
      obtain ⟨x, hx, rfl⟩ := List.mem_map.1 hv
      obtain rfl := List.mem_singleton.1 hx
      exact tags_size _ h32) (by simp)
    rw [flat_cells] at this
    exact this)
  rw [show [a0].flatten = a0 from by simp] at h
  unfold execOp
  simp only [ho]
  simp [Sem.run_bind, h, Result.andThen]
theorem own_zero (w : World) (e size : Nat) : (w.alloc (.cells #[] e)).ownsRow w.heap.size e size (.slice (some ⟨w.heap.size, 0, none⟩) 0 0) 0 [] := ⟨by simp, .inr ⟨w.heap.size, 0, #[], rfl, Nat.le_refl _, heap_alloc_new w _, Nat.le_refl _, by decide, by simp, by simp⟩⟩
theorem run_append_tags (w : World) (base : Nat) (ty : TypeId) (v : Value) (n : Nat) (xs : List Value) (hown : w.ownsRow base 24 32 v n xs) (b o m c : Nat) (ys : List Int) (hl : ys.length = m * 32) (hr : w.rangeAt b o (nums .u8 ys)) (hs : n + m ≤ 1000) (hbase : base ≤ w.heap.size) :
    ∃ v' w', (Builtin.append_ #[104, 104] ty #[v, .slice (some ⟨b, o, none⟩) m c]).run Try.prog w = .ok v' w' ∧ w'.ownsRow base 24 32 v' (n + m) (xs ++ nums .u8 ys) ∧ w.grownBy w' v.ownBlock ∧ (v'.ownBlock = v.ownBlock ∨ v'.ownBlock = some w.heap.size) := by
  obtain ⟨i0, hi, hzz⟩ := Option.map_eq_some_iff.1 infoTag
  simp only [Prod.mk.injEq] at hzz
  obtain ⟨hz0, hz1, hz2⟩ := hzz
  obtain ⟨v', w', h1, h2, h3, -, h5⟩ := run_append_own_at (P := Try.prog) w base 104 ty 24 i0 _ 32 32 Try.underlying104 hi hz0 hz1 hz2 (by simp [Value.cells, nums]) (by decide) v n xs hown ⟨b, o, none⟩ m c (nums .u8 ys) (by simp [nums, hl])
    (fun j u hu => by rw [Addr.add_mid]; exact hr j u hu) (fun u hu => by unfold nums at hu; obtain ⟨n, _, rfl⟩ := List.mem_map.1 hu; rfl) (by simp only [maxLen]; omega) (by omega) hbase
  exact ⟨v', w', h1, h2, h3, h5⟩
theorem exec_append_tags {oo : Oper} {a : Act} (s x : Operand) (ho : oo.op = .call { callee := .builtin .append, args := #[s, x], argTypes := #[104, 104] }) (w : World) (base : Nat) (v : Value) (n : Nat) (xs : List Value) (hs : a.eval s = v) (hown : w.ownsRow base 24 32 v n xs) (b o m c : Nat) (hx : a.eval x = .slice (some ⟨b, o, none⟩) m c)
    (ys : List Int) (hl : ys.length = m * 32) (hr : w.rangeAt b o (nums .u8 ys)) (hn : n + m ≤ 1000) (hbase : base ≤ w.heap.size) :
    ∃ v' w', (execOp a.eval oo).run Try.prog w = .ok (.value v') w' ∧ w'.ownsRow base 24 32 v' (n + m) (xs ++ nums .u8 ys) ∧ w.grownBy w' v.ownBlock ∧ (v'.ownBlock = v.ownBlock ∨ v'.ownBlock = some w.heap.size) := by
  obtain ⟨v', w', h1, h2⟩ := run_append_tags w base oo.type v n xs hown b o m c ys hl hr hn hbase
  refine ⟨v', w', ?_, h2⟩
  unfold execOp
  simp only [ho, resolve, invoke, builtin, Sem.run_bind, Sem.run_pure, Result.andThen_ok, List.map_toArray, List.map_cons, List.map_nil, hs, hx, h1]
theorem list_event {P : Program} {ops : Array Oper} {rest : List Oper} {o : Oper} {a : Act} {w : World} {Q : Exit → Act → World → Prop} (hw : Region.wanted o (yielded ops a.tmps) = true) (v : Value) (w1 : World) (hrun : (execOp a.eval o).run P w = .ok (.value v) w1) (h : wpList P ops Q rest (a.put o.dst v) w1) : wpList P ops Q (o :: rest) a w :=
  wpList_step fun K hK => Go.Proofs.YtoiiacbbfhlocaaW.PrintWords.event_step hw hrun (hK _ _ h)
def GivesRow (z : List (List Int)) (w : World) (e : Ending) (w' : World) : Prop := ∃ v, e = .returned v ∧ w'.ownsRow w.heap.size 24 32 v z.length (nums .u8 z.flatten) ∧ Below w.heap.size w w'
set_option maxRecDepth 100000 in
theorem clone_any (b o n c : Nat) (z : List (List Int)) (w : World) (hz : w.rangeAt b o (nums .u8 z.flatten)) (hzl : z.length = n) (hn1 : n ≤ 500) (h32 : T32 z) :
    Calls Try.prog 128 #[.slice (some ⟨b, o, none⟩) n c] w (GivesRow z w) := by
  have HZ := Lib.hid hz
  have HZL := Lib.hid hzl
  have H32 := Lib.hid h32
  have q1 := fun w a n c n' c' => Lib.run_eql_slice_nil (P := Try.prog) w 104 24 a n c n' c' Try.underlying104
  clear hz hzl h32
  go_enter Try.func128, Try.ntmps128
  go_wp2_with (((with_reducible refine gate_builtin (b := .append) (xs := #[.tmp 5, .tmp 6]) rfl ?_); at_builtin; refine blk ?_))
  have hO := own_zero w 24 32
  obtain ⟨v', w', hrun, hown, hg, -⟩ := exec_append_tags (a := { tmps := #[Value.slice (some { block := b, off := o }) n c, undef, Value.slice none 0 0, Value.slice (some { block := b, off := o }) n c, Value.bool false, Value.slice (some { block := w.heap.size, off := 0 }) 0 0, Value.slice (some { block := b, off := o }) n c, undef], defers := [] }) (.tmp 5) (.tmp 6)
    (oo := { dst := some 7, op := .call { callee := .builtin .append, args := #[.tmp 5, .tmp 6], argTypes := #[104, 104] }, type := 104, pos := "slices.go:362", after := #[{ on := 0, ground := .data }, { on := 1, ground := .data }], guard := none }) rfl
    (w.alloc (.cells #[] 24)) w.heap.size _ 0 [] rfl hO b o n c rfl z.flatten (by rw [H32.out.flat, HZL.out]) (fun j u hu => by
      have hc := HZ.out j u hu
      exact ((Below.refl w.heap.size w).alloc (Nat.le_refl _) _).cell (p := ⟨b, o + j, none⟩) (World.block_lt_of_cell? _ _ hc) |>.trans hc) (by omega) (by simp)
  refine ⟨list_event rfl v' w' hrun ?_⟩
  have HB := Lib.hid (((Below.refl w.heap.size w).alloc (Nat.le_refl _) (.cells #[] 24)).grown hg (by simp) (own_base hO))
  have HO := Lib.hid hown
  clear hrun hown hg hO
  go_wp2
  go_ret
  refine ⟨v', rfl, ?_, HB.out⟩
  have h := HO.out
  rw [Nat.zero_add, List.nil_append, ← HZL.out] at h
  exact h
end Go.Proofs.Ytoiiacbbfhlocaa.HMa
end
section
set_option linter.unusedVariables false
set_option linter.unusedSimpArgs false
namespace Go.Proofs.Ytoiiacbbfhlocaa.HMa
open Go.RowKit Go.Shelf Go.Proofs.YtoiiacbbfhlocaaW.PrintWords Go.Proofs.YtoiiacbbfhlocaaW.PrintLast Go.Proofs.YtoiiacbbfhlocaaW.PrintMore Go.Proofs.Ytoiiacbbfhlocaa.Kit Go.Proofs.Ytoiiacbbfhlocaa.HHa Go.Proofs.Ytoiiacbbfhlocaa.HSa
attribute [local irreducible] sumF padX inF hmF jN jF kF padK
attribute [local go_sem] Oper.semAt_some
def chunkV (b o n : Nat) (i : Nat) : Value := .slice (some ⟨b, o + i * 128, none⟩) (min 4 (n - 4 * i)) (min 4 (n - 4 * i))
abbrev Fo (n : Nat) := { i : Nat // 4 * i < n }
def KeepTwo (gs gn : Nat) (W W' : World) : Prop := W'.heap[gs]? = W.heap[gs]? ∧ W'.heap[gn]? = W.heap[gn]?
theorem KeepTwo.t {gs gn : Nat} {A B C : World} (h : KeepTwo gs gn A B) (k : KeepTwo gs gn B C) : KeepTwo gs gn A C := ⟨k.1.trans h.1, k.2.trans h.2⟩
theorem KeepTwo.b {gs gn : Nat} {w : World} (hs : gs < w.heap.size) (hn : gn < w.heap.size) (W : World) (l : Nat) (o o' : Obj) (hl : w.heap.size ≤ l) (h : W.heap[l]? = some o) (_ : o.isCells = false) (_ : o.isWalk = false) : KeepTwo gs gn W (W.putObj l o') :=
  ⟨(grownBy_putObj' W l o').block gs (by have := (Array.getElem?_eq_some_iff.1 h).1; omega) (fun e => by have := Option.some.inj e; omega), (grownBy_putObj' W l o').block gn (by have := (Array.getElem?_eq_some_iff.1 h).1; omega) (fun e => by have := Option.some.inj e; omega)⟩
theorem exec_slice_l {oo : Oper} {a : Act} (x lo : Operand) (ho : oo.op = .slice 104 x (some lo) none none) (b o n c : Nat) (l : Int) (p : Nat) (hx : a.eval x = .slice (some ⟨b, o, none⟩) n c) (hlo : a.eval lo = .int .i64 l) (hl : l = p) (hp : p < n) (hc : n ≤ c) (w : World) :
    (execOp a.eval oo).run Try.prog w = .ok (.value (.slice (some ⟨b, o + p * 32, none⟩) (n - p) (c - p))) w := by
  obtain ⟨ie, hie, hzz⟩ := Option.map_eq_some_iff.1 infoTag
  simp only [Prod.mk.injEq] at hzz
  obtain ⟨hz0, hz1, hz2⟩ := hzz
  have hu := Try.underlying104
  have hel : Try.prog.elem 104 = 24 := by simp [Program.elem, hu]
  have hut : Try.prog.underlying 104 = some (.slice (Try.prog.elem 104)) := by rw [hel]; exact hu
  subst hl
  have h := run_slice_l w 104 (some ⟨b, o, none⟩) n c hut .i64 (p : Int) (by omega) (by omega)
  rw [hel] at h
  have hne : ¬ c = p := by omega
  unfold execOp
  simp only [ho]
  simp [hx, hlo, run_sliceAt_slice _ _ _ _ _ _ hut, h, sizeOf, typeInfo, hie, hz1, sliced, Result.andThen, hne, Addr.add_mid]
set_option maxHeartbeats 2000000 in
theorem chunk_stops (A : Option Addr) (b o n c gs gn : Nat) (w : World) (hs : Boxed w gs 104 (.slice A n c)) (h4 : Boxed w gn 3 (.int .i64 4)) (hA : 0 < n → A = some ⟨b, o, none⟩) (hn : n ≤ 500) (hnc : n ≤ c) :
    SeqStopsK Fence.wide 8 Try.prog 142 #[.pointer (some ⟨gs, 0, none⟩), .pointer (some ⟨gn, 0, none⟩)] (fun i : Fo n => #[chunkV b o n i.1]) (KeepTwo gs gn) (fun xs => xs.map (·.1) = List.range ((n + 3) / 4)) (fun pre => True) ((n + 3) / 4) w := fun l J Jx W hW hJ hJx hY h0 => by
  refine callsIn_of_wp Try.func142 rfl trivial ?_ rfl
  simp only [Try.ntmps142, List.size_toArray, List.length_cons, List.length_nil, Nat.reduceAdd, Nat.reduceSub, Array.replicate_succ, Array.replicate_zero, List.push_toArray, List.append_toArray, List.nil_append, List.cons_append]
  have HSS := Lib.hid (show Boxed W gs 104 (.slice A n c) from (hW.block _ hs.lt).trans hs)
  have HNN := Lib.hid (show Boxed W gn 3 (.int .i64 4) from (hW.block _ h4.lt).trans h4)
  have HA := Lib.hid hA
  clear hs h4 hW hA
  gi_wp2
  gi_loopw [4] (fun sv wr => ∃ (k p : Nat), k ≤ (n + 3) / 4 ∧ p = 4 * k ∧ sv = .int .i64 p ∧ Boxed wr gs 104 (.slice A n c) ∧ Boxed wr gn 3 (.int .i64 4) ∧ ∃ ys : List (Fo n), ys.map (·.1) = List.range k ∧ J ys wr) (fun sv _ => n + 4 - (intOf sv).toNat)
  case atStart => exact ⟨0, 0, by omega, rfl, rfl, HSS.out, HNN.out, [], rfl, h0⟩
  case round =>
    obtain ⟨k, p, hk, hp, rfl, hbs, hbn, ys, hys, hJk⟩ := hrel
    have HYS := Lib.hid hys
    have HYL := Lib.hid (show ys.length = k by rw [← List.length_map (f := fun (x : Fo n) => x.1), hys, List.length_range])
    clear hys
    have hcs := hbs.cell
    have hcn := hbn.cell
    have HP := Lib.hid hp
    by_cases hlt : p < n
    · have hltz : (p : Int) < (n : Int) := by omega
      have h5 : ¬ (p : Int) < 0 := by omega
      have h6 : (p : Int) ≤ (n : Int) := by omega
      have hAe := HA.out (by omega)
      subst hAe
      have hmin : (if ((n - p : Nat) : Int) < 4 then ((n - p : Nat) : Int) else 4) = ((min 4 (n - p) : Nat) : Int) := by split <;> omega
      have hJd : J ys wr.drew := hJ _ wr _ none hJk ⟨rfl, rfl, rfl, Nat.le_refl _, fun _ _ _ => rfl⟩ (fun _ h => by cases h)
      obtain ⟨x, hx⟩ : ∃ x : Fo n, x.1 = k := ⟨⟨k, by omega⟩, rfl⟩
      have HX := Lib.hid hx
      have HY := Lib.hid (hY ys x wr.drew hJd (by rw [HYL.out]; omega))
      clear hp hY hx
      gi_wp2
      refine wpIn_wide.2 ?_
      refine s_region (fun u => Boxed u gs 104 (.slice (some ⟨b, o, none⟩) n c) ∧ Boxed u gn 3 (.int .i64 4)) (by kernel_rfl) 7 (by kernel_rfl) ⟨hbs, hbn⟩ (fun hS => ?_)
      refine s_take 0 (.int .i64 4) hS rfl (by kernel_rfl) (by kernel_rfl) (by kernel_rfl) (fun _ _ _ h => h) rfl (fun w' hw' => by (have hc0 := Boxed.cell hw'.2; unfold execOp; simp [go_sem, Act.put, Act.eval, hc0])) ?_
      simp only [Act.put, List.setIfInBounds_toArray, List.set_cons_zero, List.set_cons_succ]
      refine s_take 1 (.slice (some ⟨b, o, none⟩) n c) hS rfl (by kernel_rfl) (by kernel_rfl) (by kernel_rfl) (fun _ _ _ h => h) rfl (fun w' hw' => by (have hc0 := Boxed.cell hw'.1; unfold execOp; simp [go_sem, Act.put, Act.eval, hc0])) ?_
      simp only [Act.put, List.setIfInBounds_toArray, List.set_cons_zero, List.set_cons_succ]
      refine s_take 2 (.int .i64 (p : Int)) hS rfl (by kernel_rfl) (by kernel_rfl) (by kernel_rfl) (fun _ _ _ h => h) rfl (fun w' hw' => by (unfold execOp; simp [go_sem, Act.put, Act.eval])) ?_
      simp only [Act.put, List.setIfInBounds_toArray, List.set_cons_zero, List.set_cons_succ]
      refine s_take 3 (.slice (some ⟨b, o + p * 32, none⟩) (n - p) (c - p)) hS rfl (by kernel_rfl) (by kernel_rfl) (by kernel_rfl) (fun _ _ _ h => h) rfl (fun w' hw' => exec_slice_l (.tmp 14) (.tmp 15) rfl b o n c p p rfl rfl rfl hlt hnc w') ?_
      simp only [Act.put, List.setIfInBounds_toArray, List.set_cons_zero, List.set_cons_succ]
      refine s_take 4 (.int .i64 ((n - p : Nat) : Int)) hS rfl (by kernel_rfl) (by kernel_rfl) (by kernel_rfl) (fun _ _ _ h => h) rfl (fun w' hw' => by (unfold execOp; simp [go_sem, Act.put, Act.eval])) ?_
      simp only [Act.put, List.setIfInBounds_toArray, List.set_cons_zero, List.set_cons_succ]
      refine s_take 5 (.int .i64 ((min 4 (n - p) : Nat) : Int)) hS rfl (by kernel_rfl) (by kernel_rfl) (by kernel_rfl) (fun _ _ _ h => h) rfl (fun w' hw' => by (have hc0 := hmin; unfold execOp; simp [go_sem, Act.put, Act.eval, hc0])) ?_
      simp only [Act.put, List.setIfInBounds_toArray, List.set_cons_zero, List.set_cons_succ]
      refine s_take 6 (.int .i64 ((min 4 (n - p) : Nat) : Int)) hS rfl (by kernel_rfl) (by kernel_rfl) (by kernel_rfl) (fun _ _ _ h => h) rfl (fun w' hw' => by (unfold execOp; simp [go_sem, Act.put, Act.eval])) ?_
      simp only [Act.put, List.setIfInBounds_toArray, List.set_cons_zero, List.set_cons_succ]
      refine s_done (by kernel_rfl) ?_
      obtain ⟨q, hq⟩ : ∃ q, q = min 4 (n - p) := ⟨_, rfl⟩
      rw [← hq]
      have HQ := Lib.hid hq
      have hq1 : 0 < q := by omega
      have hq2 : p + q ≤ n := by omega
      clear hq hmin
      generalize hwd : wr.drew = wd at *
      have hcs := hS.1.cell
      have hcn := hS.2.cell
      clear hwd
      have hck : chunkV b o n x.1 = .slice (some ⟨b, o + p * 32, none⟩) q q := by
        unfold chunkV
        rw [HX.out, HQ.out, HP.out, show o + k * 128 = o + 4 * k * 32 from by omega]
      rw [hck] at HY
      obtain ⟨fn, tmps, assign, body, hy, hR⟩ := HY.out
      (try dsimp only at hy)
      clear HY hck
      have hq3 : (p : Int) + (q : Int) ≤ c := by omega
      have hq4 : (p : Int) ≤ (p : Int) + (q : Int) := by omega
      gi_wp2
      refine hR.mono ?_
      clear hy hR
      rintro e W3 (⟨rfl, hJ3, hk3⟩ | ⟨rfl, hx3⟩)
      · have hs3 : Boxed W3 gs 104 (.slice (some ⟨b, o, none⟩) n c) := hk3.1.trans hS.1
        have hn3 : Boxed W3 gn 3 (.int .i64 4) := hk3.2.trans hS.2
        have hcs := hs3.cell
        have hcn := hn3.cell
        have HS3 := Lib.hid hs3
        have HN3 := Lib.hid hn3
        clear hs3 hn3 hk3 hS
        gi_wp2
        go_roundw
        case rel => exact ⟨k + 1, p + 4, by have := HP.out; omega, by have := HP.out; omega, by go_num, HS3.out, HN3.out, _, by rw [List.range_succ, List.map_append, HYS.out, ← HX.out]; rfl, hJ3⟩
        case measure => simp [intOf]; omega
      · gi_wp2
        (try simp only [Exit.inBlock, Exit.then])
        refine bodyPost_ret (results_none rfl _ _ _) rfl ?_
        exact ⟨⟨_, rfl⟩, .inr ⟨_, trivial, hx3⟩⟩
    · have hltz : ¬ (p : Int) < (n : Int) := by omega
      have HK := Lib.hid (show k = (n + 3) / 4 by omega)
      clear hp hk
      gi_wp2
      go_end0
      exact ⟨⟨_, rfl⟩, .inl ⟨ys, by rw [← HK.out]; exact HYS.out, hJk⟩⟩
theorem chunk_any (A : Option Addr) (n c : Nat) (w : World) :
    Calls Try.prog 127 #[.slice A n c, .int .i64 4] w fun e w' => e = .returned (.func (.func 142) #[] #[.pointer (some ⟨w.heap.size, 0, none⟩), .pointer (some ⟨w.heap.size + 1, 0, none⟩)]) ∧ Boxed w' w.heap.size 104 (.slice A n c) ∧ Boxed w' (w.heap.size + 1) 3 (.int .i64 4) ∧ Below w.heap.size w w' := by
  go_enter Try.func127, Try.ntmps127
  go_wp2
  go_ret
  refine ⟨by simp, (Boxed.new w _ _).alloc _, ?_, ((Below.refl w.heap.size w).alloc (Nat.le_refl _) _).alloc (by simp) _⟩
  have h := Boxed.new (w.alloc (.cells #[.slice A n c] 104)) 3 (.int .i64 4)
  simpa using h
end Go.Proofs.Ytoiiacbbfhlocaa.HMa
end
