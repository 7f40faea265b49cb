import Derived.Test.YtljmjeaocojnmaaPSe
import Derived.Test.YtljmjeaocojnmaaMake
import Derived.Test.YtljmjeaocojnmaaEq
import Derived.Deep.RegionHeld3
import Derived.Deep.DrawnRows
import Derived.Test.YtljmjeaocojnmaaView
section
/- Layer 2: the contract of hmac.pad, by hand. -/
set_option linter.unusedVariables false
set_option linter.unusedSimpArgs false
namespace Go.Proofs.Ytljmjeaocojnmaa.HHa
open Go.RowKit Go.Proofs.YtljmjeaocojnmaaW.PrintWords Go.Proofs.YtljmjeaocojnmaaW.PrintLast Go.Proofs.YtljmjeaocojnmaaW.PrintMore Go.Proofs.Ytljmjeaocojnmaa.Kit Go.Proofs.Ytljmjeaocojnmaa.HSa
def fillK (k : List Int) : List Int := k ++ List.replicate (64 - k.length) 0
def padK (key : List Int) : List Int := fillK (if 64 < key.length then sumF key else key)
def xorB (x : Int) (b : Int) : Int := Go.bits .xor .u8 b x
def padX (key : List Int) (x : Int) : List Int := (padK key).map (xorB x)
theorem fillK_length (k : List Int) (h : k.length ≤ 64) : (fillK k).length = 64 := by unfold fillK; simp; omega
theorem padK_length (key : List Int) : (padK key).length = 64 := by
  unfold padK
  apply fillK_length
  split
  · rw [sumF_len]; omega
  · omega
theorem padX_length (key : List Int) (x : Int) : (padX key x).length = 64 := by simp [padX, padK_length]
def xorN (K : List Int) (x : Int) (k : Nat) : List Int := (K.take k).map (xorB x) ++ K.drop k
theorem xorN_length (K : List Int) (x : Int) (k : Nat) (h : k ≤ K.length) : (xorN K x k).length = K.length := by simp [xorN]; omega
theorem xorN_at (K : List Int) (x : Int) (k : Nat) (h : k < K.length) : (xorN K x k).getD k 0 = K.getD k 0 := by
  unfold xorN
  simp only [List.getD_eq_getElem?_getD]
  rw [List.getElem?_append_right (by simp; omega)]
  simp [show min k K.length = k from by omega]
theorem xorN_set (K : List Int) (x : Int) (k : Nat) (h : k < K.length) : (xorN K x k).set k (xorB x (K.getD k 0)) = xorN K x (k + 1) := by
  unfold xorN
  have hl : ((K.take k).map (xorB x)).length = k := by simp; omega
  have e : K.getD k 0 = K[k] := by simp [List.getD_eq_getElem?_getD, h]
  rw [e, List.drop_eq_getElem_cons h, List.set_append_right _ _ (by omega), hl, Nat.sub_self, List.set_cons_zero, List.take_succ_eq_append_getElem h, List.map_append, List.append_assoc]
  rfl
theorem sum_zeros (key : List Int) (h : sumF key = List.replicate 32 0) : fillK (sumF key) = fillK [] := by rw [h]; rfl
attribute [local irreducible] sumF fillK padK xorN
set_option maxHeartbeats 2000000 in
set_option maxRecDepth 100000 in
theorem pad_any (A0 : Option Addr) (c0 : Nat) (key : List Int) (x : Int) (w : World) (hr : Kd.C (Kd.int .u8) w A0 key.length key) (hc : key.length ≤ c0) (hl : key.length ≤ 100000) :
    Calls Try.prog 62 #[.slice A0 key.length c0, .int .u8 x] w (OutB w (padX key x)) := by
  have HR := Lib.hid hr
  obtain ⟨n, hn⟩ : ∃ n, n = key.length := ⟨_, rfl⟩
  have HN := Lib.hid hn
  rw [← hn] at hc hl ⊢
  clear hr hn
  have HPK : Hid (padK key = fillK (if 64 < key.length then sumF key else key)) := Lib.hid (by unfold padK; rfl)
  by_cases hbig : 64 < n
  focus
    have HS := sum_any A0 c0 key w HR.out (by rw [← HN.out]; exact hc) (by rw [← HN.out]; omega)
    rw [← HN.out] at HS
    have HS := Lib.hid HS
    obtain ⟨xs, hxs⟩ : ∃ xs, xs = sumF key := ⟨_, rfl⟩
    have HXL : Hid (xs.length = 32) := Lib.hid (by rw [hxs]; exact sumF_len key)
    have hpk : padK key = fillK xs := by rw [HPK.out, if_pos (by rw [← HN.out]; exact hbig), hxs]
    have HP := Lib.hid hpk
    have HXE := Lib.hid hxs
    obtain ⟨Z, hZ⟩ : ∃ Z : List Int, Z = List.replicate 32 0 := ⟨_, rfl⟩
    have heq := fun w => eql_arrs (P := Try.prog) 27 5 32 .u8 xs Z Try.underlying27 Try.underlying5 (by kernel_rfl) HXL.out (by rw [hZ]; simp) w
    have hpz : decide (xs = Z) = true → padK key = fillK [] := fun h => by rw [hpk, hxs]; exact sum_zeros key (by rw [← hxs, ← hZ]; simpa using h)
    have HPZ := Lib.hid hpz
    have HZE := Lib.hid hZ
    clear hpk hpz hxs hZ
    have hgt : Try.prog.eqGuardType Try.prog.depth 27 = false := by kernel_rfl
    cases hz : decide (xs = Z)
    all_goals
      rw [hz] at heq
      have HZ := Lib.hid hz
      clear hz
      go_enter Try.func62, Try.ntmps62
      go_wp2_with fail
      refine HS.out.mono ?_
      rintro e w1 ⟨rfl, hB1⟩
      rw [← HXE.out]
      go_wp2_with (first
        | ((with_reducible refine gate_dst (N := 5) rfl ?_); refine alloc_arr rfl 27 rfl .u8 (List.replicate 32 0) (fun w => Try.zeroValue27 w) (by first | (go_simp; done) | (go_simp; rfl)) ?_; intro w2 hA2 hB2)
        | ((with_reducible refine gate_store (t := 27) (p := 5) rfl ?_); refine store_arr rfl 27 _ _ rfl w1.heap.size .u8 xs rfl rfl 27 _ hA2 (by rw [HXL.out]; rfl) (by rw [HXL.out]; kernel_rfl) ?_; intro w3 hA3 hw3; have hB3 := below_setRow hB2 w1.heap.size (Nat.le_refl _) (nums .u8 xs).toArray; rw [← hw3] at hB3; have hB13 := below_next hB1 hB3; clear hw3 hA2 hB2)
        | ((with_reducible refine gate_dst (N := 6) rfl ?_); refine alloc_arr rfl 27 rfl .u8 (List.replicate 32 0) (fun w => Try.zeroValue27 w) (by first | (go_simp; done) | (go_simp; rfl)) ?_; intro w4 hA4 hB4)
        | ((with_reducible refine gate_store (t := 27) (p := 6) rfl ?_); refine store_arr rfl 27 _ _ rfl w3.heap.size .u8 Z rfl (by rw [HZE.out]; rfl) 27 _ hA4 (by rw [HZE.out]) (by rw [HZE.out]; kernel_rfl) ?_; intro w5 hA5 hw5; have hB5 := below_setRow hB4 w3.heap.size (Nat.le_refl _) (nums .u8 Z).toArray; rw [← hw5] at hB5; have HA35 := Lib.hid (hA3.next hB5); have HA5 := Lib.hid hA5; have HB15 := Lib.hid (below_next hB13 hB5); clear hw5 hA5 hA4 hB4 hB5 hA3 hB3 hB13)
        | ((with_reducible refine gate_dst (N := 15) rfl ?_); refine load_arr rfl 27 _ rfl w1.heap.size rfl .u8 _ _ _ _ HA35.out Try.underlying27 (by rw [HXL.out]; kernel_rfl) ?_)
        | ((with_reducible refine gate_dst (N := 16) rfl ?_); refine load_arr rfl 27 _ rfl w3.heap.size rfl .u8 _ _ _ _ HA5.out Try.underlying27 (by rw [HZE.out]; kernel_rfl) ?_)
        | ((with_reducible refine gate_dst (N := 19) rfl ?_); refine make_arr rfl 22 _ _ rfl 5 .u8 64 rfl rfl (fun w => by kernel_rfl) ?_; intro w6 hA6 hB6)
        | ((with_reducible refine gate_builtin (b := .copy) (xs := #[.tmp 20, .tmp 21]) rfl ?_); refine copy_wp rfl (.tmp 20) (.tmp 21) 22 22 5 rfl w5.heap.size 64 64 (some ⟨w1.heap.size, 0, none⟩) 32 32 (List.replicate 64 0) xs rfl rfl hA6 ((HA35.out.next hB6).reads 32 HXL.out (by decide)) Try.underlying22 (by kernel_rfl) (by simp) (by decide) ?_; intro w7 hA7 hw7; have hB7 : Below w5.heap.size w5 w7 := (by rw [hw7]; exact below_sets (Nat.le_refl _) _ _ hB6); clear hw7 hA6 hB6)
        | ((with_reducible refine gate_builtin (b := .copy) (xs := #[.tmp 20, .tmp 21]) rfl ?_); refine copy_wp rfl (.tmp 20) (.tmp 21) 22 22 5 rfl w5.heap.size 64 64 none 0 0 (List.replicate 64 0) [] rfl rfl hA6 (Kd.C_nil _ _) Try.underlying22 (by kernel_rfl) (by simp) (by decide) ?_; intro w7 hA7 hw7; have hB7 : Below w5.heap.size w5 w7 := (by rw [hw7]; exact below_sets (Nat.le_refl _) _ _ hB6); clear hw7 hA6 hB6)
        | fail)
      have HA0 : Hid (Arr .u8 5 w7 w5.heap.size (padK key)) := Lib.hid (by
        first
          | (have e : xs ++ (List.replicate 64 (0 : Int)).drop 32 = padK key := by rw [HP.out]; unfold fillK; rw [HXL.out]; rfl
             rw [e] at hA7; exact hA7)
          | (have e : ([] : List Int) ++ (List.replicate 64 (0 : Int)).drop 0 = padK key := by rw [HPZ.out HZ.out]; unfold fillK; rfl
             rw [e] at hA7; exact hA7))
      have HB0 : Hid (Below w.heap.size w w7) := Lib.hid (below_next HB15.out hB7)
      have hgw : w.heap.size ≤ w5.heap.size := HB15.out.size
      clear hA7 hB7 HA35 HA5 HB15 heq hgt hB1
      generalize w5.heap.size = g at *
  rotate_left 2
  focus
    have hpk : padK key = fillK key := by rw [HPK.out, if_neg (by rw [← HN.out]; exact hbig)]
    have HP := Lib.hid hpk
    clear hpk
    go_enter Try.func62, Try.ntmps62
    go_wp2_with (first
      | ((with_reducible refine gate_dst (N := 19) rfl ?_); refine make_arr rfl 22 _ _ rfl 5 .u8 64 rfl rfl (fun w => by kernel_rfl) ?_; intro w6 hA6 hB6)
      | ((with_reducible refine gate_builtin (b := .copy) (xs := #[.tmp 20, .tmp 21]) rfl ?_); refine copy_wp rfl (.tmp 20) (.tmp 21) 22 22 5 rfl w.heap.size 64 64 A0 n c0 (List.replicate 64 0) key rfl rfl hA6 (by have h := Kd.C_below HR.out hB6; rw [← HN.out] at h; exact h) Try.underlying22 (by kernel_rfl) (by simp) (by omega) ?_; intro w7 hA7 hw7; have hB7 : Below w.heap.size w w7 := (by rw [hw7]; exact below_sets (Nat.le_refl _) _ _ hB6); clear hw7 hA6 hB6)
      | fail)
    have HA0 : Hid (Arr .u8 5 w7 w.heap.size (padK key)) := Lib.hid (by
      have e : key ++ (List.replicate 64 (0 : Int)).drop n = padK key := by
        rw [HP.out]
        unfold fillK
        rw [List.drop_replicate, ← HN.out]
      rw [e] at hA7
      exact hA7)
    have HB0 : Hid (Below w.heap.size w w7) := Lib.hid hB7
    obtain ⟨g, hg⟩ : ∃ g, g = w.heap.size := ⟨_, rfl⟩
    rw [← hg] at HA0 ⊢
    have hgw : w.heap.size ≤ g := by omega
    clear hA7 hB7 hg
  all_goals
    have HKL := Lib.hid (padK_length key)
    have HA1 : Hid (Arr .u8 5 w7 g (xorN (padK key) x 0)) := Lib.hid (by unfold xorN; simpa using HA0.out)
    clear HA0
    go_wp2_with fail
    go_loopw [25] (fun iv wr => ∃ k : Nat, iv = .int .i64 k ∧ k ≤ 64 ∧ Hid (Arr .u8 5 wr g (xorN (padK key) x k)) ∧ Hid (Below w.heap.size w wr)) (fun iv _ => 64 - (intOf iv).toNat)
    case atStart => exact ⟨0, rfl, by omega, HA1, HB0⟩
    case round =>
      clear HA1 HB0
      obtain ⟨k, rfl, hk, hA, hB⟩ := hrel
      by_cases hk64 : k < 64
      · have hc1 := hA.out.cellN k (by rw [xorN_length _ _ _ (by rw [HKL.out]; omega), HKL.out]; omega)
        rw [xorN_at _ _ _ (by rw [HKL.out]; omega)] at hc1
        have hf1 := hA.out.free k
        have HS : Hid (xorN (padK key) x (k + 1) = (xorN (padK key) x k).set k (Go.bits .xor .u8 ((padK key).getD k 0) x)) := Lib.hid (xorN_set (padK key) x k (by rw [HKL.out]; omega)).symm
        go_wp2
        go_roundw
        case rel => exact ⟨k + 1, by go_num, by omega, Lib.hid (by rw [HS.out]; exact hA.out.put k _), Lib.hid (below_setCell hB.out _ _ hgw _)⟩
        case measure => simp [intOf]; omega
      · have hk' : k = 64 := by omega
        subst hk'
        have HE : Hid (xorN (padK key) x 64 = padX key x) := Lib.hid (by unfold xorN padX; rw [List.take_of_length_le (by rw [HKL.out]; omega), List.drop_eq_nil_of_le (by rw [HKL.out]; omega), List.append_nil])
        go_wp2
        go_ret
        exact ⟨_, rfl, (by rw [← HE.out]; exact hA.out.row w.heap.size 64 (by rw [HE.out]; exact padX_length key x) hgw (by decide) (fun _ => True) trivial), hB.out⟩
end Go.Proofs.Ytljmjeaocojnmaa.HHa
end
section
/- Layer 2: the contract of hmac.Sum, by hand. -/
set_option linter.unusedVariables false
set_option linter.unusedSimpArgs false
namespace Go.Proofs.Ytljmjeaocojnmaa.HHa
open Go.RowKit Go.Proofs.YtljmjeaocojnmaaW.PrintWords Go.Proofs.YtljmjeaocojnmaaW.PrintLast Go.Proofs.YtljmjeaocojnmaaW.PrintMore Go.Proofs.Ytljmjeaocojnmaa.Kit Go.Proofs.Ytljmjeaocojnmaa.HSa
attribute [local go_sem ↓] Go.wp_at_zero Go.wp_at_succ
def inF (key b : List Int) : List Int := sumF (padX key 54 ++ b)
def hmF (key b : List Int) : List Int := sumF (padX key 92 ++ inF key b)
theorem inF_length (key b : List Int) : (inF key b).length = 32 := sumF_len _
theorem hmF_length (key b : List Int) : (hmF key b).length = 32 := sumF_len _
theorem arr_there {k : IntKind} {T : TypeId} {w : World} {g : Nat} {xs : List Int} (h : Arr k T w g xs) (n : Nat) (hn : xs.length = n) : w.there g 0 n := fun j hj => by
  rw [Nat.zero_add]
  exact ⟨by rw [h.cellN j (by omega)]; rfl, h.free j⟩
attribute [local irreducible] sumF padX inF hmF
set_option maxHeartbeats 2000000 in
set_option maxRecDepth 100000 in
theorem hsum_any (A0 : Option Addr) (c0 : Nat) (key : List Int) (A1 : Option Addr) (c1 : Nat) (b : List Int) (w : World) (hr : Kd.C (Kd.int .u8) w A0 key.length key) (hc : key.length ≤ c0) (hl : key.length ≤ 100000)
    (hr1 : Kd.C (Kd.int .u8) w A1 b.length b) (hc1 : b.length ≤ c1) (hl1 : b.length ≤ 100000) :
    Calls Try.prog 17 #[.slice A0 key.length c0, .slice A1 b.length c1] w (GivesArr .u8 (hmF key b) w) := by
  have HR := Lib.hid hr
  have HR1 := Lib.hid hr1
  obtain ⟨I, hI⟩ : ∃ I, I = inF key b := ⟨_, rfl⟩
  obtain ⟨E, hE⟩ : ∃ E, E = hmF key b := ⟨_, rfl⟩
  have HIL : Hid (I.length = 32) := Lib.hid (by rw [hI]; exact inF_length key b)
  have HEL : Hid (E.length = 32) := Lib.hid (by rw [hE]; exact hmF_length key b)
  obtain ⟨L1, hL1⟩ : ∃ L, L = padX key 54 ++ b := ⟨_, rfl⟩
  obtain ⟨L2, hL2⟩ : ∃ L, L = padX key 92 ++ I := ⟨_, rfl⟩
  have HI : Hid (sumF L1 = I) := Lib.hid (by rw [hL1, hI]; unfold inF; rfl)
  have HE : Hid (sumF L2 = E) := Lib.hid (by rw [hL2, hI, hE]; unfold hmF; rfl)
  have HL1 := Lib.hid hL1
  have HL2 := Lib.hid hL2
  have HE0 := Lib.hid hE
  obtain ⟨n1, hn1⟩ : ∃ n, n = L1.length := ⟨_, rfl⟩
  have hn1' : n1 ≤ 100064 := by rw [hn1, hL1, List.length_append, padX_length]; omega
  have hn2 : L2.length = 96 := by rw [hL2, List.length_append, padX_length, HIL.out]
  have HN1 := Lib.hid hn1
  have HN2 := Lib.hid hn2
  have HBL : Hid (b.length ≤ 100000) := Lib.hid hl1
  have HKL : Hid (key.length ≤ c0 ∧ key.length ≤ 100000) := Lib.hid ⟨hc, hl⟩
  clear hr hr1 hI hE hL1 hL2 hn1 hn2
  go_enter Try.func17, Try.ntmps17
  go_wp2_with (first
    | ((with_reducible refine gate_dst (N := 4) rfl ?_); refine alloc_arr rfl 27 rfl .u8 (List.replicate 32 0) (fun w => Try.zeroValue27 w) (by first | (go_simp; done) | (go_simp; rfl)) ?_; intro w1 hA1 hB1; have HA1 := Lib.hid hA1; have HB1 := Lib.hid hB1; have HR01 := Lib.hid (Kd.C_below HR.out hB1); have HR11 := Lib.hid (Kd.C_below HR1.out hB1); have hg1 : w.heap.size < w1.heap.size := hA1.lt; clear hA1 hB1)
    | fail)
  refine (pad_any A0 c0 key 54 w1 HR01.out HKL.out.1 HKL.out.2).mono ?_
  rintro e w2 ⟨v2, rfl, hO2, hB2⟩
  have HO2 := Lib.hid hO2
  have HB2 := Lib.hid hB2
  have HR12 := Lib.hid (Kd.C_below HR11.out hB2)
  clear hO2 hB2
  go_wp2_with (first
    | ((with_reducible refine gate_builtin (b := .append) (xs := #[.tmp 7, .tmp 8]) rfl ?_); at_builtin; refine Kd.R_append_rows (Kd.int .u8) (w0 := w1) w1.heap.size rfl (.tmp 7) (.tmp 8) 22 5 (.int .u8 0) 1 rfl Try.underlying22 info5 rfl (by decide) (by omega) v2 (padX key 54) b _ _ _ (fun _ => True) (fun _ => False) rfl rfl HO2.out HR12.out (fun _ _ h => h) (fun _ h => h.elim) (fun _ _ => trivial) HB2.out HB2.out.size ?aL ?_; (case aL => rw [padX_length]; have := HBL.out; omega); intro v3 w3 ho3 hb3 hg3 hat3; rw [← HL1.out] at ho3; have HB3 := Lib.hid hb3; obtain ⟨A3, c3, hv3, hlc3, hrd3⟩ := Kd.R_reads ho3; rw [← HN1.out] at hv3 hlc3 hrd3; subst hv3; have HRD3 := Lib.hid hrd3; clear ho3 hb3 hg3 hat3 hrd3)
    | fail)
  have hS := sum_any A3 c3 L1 w3 (by rw [← HN1.out]; exact HRD3.out) (by rw [← HN1.out]; exact hlc3) (by rw [← HN1.out]; omega)
  rw [← HN1.out, HI.out] at hS
  have HS := Lib.hid hS
  clear hS
  refine HS.out.mono ?_
  rintro e w4 ⟨rfl, hB4⟩
  have HB4 := Lib.hid (below_next HB3.out hB4)
  have HR14 := Lib.hid (Kd.C_below HR01.out HB4.out)
  have HA14 := Lib.hid (HA1.out.next HB4.out)
  clear hB4
  go_wp2_with (first
    | ((with_reducible refine gate_dst (N := 5) rfl ?_); refine alloc_arr rfl 26 rfl .u8 (List.replicate 32 0) (fun w => Try.zeroValue26 w) (by first | (go_simp; done) | (go_simp; rfl)) ?_; intro w5 hA5 hB5)
    | ((with_reducible refine gate_store (t := 26) (p := 5) rfl ?_); refine store_arr rfl 26 _ _ rfl w4.heap.size .u8 I rfl rfl 26 _ hA5 (by rw [HIL.out]; rfl) (by rw [HIL.out]; kernel_rfl) ?_; intro w6 hA6 hw6; have hB6 := below_setRow hB5 w4.heap.size (Nat.le_refl _) (nums .u8 I).toArray; rw [← hw6] at hB6; have HA6 := Lib.hid hA6; have HR16 := Lib.hid (Kd.C_below HR14.out hB6); have HA16 := Lib.hid (HA14.out.next hB6); have HB16 := Lib.hid (below_next HB4.out hB6); have hs6 : w4.heap.size < w6.heap.size := hA6.lt; clear hw6 hA6 hB6 hA5 hB5)
    | fail)
  have hs4 : w1.heap.size ≤ w4.heap.size := HB4.out.size
  generalize hg4 : w4.heap.size = g5 at *
  generalize hg0 : w.heap.size = g4 at *
  have HG0 := Lib.hid hg0
  clear hg0 hg4
  have hth : w6.there g4 0 32 := arr_there HA16.out 32 (by simp)
  have hi : (Try.prog.info? 27).map (·.size) = some (nums .u8 E).length := by rw [show (nums .u8 E).length = 32 from by simp [nums, HEL.out]]; kernel_rfl
  have hcl : (nums .u8 E).length = 32 := by simp [nums, HEL.out]
  have hone : ∀ v ∈ nums .u8 E, v.oneCell' = true := fun v hv => by simp only [nums, List.mem_map] at hv; obtain ⟨x, _, rfl⟩ := hv; rfl
  have hlit : (nums .u8 E).toArray.size = 32 := by simp [nums, HEL.out]
  go_wp2_with fail
  go_region_held3 (fun w' => w'.there g4 0 32)
    (first | go_keep_ranges | exact hkeep | exact World.there_setCells hkeep _ _ _)
    ((first
      | (go_at_call 62; refine (pad_any A0 c0 key 92 _ (by exact Kd.C_drew HR16.out) HKL.out.1 HKL.out.2).mono ?_; rintro e W1 ⟨v9, rfl, hO9, hB9⟩; have hkeep : W1.there g4 0 32 := arr_there (HA16.out.drew.next hB9) 32 (by simp); have HO9 := Lib.hid hO9; have HB9 := Lib.hid hB9; clear hO9 hB9)
      | ((refine Kd.R_append_rows_step (Kd.int .u8) (w0 := w6.drew) w6.heap.size (by rfl) (.tmp 12) (.tmp 13) 22 5 (.int .u8 0) 1 (by rfl) Try.underlying22 info5 rfl (by decide) (by omega) v9 (padX key 92) I (some ⟨g5, 0, none⟩) 32 32 (fun _ => True) (fun _ => False) (by rfl) (by rfl) (by exact HO9.out) (by exact (HA6.out.drew.next HB9.out).reads 32 HIL.out (by decide)) (fun _ _ h => h) (fun _ h => h.elim) (fun _ _ => trivial) (by exact HB9.out) (by exact HB9.out.size) (by rw [padX_length]; omega) ?_); intro v10 W2 ho10 hb10 hg10 hat10; have hkeep : W2.there g4 0 32 := arr_there (HA16.out.drew.next hb10) 32 (by simp); have HB10 := Lib.hid hb10; rw [← HL2.out] at ho10; obtain ⟨A10, c10, hv10, hlc10, hrd10⟩ := Kd.R_reads ho10; have HRD10 := Lib.hid hrd10; subst hv10; clear ho10 hb10 hg10 hat10 hrd10)
      | (go_at_call 61; (refine (sum_any A10 c10 L2 _ (by exact HRD10.out) hlc10 (by rw [HN2.out]; omega)).mono ?_); rintro e W3 ⟨rfl, hB11⟩; have hkeep : W3.there g4 0 32 := arr_there (HA16.out.drew.next (below_next (w := w6.drew) HB10.out hB11)) 32 (by simp); have HB11 := Lib.hid (below_next (w := w6.drew) HB10.out hB11); rw [HE.out]; clear hB11)))
  have HF : Hid (Arr .u8 27 (W3.setCells g4 0 (nums .u8 E)) g4 E) := Lib.hid (by
    have h := (HA16.out.drew.next HB11.out).cells E 0 (by rw [HEL.out]; simp)
    have e : (List.replicate 32 (0 : Int)).take 0 ++ E ++ (List.replicate 32 (0 : Int)).drop (0 + E.length) = E := by rw [HEL.out]; simp
    rwa [e] at h)
  have HBF : Hid (Below w.heap.size w (W3.setCells g4 0 (nums .u8 E))) := Lib.hid (by
    rw [HG0.out]
    refine below_sets (Nat.le_refl _) _ _ ?_
    have h1 : Below g4 w w6 := HB1.out.trans (HB16.out.mono (by omega))
    exact (below_drew h1).trans (HB11.out.mono (by show g4 ≤ w6.heap.size; omega)))
  go_wp2_with fail
  exact bodyPost_ret (results_arr rfl _ _ g4 .u8 _ _ _ E rfl HF.out Try.underlying27 (by rw [HEL.out]; kernel_rfl)) rfl ⟨by rw [HE0.out], HBF.out⟩
end Go.Proofs.Ytljmjeaocojnmaa.HHa
end
section
/- Layer 2: the contract of hmac.Join, by hand. -/
set_option linter.unusedVariables false
set_option linter.unusedSimpArgs false
namespace Go.Proofs.Ytljmjeaocojnmaa.HHa
open Go.RowKit Go.Proofs.YtljmjeaocojnmaaW.PrintWords Go.Proofs.YtljmjeaocojnmaaW.PrintLast Go.Proofs.YtljmjeaocojnmaaW.PrintMore Go.Proofs.Ytljmjeaocojnmaa.Kit Go.Proofs.Ytljmjeaocojnmaa.HSa
def len4 (n : Nat) : List Int := [(n : Int) / 16777216 % 256, (n : Int) / 65536 % 256, (n : Int) / 256 % 256, (n : Int) % 256]
def jN (ps : List (List Int)) : Nat → List Int
  | 0 => []
  | k + 1 => jN ps k ++ len4 (ps.getD k []).length ++ ps.getD k []
def jF (ps : List (List Int)) : List Int := jN ps ps.length
attribute [local irreducible] sumF padX inF hmF jN
set_option maxHeartbeats 2000000 in
set_option maxRecDepth 100000 in
theorem join_any (A0 : Option Addr) (c0 : Nat) (key : List Int) (A1 : Option Addr) (c1 : Nat) (ps : List (List Int)) (w : World) (hr : Kd.C (Kd.int .u8) w A0 key.length key) (hc : key.length ≤ c0) (hl : key.length ≤ 100000)
    (hr1 : Kd.C (Kd.slice 5 (Kd.int .u8)) w A1 ps.length ps) (hc1 : ps.length ≤ c1) (hm : ps.length ≤ 100000) (hs : ∀ k, k ≤ ps.length → (jN ps k).length ≤ 90000) :
    Calls Try.prog 18 #[.slice A0 key.length c0, .slice A1 ps.length c1] w (GivesArr .u8 (hmF key (jF ps)) w) := by
  have HR := Lib.hid hr
  have HR1 := Lib.hid hr1
  have HS := Lib.hid hs
  obtain ⟨n, hn⟩ : ∃ n, n = ps.length := ⟨_, rfl⟩
  have HN := Lib.hid hn
  rw [← hn] at hc1 hm HR1 HS ⊢
  have HKL : Hid (key.length ≤ c0 ∧ key.length ≤ 100000) := Lib.hid ⟨hc, hl⟩
  clear hr hr1 hs hn
  have HAT : Hid (∀ k, k < n → ∃ b off A' c', A1 = some ⟨b, off, none⟩ ∧ w.cell? ⟨b, off + k, none⟩ = some (.slice A' (ps.getD k []).length c') ∧ (ps.getD k []).length ≤ c' ∧ Kd.C (Kd.int .u8) w A' (ps.getD k []).length (ps.getD k [])) := Lib.hid (fun k hk => by
    obtain ⟨b, off, e, h⟩ := rows_at HR1.out (by omega)
    obtain ⟨A', c', h1, h2, h3⟩ := h k hk
    exact ⟨b, off, A', c', e, h1, h2, h3⟩)
  go_enter Try.func18, Try.ntmps18
  go_wp2_with (first
    | ((with_reducible refine gate_dst (N := 4) rfl ?_); refine alloc_arr rfl 27 rfl .u8 (List.replicate 32 0) (fun w => Try.zeroValue27 w) (by first | (go_simp; done) | (go_simp; rfl)) ?_; intro w1 hA1 hB1; have HA1 := Lib.hid hA1; have HB1 := Lib.hid hB1; have hg1 : w.heap.size < w1.heap.size := hA1.lt; clear hA1 hB1)
    | fail)
  have H0 : Hid (Kd.R (Kd.int .u8) 5 w1 w1.heap.size (fun _ => True) (.slice none 0 0) (jN ps 0)) := Lib.hid (by unfold jN; exact Kd.R_nil _ _ _ _ _)
  go_loopw [5, 11] (fun v iv wr => ∃ (k m : Nat) (A' : Option Addr) (c' : Nat), v = .slice A' m c' ∧ iv = .int .i64 k ∧ k ≤ n ∧ Hid (m = (jN ps k).length) ∧ Hid (Kd.R (Kd.int .u8) 5 wr w1.heap.size (fun _ => True) (.slice A' m c') (jN ps k)) ∧ Hid (Below w1.heap.size w1 wr)) (fun _ iv _ => n - (intOf iv).toNat)
  case atStart => exact ⟨0, 0, none, 0, rfl, rfl, by omega, Lib.hid (by unfold jN; rfl), H0, Lib.hid (Below.refl _ _)⟩
  case round =>
    clear H0
    obtain ⟨k, m, A', c', rfl, rfl, hk, hm', hO, hB⟩ := hrel
    by_cases hkn : k < n
    · obtain ⟨b, off, Ap, cp, eA, hcell, hlp, hCp⟩ := HAT.out k hkn
      have hBw := below_next HB1.out hB.out
      have hcellr := (hBw.cell (p := ⟨b, off + k, none⟩) (World.block_lt_of_cell? w _ hcell)).trans hcell
      have HCp := Lib.hid hCp
      obtain ⟨p, hp⟩ : ∃ p, p = ps.getD k [] := ⟨_, rfl⟩
      obtain ⟨lp, hlp'⟩ : ∃ l, l = p.length := ⟨_, rfl⟩
      rw [← hp] at hcellr hlp HCp
      rw [← hlp'] at hcellr hlp HCp
      have HJ : Hid (jN ps (k + 1) = jN ps k ++ len4 lp ++ p) := Lib.hid (by rw [jN, ← hp, ← hlp'])
      have hJL : (jN ps k).length + 4 + lp ≤ 90000 := by
        have h := HS.out (k + 1) (by omega)
        rw [HJ.out, List.length_append, List.length_append, ← hlp'] at h
        simpa [len4] using h
      have hlp9 : lp ≤ 90000 := by omega
      have HJL := Lib.hid hJL
      have HLP := Lib.hid hlp'
      subst eA
      have HD : Hid (len4 lp = [(lp : Int) / 16777216, (lp : Int) / 65536, (lp : Int) / 256 % 256, (lp : Int) % 256]) := Lib.hid (by unfold len4; rw [show (lp : Int) / 16777216 % 256 = (lp : Int) / 16777216 from by omega, show (lp : Int) / 65536 % 256 = (lp : Int) / 65536 from by omega])
      clear hcell hBw hp hlp' hCp hJL
      go_wp2_with (first
        | ((with_reducible refine gate_builtin (b := .append) (xs := #[.tmp 17, .tmp 29]) rfl ?_); at_builtin; go_loud (refine Kd.R_append_rows (Kd.int .u8) (w0 := w1) w1.heap.size rfl (.tmp 17) (.tmp 29) 22 5 (.int .u8 0) 1 rfl Try.underlying22 info5 rfl (by decide) (by omega) (.slice A' m c') (jN ps k) [(lp : Int) / 16777216, (lp : Int) / 65536, (lp : Int) / 256 % 256, (lp : Int) % 256] (some ⟨wr.heap.size, 0, none⟩) 4 4 (fun _ => True) (fun _ => False) rfl rfl (Kd.R_alloc hO.out _) (by exact lit_reads .u8 [(lp : Int) / 16777216, (lp : Int) / 65536, (lp : Int) / 256 % 256, (lp : Int) % 256] rfl rfl (by simp) wr _) (fun _ _ h => h) (fun _ h => h.elim) (fun _ _ => trivial) (below_alloc hB.out _) (by have := hB.out.size; simp; omega) (by have := HJL.out; omega) ?_); intro v3 w3 ho3 hb3 hg3 hat3; rw [← HD.out] at ho3; have HO3 := Lib.hid ho3; have HB3 := Lib.hid hb3; have HCp3 := Lib.hid (Kd.C_below HCp.out (below_next HB1.out hb3)); clear ho3 hb3 hg3 hat3)
        | ((with_reducible refine gate_builtin (b := .append) (xs := #[.tmp 31, .tmp 32]) rfl ?_); at_builtin; refine Kd.R_append_rows (Kd.int .u8) (w0 := w1) w1.heap.size rfl (.tmp 31) (.tmp 32) 22 5 (.int .u8 0) 1 rfl Try.underlying22 info5 rfl (by decide) (by omega) v3 (jN ps k ++ len4 lp) p Ap lp cp (fun _ => True) (fun _ => False) rfl rfl HO3.out HCp3.out (fun _ _ h => h) (fun _ h => h.elim) (fun _ _ => trivial) HB3.out HB3.out.size (by rw [List.length_append]; have := HJL.out; simp only [len4, List.length_cons, List.length_nil]; omega) ?_; intro v4 w4 ho4 hb4 hg4 hat4; rw [← HJ.out] at ho4; have HO4 := Lib.hid ho4; have HB4 := Lib.hid hb4; clear ho4 hb4 hg4 hat4)
        | fail)
      obtain ⟨A4, c4, e4⟩ := Kd.R_slice HO4.out
      subst e4
      go_roundw
      case rel => exact ⟨k + 1, _, A4, c4, rfl, by go_num, by omega, Lib.hid rfl, HO4, HB4⟩
      case measure => simp [intOf]; omega
    · have hk' : k = n := by omega
      subst hk'
      have HJF : Hid (jF ps = jN ps k) := Lib.hid (by unfold jF; rw [HN.out])
      have hm9 : m ≤ 90000 := by rw [hm'.out]; exact HS.out k (by omega)
      have HC := Lib.hid (Kd.R_reads' hO.out).2.2
      have hmc : m ≤ c' := (Kd.R_reads' hO.out).2.1
      have HBw := Lib.hid (below_next HB1.out hB.out)
      obtain ⟨J, hJ⟩ : ∃ J, J = jN ps k := ⟨_, rfl⟩
      rw [← hJ] at HC hm'
      have HJE := Lib.hid hJ
      have hX := hsum_any A0 c0 key A' c' J wr (Kd.C_below HR.out HBw.out) HKL.out.1 HKL.out.2 (by rw [← hm'.out]; have h := HC.out; rw [← hm'.out] at h; exact h) (by rw [← hm'.out]; exact hmc) (by rw [← hm'.out]; omega)
      rw [← hm'.out] at hX
      have HX := Lib.hid hX
      clear hX hJ
      obtain ⟨wo, hwo⟩ : ∃ wo : World, wo = wr := ⟨_, rfl⟩
      subst hwo
      have HAw := Lib.hid (HA1.out.next hB.out)
      go_wp2_with fail
      refine HX.out.mono ?_
      rintro e w5 ⟨rfl, hB5⟩
      obtain ⟨E, hE⟩ : ∃ E, E = hmF key J := ⟨_, rfl⟩
      have HEL : Hid (E.length = 32) := Lib.hid (by rw [hE]; exact hmF_length key J)
      have HEE := Lib.hid hE
      rw [← hE]
      have HAx := Lib.hid (HAw.out.next hB5)
      have HBx := Lib.hid (below_next HBw.out hB5)
      clear hE hB5
      go_wp2_with (first
        | ((with_reducible refine gate_store (t := 27) (p := 4) rfl ?_); refine store_arr rfl 27 _ _ rfl w.heap.size .u8 E rfl rfl 27 _ HAx.out (by rw [HEL.out]; rfl) (by rw [HEL.out]; kernel_rfl) ?_; intro w6 hA6 hw6; subst hw6)
        | fail)
      exact bodyPost_ret (results_arr rfl _ _ w.heap.size .u8 _ _ _ E rfl hA6 Try.underlying27 (by rw [HEL.out]; kernel_rfl)) rfl ⟨by rw [HEE.out, HJE.out, HJF.out], below_setRow HBx.out _ (Nat.le_refl _) _⟩
end Go.Proofs.Ytljmjeaocojnmaa.HHa
end
