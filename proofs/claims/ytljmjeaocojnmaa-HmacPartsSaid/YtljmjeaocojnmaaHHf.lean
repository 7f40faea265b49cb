import Derived.Test.YtljmjeaocojnmaaHHc
import Derived.Test.YtljmjeaocojnmaaPCz
import Derived.Test.YtljmjeaocojnmaaPSe
import Derived.Lib.SlBytesConst
import Derived.Lib.SmallJoins
section
/- Layer 2: the contracts of padlockref02's New, with and Sum, by hand. -/
set_option linter.unusedVariables false
set_option linter.unusedSimpArgs false
namespace Go.Proofs.Ytljmjeaocojnmaa.HHa
open Go.RowKit Go.Proofs.YtljmjeaocojnmaaW.PrintWords Go.Proofs.YtljmjeaocojnmaaW.PrintLast Go.Proofs.YtljmjeaocojnmaaW.PrintMore Go.Proofs.Ytljmjeaocojnmaa.Kit Go.Proofs.Ytljmjeaocojnmaa.HSa Go.Proofs.Ytljmjeaocojnmaa.Sa
attribute [local go_sem ↓] Go.wp_at_zero Go.wp_at_succ
theorem iv_length : iv.length = 8 := by decide
attribute [local irreducible] sumF padX inF hmF jN iv consts allF comeN padK fillK
/-- padlockref01.Summed under the document's constants -/
theorem rsummed_any (A0 : Option Addr) (c0 : Nat) (l : List Int) (A1 : Option Addr) (c1 : Nat) (A2 : Option Addr) (c2 : Nat) (w : World) (hb : Bytes l) (hl : l.length ≤ 100000)
    (hr0 : Kd.C (Kd.int .u8) w A0 l.length l) (hc0 : l.length ≤ c0) (hr1 : Kd.C (Kd.int .u32) w A1 8 iv) (hc1 : 8 ≤ c1) (hr2 : Kd.C (Kd.int .u32) w A2 64 consts) (hc2 : 64 ≤ c2) :
    Calls Try.prog 60 #[.slice A0 l.length c0, .slice A1 8 c1, .slice A2 64 c2] w (OutB w (sumF l)) := by
  have h := summed_any (560 + 418) A0 c0 l A1 c1 iv A2 c2 consts (allF l) (fun j => comeN iv (allF l) j) w hr0 hc0 (by rw [iv_length]; exact hr1) (by rw [iv_length]; exact hc1) (by rw [consts_length]; exact hr2) (by rw [consts_length]; exact hc2) (filled_tells l (by omega) 560) (steps_tell l hb hl 560)
  rw [sumF_eq, iv_length, consts_length] at h
  exact h
/-- a key in full lies in a block -/
structure KeyAt (w : World) (g : Nat) (K : List Int) (AK : Option Addr) (cK : Nat) (AR : Option Addr) (cR : Nat) (AC : Option Addr) (cC : Nat) : Prop where
  blk : w.heap[g]? = some (.cells #[.slice AK 64 cK, .slice AR 8 cR, .slice AC 64 cC] 31 (0, 0))
  k : Kd.C (Kd.int .u8) w AK 64 K
  ck : 64 ≤ cK
  r : Kd.C (Kd.int .u32) w AR 8 iv
  cr : 8 ≤ cR
  c : Kd.C (Kd.int .u32) w AC 64 consts
  cc : 64 ≤ cC
namespace KeyAt
variable {w w1 : World} {g : Nat} {K : List Int} {AK AR AC : Option Addr} {cK cR cC : Nat}
theorem lt (h : KeyAt w g K AK cK AR cR AC cC) : g < w.heap.size := (Array.getElem?_eq_some_iff.1 h.blk).1
theorem next (h : KeyAt w g K AK cK AR cR AC cC) (hb : Below w.heap.size w w1) : KeyAt w1 g K AK cK AR cR AC cC :=
  ⟨(hb.block g h.lt).trans h.blk, Kd.C_below h.k hb, h.ck, Kd.C_below h.r hb, h.cr, Kd.C_below h.c hb, h.cc⟩
theorem drew (h : KeyAt w g K AK cK AR cR AC cC) : KeyAt w.drew g K AK cK AR cR AC cC := h.next (below_drew (Below.refl _ _))
theorem cell (h : KeyAt w g K AK cK AR cR AC cC) : w.cell? ⟨g, 0, none⟩ = some (.slice AK 64 cK) ∧ w.cell? ⟨g, 1, none⟩ = some (.slice AR 8 cR) ∧ w.cell? ⟨g, 2, none⟩ = some (.slice AC 64 cC) := by
  unfold World.cell?
  simp [h.blk]
end KeyAt
def zs (n : Nat) : List Int := List.replicate n 0
def slen : Value → Nat
  | .slice _ n _ => n
  | _ => 0
theorem zs_next (X : List Int) (a b : Nat) (h : a ≤ b) : X ++ zs (b + 1 - a) = X ++ zs (b - a) ++ [0] := by
  rw [List.append_assoc]
  congr 1
  unfold zs
  rw [show b + 1 - a = (b - a) + 1 from by omega, List.replicate_succ']
theorem zs_zero (X : List Int) (a : Nat) : X ++ zs (a - a) = X := by simp [zs]
theorem zs_fill (X : List Int) : X ++ zs (64 - X.length) = fillK X := by unfold zs fillK; rfl
theorem zs_length (X : List Int) (n : Nat) : (X ++ zs n).length = X.length + n := by simp [zs]
attribute [local irreducible] zs
def NewOut (w : World) (K : List Int) (e : Ending) (w' : World) : Prop :=
  ∃ g AK cK AR cR AC cC, e = .returned (.pointer (some ⟨g, 0, none⟩)) ∧ KeyAt w' g K AK cK AR cR AC cC ∧ Below w.heap.size w w'
set_option maxHeartbeats 2000000 in
set_option maxRecDepth 100000 in
theorem new_any (A0 : Option Addr) (c0 : Nat) (key : List Int) (w : World) (hr : Kd.C (Kd.int .u8) w A0 key.length key) (hc : key.length ≤ c0) (hl : key.length ≤ 100000) (hb : Bytes key) :
    Calls Try.prog 16 #[.slice A0 key.length c0] w (NewOut w (padK key)) := by
  have HR := Lib.hid hr
  have HBY := Lib.hid hb
  obtain ⟨n, hn⟩ : ∃ n, n = key.length := ⟨_, rfl⟩
  have HN := Lib.hid hn
  rw [← hn] at hc hl ⊢
  have HPK : Hid (padK key = fillK (if 64 < key.length then sumF key else key)) := Lib.hid (by unfold padK; rfl)
  clear hr hn hb
  go_enter Try.func16, Try.ntmps16
  go_wp2_with fail
  refine (padlockref01_Constants.calls 978 iv consts w (constants_tells 978 (by decide))).mono ?_
  rintro e w1 ⟨v1, v2, rfl, hO1, hO2, hB1⟩
  obtain ⟨AR, cR, e1⟩ := Kd.R_slice hO1
  obtain ⟨AC, cC, e2⟩ := Kd.R_slice hO2
  rw [iv_length] at e1
  rw [consts_length] at e2
  subst e1 e2
  have hcR : 8 ≤ cR := (Kd.R_reads' hO1).2.1
  have hcC : 64 ≤ cC := (Kd.R_reads' hO2).2.1
  have hR1 := (Kd.R_reads' hO1).2.2
  have hC1 := (Kd.R_reads' hO2).2.2
  rw [iv_length] at hR1
  rw [consts_length] at hC1
  have HR1 := Lib.hid hR1
  have HC1 := Lib.hid hC1
  have HB1 := Lib.hid hB1
  have HK1 : Hid (Kd.C (Kd.int .u8) w1 A0 n key) := Lib.hid (by have h := Kd.C_below HR.out hB1; rw [← HN.out] at h; exact h)
  clear hO1 hO2 hR1 hC1 hB1
  by_cases hbig : 64 < n
  all_goals
    go_wp2_with (first
      | ((with_reducible refine gate_dst (N := 10) rfl ?_); refine Kd.R_lit (Kd.int .u8) (w0 := w1) w1.heap.size 5 ?hg (N := 10) ?hd (xs := ([] : List Int)) (inner := []) (ok := fun _ => True) (okp := fun _ => True) ?hr ?hp (fun _ hk => hk) trivial (Below.refl _ _) (Nat.le_refl _) (by simp) ?_; (case hd => rfl); (case hg => rfl); (case hr => first | (go_simp; done) | (go_simp; rfl)); (case hp => exact (Reps.none _ _)); intro v3 w3 ho3 hb3 hg_ hnew_; clear hg_ hnew_; have HO3 := Aside0.mk ho3; have HB3 := Aside0.mk hb3; clear ho3 hb3)
      | ((with_reducible refine gate_builtin (b := .append) (xs := #[.tmp 10, .tmp 11]) rfl ?_); at_builtin; refine Kd.R_append_rows (Kd.int .u8) (w0 := w1) w1.heap.size rfl (.tmp 10) (.tmp 11) 22 5 (.int .u8 0) 1 rfl Try.underlying22 Go.Proofs.Ytljmjeaocojnmaa.HSa.info5 rfl (by decide) (by omega) v3 [] key _ _ _ (fun _ => True) (fun _ => False) rfl rfl HO3.out (by exact Kd.C_below HK1.out HB3.out) (fun _ _ h => h) (fun _ h => h.elim) (fun _ _ => trivial) HB3.out HB3.out.size (by simp; omega) ?_; intro v4 w4 ho4 hb4 hg4 hat4; rw [List.nil_append] at ho4; have HO4 := Lib.hid ho4; have HB4 := Lib.hid hb4; obtain ⟨A4, c4, hv4, hlc4, hrd4⟩ := Kd.R_reads ho4; rw [← HN.out] at hv4 hlc4 hrd4; subst hv4; have HRD4 := Lib.hid hrd4; clear ho4 hb4 hg4 hat4 hrd4)
      | fail)
  focus
    have hs := rsummed_any A4 c4 key AR cR AC cC w4 HBY.out (by rw [← HN.out]; exact hl) (by rw [← HN.out]; exact HRD4.out) (by rw [← HN.out]; exact hlc4) (Kd.C_below HR1.out HB4.out) hcR (Kd.C_below HC1.out HB4.out) hcC
    rw [← HN.out] at hs
    have HS := Lib.hid hs
    clear hs
    refine HS.out.mono ?_
    rintro e w5 ⟨v5, rfl, hO5, hB5⟩
    obtain ⟨X, hX⟩ : ∃ X, X = sumF key := ⟨_, rfl⟩
    rw [← hX] at hO5
    have HXP : Hid (padK key = fillK X) := Lib.hid (by rw [HPK.out, if_pos (by rw [← HN.out]; exact hbig), hX])
    have hxl : X.length = 32 := by rw [hX]; exact sumF_len key
    have HO5 := Lib.hid (Kd.R_lower hO5 HB4.out.size)
    have HB5 := Lib.hid (below_next HB4.out hB5)
    obtain ⟨A5, c5, e5⟩ := Kd.R_slice hO5
    obtain ⟨m0, hm0⟩ : ∃ m, m = X.length := ⟨_, rfl⟩
    have hm64 : m0 ≤ 64 := by omega
    rw [← hm0] at e5
    subst e5
    have HM := Lib.hid hm0
    clear hX hO5 hB5 hm0 hxl
    go_wp2_with fail
  rotate_left
  focus
    obtain ⟨X, hX⟩ : ∃ X, X = key := ⟨_, rfl⟩
    have HXP : Hid (padK key = fillK X) := Lib.hid (by rw [HPK.out, if_neg (by rw [← HN.out]; exact hbig), hX])
    have HO5 : Hid (Kd.R (Kd.int .u8) 5 w4 w1.heap.size (fun _ => True) (.slice A4 n c4) X) := Lib.hid (by rw [hX]; exact HO4.out)
    have HB5 := Lib.hid HB4.out
    obtain ⟨m0, hm0⟩ : ∃ m, m = X.length := ⟨_, rfl⟩
    have hm64 : m0 ≤ 64 := by rw [hm0, hX, ← HN.out]; omega
    have hnm : m0 = n := by rw [hm0, hX, HN.out]
    have HM := Lib.hid hm0
    clear hm0
    subst hnm
    clear hX
    generalize w4 = w5 at *
    generalize A4 = A5 at *
    generalize c4 = c5 at *
  all_goals
    have hmc0 : m0 ≤ 64 := hm64
    go_loopw [5] (fun v wr => ∃ (m : Nat) (A' : Option Addr) (c' : Nat), v = .slice A' m c' ∧ m0 ≤ m ∧ m ≤ 64 ∧ Hid (Kd.R (Kd.int .u8) 5 wr w1.heap.size (fun _ => True) (.slice A' m c') (X ++ zs (m - m0))) ∧ Hid (Below w1.heap.size w1 wr)) (fun v _ => 64 - slen v)
    case atStart => exact ⟨m0, A5, c5, rfl, Nat.le_refl _, hm64, Lib.hid (by rw [zs_zero]; exact HO5.out), HB5⟩
    case round =>
      obtain ⟨m, A', c', rfl, hm1, hm2, hO, hB⟩ := hrel
      by_cases hk : m < 64
      · go_wp2_with (first
          | ((with_reducible refine gate_builtin (b := .append) (xs := #[.tmp 23, .tmp 24]) rfl ?_); at_builtin; go_loud (refine Kd.R_append_rows (Kd.int .u8) (w0 := w1) w1.heap.size rfl (.tmp 23) (.tmp 24) 22 5 (.int .u8 0) 1 rfl Try.underlying22 Go.Proofs.Ytljmjeaocojnmaa.HSa.info5 rfl (by decide) (by omega) (.slice A' m c') (X ++ zs (m - m0)) [0] (some ⟨wr.heap.size, 0, none⟩) 1 1 (fun _ => True) (fun _ => False) rfl rfl (Kd.R_alloc hO.out _) (by exact lit_reads .u8 [0] rfl rfl (by simp) wr _) (fun _ _ h => h) (fun _ h => h.elim) (fun _ _ => trivial) (below_alloc hB.out _) (by have := hB.out.size; simp; omega) (by rw [zs_length, ← HM.out]; omega) ?_); intro v7 w7 ho7 hb7 hg7 hat7; rw [← zs_next X m0 m hm1] at ho7; have HO7 := Lib.hid ho7; have HB7 := Lib.hid hb7; obtain ⟨A7, c7, hv7⟩ := Kd.R_slice ho7; rw [zs_length, ← HM.out, show m0 + (m + 1 - m0) = m + 1 from by omega] at hv7; subst hv7; clear ho7 hb7 hg7 hat7)
          | fail)
        go_roundw
        case rel => exact ⟨m + 1, A7, c7, rfl, by omega, by omega, HO7, HB7⟩
        case measure => simp [slen]; omega
      · have hm : m = 64 := by omega
        subst hm
        have hF : X ++ zs (64 - m0) = padK key := by rw [HM.out, zs_fill, HXP.out]
        rw [hF] at hO
        have hOr := Kd.R_reads' hO.out
        have hpl := padK_length key
        have hc64 : 64 ≤ c' := hOr.2.1
        have hCr := hOr.2.2
        have HCr := Lib.hid hCr
        clear hOr hpl hCr hF
        obtain ⟨wo, hwo⟩ : ∃ wo : World, wo = wr := ⟨_, rfl⟩
        subst hwo
        go_wp2_with fail
        go_ret
        have HB9 := below_alloc (Below.refl wo.heap.size wo) (.cells #[.slice A' 64 c', .slice AR 8 cR, .slice AC 64 cC] 31)
        exact ⟨wo.heap.size, A', c', AR, cR, AC, cC, rfl, ⟨Array.getElem?_push_size, Kd.C_below (by have h := HCr.out; rw [padK_length] at h; exact h) HB9, hc64, Kd.C_below HR1.out (below_next hB.out HB9), hcR, Kd.C_below HC1.out (below_next hB.out HB9), hcC⟩, below_next HB1.out (below_next hB.out HB9)⟩
end Go.Proofs.Ytljmjeaocojnmaa.HHa
end
section
/- Layer 2: padlockref02's (*Key).with and (*Key).Sum, by hand. -/
set_option linter.unusedVariables false
set_option linter.unusedSimpArgs false
namespace Go.Proofs.Ytljmjeaocojnmaa.HHa
open Go.RowKit Go.Proofs.YtljmjeaocojnmaaW.PrintWords Go.Proofs.YtljmjeaocojnmaaW.PrintLast Go.Proofs.YtljmjeaocojnmaaW.PrintMore Go.Proofs.Ytljmjeaocojnmaa.Kit Go.Proofs.Ytljmjeaocojnmaa.HSa Go.Proofs.Ytljmjeaocojnmaa.Sa
attribute [local go_sem ↓] Go.wp_at_zero Go.wp_at_succ
theorem xorB_byte (x b : Int) (hx : 0 ≤ x ∧ x < 256) (hb : 0 ≤ b ∧ b < 256) : 0 ≤ xorB x b ∧ xorB x b < 256 := by
  obtain ⟨m, rfl⟩ := Int.eq_ofNat_of_zero_le hx.1
  obtain ⟨n, rfl⟩ := Int.eq_ofNat_of_zero_le hb.1
  unfold xorB
  rw [bxor8 n m (by omega) (by omega)]
  have h := Nat.xor_lt_two_pow (n := 8) (x := n) (y := m) (by omega) (by omega)
  omega
def mapX (K : List Int) (x : Int) : List Int := K.map (xorB x)
def wX (K : List Int) (x : Int) (k : Nat) : List Int := (K.map (xorB x)).take k
theorem wX_zero (K : List Int) (x : Int) : wX K x 0 = [] := by simp [wX]
theorem wX_length (K : List Int) (x : Int) (k : Nat) (h : k ≤ K.length) : (wX K x k).length = k := by simp [wX]; omega
theorem wX_all (K : List Int) (x : Int) (h : K.length = 64) : wX K x 64 = mapX K x := by unfold wX mapX; rw [List.take_of_length_le]; simp [h]
theorem wX_next (K : List Int) (x : Int) (k : Nat) (h : k < K.length) : wX K x (k + 1) = wX K x k ++ [Go.bits .xor .u8 (K.getD k 0) x] := by
  unfold wX
  rw [List.take_succ_eq_append_getElem (by simpa using h)]
  simp [xorB, List.getD, List.getElem?_eq_getElem h]
theorem mapX_bytes (K : List Int) (x : Int) (hx : 0 ≤ x ∧ x < 256) (hK : Bytes K) : Bytes (mapX K x) := fun y hy => by
  simp only [mapX, List.mem_map] at hy
  obtain ⟨b, hb, rfl⟩ := hy
  exact xorB_byte x b hx (hK b hb)
theorem mapX_length (K : List Int) (x : Int) : (mapX K x).length = K.length := by simp [mapX]
attribute [local irreducible] sumF padX inF hmF jN iv consts allF comeN padK fillK wX mapX
set_option maxHeartbeats 2000000 in
set_option maxRecDepth 100000 in
theorem with_any (g : Nat) (x : Int) (K : List Int) (AK : Option Addr) (cK : Nat) (AR : Option Addr) (cR : Nat) (AC : Option Addr) (cC : Nat) (w : World) (hK : KeyAt w g K AK cK AR cR AC cC) (hKL : K.length = 64) :
    Calls Try.prog 63 #[.pointer (some ⟨g, 0, none⟩), .int .u8 x] w (OutB w (mapX K x)) := by
  have HK := Lib.hid hK
  obtain ⟨b, off, eA, hcells⟩ := C_cells hK.k (by decide)
  have HKL := Lib.hid hKL
  have HCS := Lib.hid hcells
  have HCK := Lib.hid hK.ck
  subst eA
  clear hcells hK hKL
  go_enter Try.func63, Try.ntmps63
  go_wp2_with fail
  go_loopw [5, 6] (fun v iv wr => ∃ (k : Nat) (A' : Option Addr) (c' : Nat), v = .slice A' k c' ∧ iv = .int .i64 k ∧ k ≤ 64 ∧ Hid (Kd.R (Kd.int .u8) 5 wr w.heap.size (fun _ => True) (.slice A' k c') (wX K x k)) ∧ Hid (Below w.heap.size w wr)) (fun _ iv _ => 64 - (intOf iv).toNat)
  case atStart => exact ⟨0, none, 0, rfl, rfl, by omega, Lib.hid (by rw [wX_zero]; exact Kd.R_nil _ _ _ _ _), Lib.hid (Below.refl _ _)⟩
  case round =>
    obtain ⟨k, A', c', rfl, rfl, hk, hO, hB⟩ := hrel
    by_cases hkn : k < 64
    · have HX := Lib.hid (wX_next K x k (by rw [HKL.out]; exact hkn))
      obtain ⟨p, hp⟩ : ∃ p, p = K.getD k 0 := ⟨_, rfl⟩
      rw [← hp] at HX
      have hc1 := (HK.out.next hB.out).cell.1
      have hc2 := (hB.out.cell (p := ⟨b, off + k, none⟩) (World.block_lt_of_cell? w _ (HCS.out k hkn))).trans (HCS.out k hkn)
      rw [← hp] at hc2
      have hck := HCK.out
      have HP := Lib.hid hp
      clear hp
      go_wp2_with (first
        | ((with_reducible refine gate_builtin (b := .append) (xs := #[.tmp 11, .tmp 21]) rfl ?_); at_builtin; go_loud (refine Kd.R_append_rows (Kd.int .u8) (w0 := w) w.heap.size rfl (.tmp 11) (.tmp 21) 22 5 (.int .u8 0) 1 rfl Try.underlying22 Go.Proofs.Ytljmjeaocojnmaa.HSa.info5 rfl (by decide) (by omega) (.slice A' k c') (wX K x k) [Go.bits .xor .u8 p x] (some ⟨wr.heap.size, 0, none⟩) 1 1 (fun _ => True) (fun _ => False) rfl rfl (Kd.R_alloc hO.out _) (by exact lit_reads .u8 [Go.bits .xor .u8 p x] rfl rfl (by simp) wr _) (fun _ _ h => h) (fun _ h => h.elim) (fun _ _ => trivial) (below_alloc hB.out _) (by have := hB.out.size; simp; omega) (by rw [wX_length _ _ _ (by rw [HKL.out]; omega)]; omega) ?_); intro v7 w7 ho7 hb7 hg7 hat7; rw [← HX.out] at ho7; have HO7 := Lib.hid ho7; have HB7 := Lib.hid hb7; obtain ⟨A7, c7, hv7⟩ := Kd.R_slice ho7; rw [wX_length _ _ _ (by rw [HKL.out]; omega)] at hv7; subst hv7; clear ho7 hb7 hg7 hat7)
        | fail)
      go_roundw
      case rel => exact ⟨k + 1, A7, c7, rfl, by go_num, by omega, HO7, HB7⟩
      case measure => simp [intOf]; omega
    · have hk' : k = 64 := by omega
      subst hk'
      obtain ⟨wo, hwo⟩ : ∃ wo : World, wo = wr := ⟨_, rfl⟩
      subst hwo
      have hall := wX_all K x HKL.out
      rw [hall] at hO
      have HALL := Lib.hid hall
      clear hall
      go_wp2_with fail
      go_ret
      exact ⟨_, rfl, hO.out, hB.out⟩
/-- the document's sum over a key in full -/
def kF (K b : List Int) : List Int := sumF (mapX K 92 ++ sumF (mapX K 54 ++ b))
set_option maxHeartbeats 2000000 in
set_option maxRecDepth 100000 in
theorem ksum_any (g : Nat) (K : List Int) (AK : Option Addr) (cK : Nat) (AR : Option Addr) (cR : Nat) (AC : Option Addr) (cC : Nat) (A1 : Option Addr) (c1 : Nat) (b : List Int) (w : World)
    (hK : KeyAt w g K AK cK AR cR AC cC) (hKL : K.length = 64) (hKB : Bytes K) (hr1 : Kd.C (Kd.int .u8) w A1 b.length b) (hc1 : b.length ≤ c1) (hl1 : b.length ≤ 90000) (hb1 : Bytes b) :
    Calls Try.prog 19 #[.pointer (some ⟨g, 0, none⟩), .slice A1 b.length c1] w (OutB w (kF K b)) := by
  have HK := Lib.hid hK
  have HKL := Lib.hid hKL
  have hgl := hK.lt
  obtain ⟨I, hI⟩ : ∃ I, I = sumF (mapX K 54 ++ b) := ⟨_, rfl⟩
  obtain ⟨E, hE⟩ : ∃ E, E = kF K b := ⟨_, rfl⟩
  obtain ⟨L1, hL1⟩ : ∃ L, L = mapX K 54 ++ b := ⟨_, rfl⟩
  obtain ⟨L2, hL2⟩ : ∃ L, L = mapX K 92 ++ I := ⟨_, rfl⟩
  have HE : Hid (sumF L2 = E) := Lib.hid (by rw [hL2, hI, hE]; unfold kF; rfl)
  have HI : Hid (sumF L1 = I) := Lib.hid (by rw [hL1, hI])
  have hIL : I.length = 32 := by rw [hI]; exact sumF_len _
  have HIB : Hid (Bytes I) := Lib.hid (by rw [hI]; exact sumF_bytes _)
  have HB1 : Hid (Bytes L1) := Lib.hid (by rw [hL1]; intro y hy; rcases List.mem_append.1 hy with h | h; exact mapX_bytes K 54 (by decide) hKB y h; exact hb1 y h)
  have HB2 : Hid (Bytes L2) := Lib.hid (by rw [hL2]; intro y hy; rcases List.mem_append.1 hy with h | h; exact mapX_bytes K 92 (by decide) hKB y h; exact HIB.out y h)
  obtain ⟨n1, hn1⟩ : ∃ n, n = L1.length := ⟨_, rfl⟩
  have hn1' : n1 ≤ 90064 := by rw [hn1, hL1, List.length_append, mapX_length, hKL]; omega
  have hn2 : L2.length = 96 := by rw [hL2, List.length_append, mapX_length, hKL, hIL]
  have HN1 := Lib.hid hn1
  have HN2 := Lib.hid hn2
  have HR1 := Lib.hid hr1
  have HX54 : Hid ((mapX K 54).length = 64) := Lib.hid (by rw [mapX_length, hKL])
  have HX92 : Hid ((mapX K 92).length = 64) := Lib.hid (by rw [mapX_length, hKL])
  have HL1 := Lib.hid hL1
  have HL2 := Lib.hid hL2
  have HIL := Lib.hid hIL
  rw [← hE]
  obtain ⟨n, hn⟩ : ∃ n, n = b.length := ⟨_, rfl⟩
  have HN := Lib.hid hn
  have HC1 : Hid (n ≤ c1) := Lib.hid (by omega)
  have hn9 : n ≤ 90000 := by omega
  rw [← hn] at HR1 ⊢
  clear hK hKL hI hE hL1 hL2 hn1 hn2 hIL hKB hr1 hc1 hl1 hb1 hn
  have hq1 := HK.out.cell.2.1
  have hq2 := HK.out.cell.2.2
  go_enter Try.func19, Try.ntmps19
  go_wp2_with fail
  go_region_held3 (fun w' => w'.cell? ⟨g, 1, none⟩ = some (.slice AR 8 cR) ∧ w'.cell? ⟨g, 2, none⟩ = some (.slice AC 64 cC))
    (first | go_keep | exact hkeep)
    ((first
      | (go_at_call 63; refine (with_any g 54 K AK cK AR cR AC cC _ (by exact HK.out.drew) HKL.out).mono ?_; rintro e W1 ⟨v9, rfl, hO9, hB9⟩; have hkeep := (HK.out.drew.next hB9).cell.2; have HO9 := Lib.hid hO9; have HB9 := Lib.hid hB9; clear hO9 hB9)
      | ((refine Kd.R_append_rows_step (Kd.int .u8) (w0 := w.drew) w.heap.size (by rfl) (.tmp 7) (.tmp 8) 22 5 (.int .u8 0) 1 (by rfl) Try.underlying22 Go.Proofs.Ytljmjeaocojnmaa.HSa.info5 rfl (by decide) (by omega) v9 (mapX K 54) b A1 n c1 (fun _ => True) (fun _ => False) (by rfl) (by rfl) (by exact HO9.out) (by exact Kd.C_below (Kd.C_drew HR1.out) HB9.out) (fun _ _ h => h) (fun _ h => h.elim) (fun _ _ => trivial) (by exact HB9.out) (by exact HB9.out.size) (by rw [HX54.out]; omega) ?_); intro v10 W2 ho10 hb10 hg10 hat10; have hkeep := (HK.out.drew.next hb10).cell.2; have HB10 := Lib.hid hb10; rw [← HL1.out] at ho10; obtain ⟨A10, c10, hv10, hlc10, hrd10⟩ := Kd.R_reads ho10; rw [← HN1.out] at hv10 hlc10 hrd10; have HRD10 := Lib.hid hrd10; subst hv10; clear ho10 hb10 hg10 hat10 hrd10)
      | (go_at_call 60; (refine ((by have h := rsummed_any A10 c10 L1 AR cR AC cC _ HB1.out (by rw [← HN1.out]; omega) (by rw [← HN1.out]; exact HRD10.out) (by rw [← HN1.out]; exact hlc10) (by exact (HK.out.drew.next HB10.out).r) HK.out.cr (by exact (HK.out.drew.next HB10.out).c) HK.out.cc; rw [← HN1.out, HI.out] at h; exact h : Calls _ _ _ _ (OutB _ I)).mono ?_)); rintro e W3 ⟨v11, rfl, hO11, hB11⟩; have hkeep := (HK.out.drew.next (below_next HB10.out hB11)).cell.2; have HO11 := Lib.hid hO11; have HB11 := Lib.hid (below_next (w := w.drew) HB10.out hB11); clear hO11 hB11)))
  obtain ⟨A11, c11, e11, hlc11, hrd11⟩ := Kd.R_reads HO11.out
  rw [HIL.out] at e11 hlc11 hrd11
  subst e11
  have HRD11 := Lib.hid hrd11
  have HK3 := Lib.hid (HK.out.drew.next HB11.out)
  have HBB3 : Hid (Below w.heap.size w W3) := Lib.hid ((below_drew (Below.refl _ _)).trans HB11.out)
  obtain ⟨W, hW⟩ : ∃ W : World, W = W3 := ⟨_, rfl⟩
  subst hW
  have hr1' := HK3.out.cell.2.1
  have hr2' := HK3.out.cell.2.2
  clear hq1 hq2 hkeep HO9 HB9 HB10 HRD10 HO11 HB11 hrd11
  clear hlc10
  go_wp2_with fail
  go_region_held3 (fun w' => w'.cell? ⟨g, 1, none⟩ = some (.slice AR 8 cR) ∧ w'.cell? ⟨g, 2, none⟩ = some (.slice AC 64 cC))
    (first | go_keep | exact hkeep)
    ((first
      | (go_at_call 63; refine (with_any g 92 K AK cK AR cR AC cC _ (by exact HK3.out.drew) HKL.out).mono ?_; rintro e W1 ⟨v9, rfl, hO9, hB9⟩; have hkeep := (HK3.out.drew.next hB9).cell.2; have HO9 := Lib.hid hO9; have HB9 := Lib.hid hB9; clear hO9 hB9)
      | ((refine Kd.R_append_rows_step (Kd.int .u8) (w0 := W.drew) W.heap.size (by rfl) (.tmp 20) (.tmp 21) 22 5 (.int .u8 0) 1 (by rfl) Try.underlying22 Go.Proofs.Ytljmjeaocojnmaa.HSa.info5 rfl (by decide) (by omega) v9 (mapX K 92) I A11 32 c11 (fun _ => True) (fun _ => False) (by rfl) (by rfl) (by exact HO9.out) (by exact Kd.C_below (Kd.C_drew HRD11.out) HB9.out) (fun _ _ h => h) (fun _ h => h.elim) (fun _ _ => trivial) (by exact HB9.out) (by exact HB9.out.size) (by rw [HX92.out]; omega) ?_); intro v10 W2 ho10 hb10 hg10 hat10; have hkeep := (HK3.out.drew.next hb10).cell.2; have HB10 := Lib.hid hb10; rw [← HL2.out] at ho10; obtain ⟨A10, c10, hv10, hlc10, hrd10⟩ := Kd.R_reads ho10; rw [HN2.out] at hv10 hlc10 hrd10; have HRD10 := Lib.hid hrd10; subst hv10; clear ho10 hb10 hg10 hat10 hrd10)
      | (go_at_call 60; (refine ((by have h := rsummed_any A10 c10 L2 AR cR AC cC _ HB2.out (by rw [HN2.out]; omega) (by rw [HN2.out]; exact HRD10.out) (by rw [HN2.out]; exact hlc10) (by exact (HK3.out.drew.next HB10.out).r) HK3.out.cr (by exact (HK3.out.drew.next HB10.out).c) HK3.out.cc; rw [HN2.out, HE.out] at h; exact h : Calls _ _ _ _ (OutB _ E)).mono ?_)); rintro e W3 ⟨v12, rfl, hO12, hB12⟩; have hkeep := (HK3.out.drew.next (below_next HB10.out hB12)).cell.2; have HO12 := Lib.hid (Kd.R_lower hO12 HB10.out.size); have HB12 := Lib.hid (below_next (w := W.drew) HB10.out hB12); clear hO12 hB12)))
  go_wp2_with fail
  go_ret
  exact ⟨v12, rfl, Kd.R_lower HO12.out HBB3.out.size, below_next HBB3.out ((below_drew (Below.refl _ _)).trans HB12.out)⟩
end Go.Proofs.Ytljmjeaocojnmaa.HHa
end
section
/- Layer 2: knows. -/
set_option linter.unusedVariables false
set_option linter.unusedSimpArgs false
namespace Go.Proofs.Ytljmjeaocojnmaa.HHa
open Go.RowKit Go.Proofs.YtljmjeaocojnmaaW.PrintWords Go.Proofs.YtljmjeaocojnmaaW.PrintLast Go.Proofs.YtljmjeaocojnmaaW.PrintMore Go.Proofs.Ytljmjeaocojnmaa.Kit Go.Proofs.Ytljmjeaocojnmaa.HSa Go.Proofs.Ytljmjeaocojnmaa.Sa
attribute [local go_sem ↓] Go.wp_at_zero Go.wp_at_succ
theorem lit_marks (k : IntKind) (xs : List Int) {cs : Array Value} (hcs : cs = (xs.map (Value.int k)).toArray) {n : Nat} (hn : xs.length = n) (h1 : n ≤ 1000000) (w : World) (e : TypeId) (fr : Nat × Nat) {g : Nat} (hg : g = w.heap.size) :
    Kd.C (Kd.int k) (w.alloc (.cells cs e fr)) (some ⟨g, 0, none⟩) n xs := by
  subst hg
  refine Kd.C_of_reads (d := (0 : Int)) (h1 := fun _ => rfl) ⟨hn, by omega, fun _ => ⟨_, rfl, fun j hj => ?_⟩⟩
  rw [add_plain, World.cell?_alloc_mark, hcs]
  have : j < xs.length := by omega
  simp [this, List.getD]
def TellsT (w : World) (e : Ending) (w' : World) : Prop := e = .returned (.bool true) ∧ Below w.heap.size w w'
def jefe : List Int := [74, 101, 102, 101]
def what : List Int := [119, 104, 97, 116, 32, 100, 111, 32, 121, 97, 32, 119, 97, 110, 116, 32, 102, 111, 114, 32, 110, 111, 116, 104, 105, 110, 103, 63]
set_option maxRecDepth 100000 in
theorem hm_lit : (hmF jefe what).getD 0 0 = 91 ∧ (hmF jefe what).getD 1 0 = 220 ∧ (hmF jefe what).getD 31 0 = 67 := by decide +kernel
attribute [local irreducible] sumF padX inF hmF jN iv consts allF comeN padK fillK
set_option maxHeartbeats 1000000 in
set_option maxRecDepth 100000 in
theorem hknows_any (w : World) : Calls Try.prog 15 #[] w (TellsT w) := by
  obtain ⟨q0, q1, q3⟩ := hm_lit
  obtain ⟨xs, hxs⟩ : ∃ xs, xs = hmF jefe what := ⟨_, rfl⟩
  have hL : xs.length = 32 := by rw [hxs]; exact hmF_length _ _
  rw [← hxs] at q0 q1 q3
  have HXS := Lib.hid hxs
  clear hxs
  have HL := Lib.hid hL
  have Q0 := Lib.hid q0
  have Q1 := Lib.hid q1
  have Q3 := Lib.hid q3
  clear hL q0 q1 q3
  go_enter Try.func15, Try.ntmps15
  have kc1 := fun (C : Array Value) (n c : Nat) => Lib.run_convert_bytes_const (P := Try.prog) w 22 5 C n c Try.underlying22 Try.underlying5
  have kc2 := fun (C1 : Array Value) (fr : Nat × Nat) (C : Array Value) (n c : Nat) => Go.Joins.run_convert_bytes_const_at (P := Try.prog) (w.alloc (.cells C1 5 fr)) 22 5 C n c (w.heap.size + 1) (Array.size_push _).symm Try.underlying22 Try.underlying5
  go_wp2_with fail
  refine ((by
    have h1 := Kd.C_below (lit_marks .u8 jefe (cs := #[.int .u8 74, .int .u8 101, .int .u8 102, .int .u8 101]) rfl (n := 4) rfl (by decide) w 5 (4, 5) (g := w.heap.size) rfl) (below_alloc (Below.refl _ _) (.cells (what.map (Value.int .u8)).toArray 5 (28, 29)))
    have h2 := lit_marks .u8 what (cs := (what.map (Value.int .u8)).toArray) rfl (n := 28) rfl (by decide) (w.alloc (.cells #[.int .u8 74, .int .u8 101, .int .u8 102, .int .u8 101] 5 (4, 5))) 5 (28, 29) (g := w.heap.size + 1) (Array.size_push _).symm
    have h := hsum_any _ 4 jefe _ 28 what _ h1 (by decide) (by decide) h2 (by decide) (by decide)
    rw [← HXS.out] at h
    exact h : Calls _ _ _ _ (GivesArr .u8 xs _)).mono ?_)
  rintro e w1 ⟨rfl, hB⟩
  have HB := Lib.hid (((below_alloc (Below.refl _ _) _).trans ((below_alloc (Below.refl _ _) _).mono (by show w.heap.size ≤ (w.heap.push _).size; rw [Array.size_push]; omega))).trans (hB.mono (by show w.heap.size ≤ ((w.heap.push _).push _).size; rw [Array.size_push, Array.size_push]; omega)) : Below w.heap.size w w1)
  clear hB
  go_wp2_with (first
    | ((with_reducible refine gate_dst (N := 1) rfl ?_); refine alloc_arr rfl 27 rfl .u8 (List.replicate 32 0) (fun w => Try.zeroValue27 w) (by first | (go_simp; done) | (go_simp; rfl)) ?_; intro w2 hA2 hB2)
    | ((with_reducible refine gate_store (t := 27) (p := 1) rfl ?_); refine store_arr rfl 27 _ _ rfl w1.heap.size .u8 xs rfl rfl 27 _ hA2 (by rw [HL.out]; rfl) (by rw [HL.out]; kernel_rfl) ?_; intro w3 hA3 hw3; have hB3 := below_setRow (below_next HB.out hB2) w1.heap.size HB.out.size (nums .u8 xs).toArray; rw [← hw3] at hB3; have hc0 := hA3.cellN 0 (by rw [HL.out]; decide); have hc1 := hA3.cellN 1 (by rw [HL.out]; decide); have hc31 := hA3.cellN 31 (by rw [HL.out]; decide); rw [Q0.out] at hc0; rw [Q1.out] at hc1; rw [Q3.out] at hc31; have HB3 := Lib.hid hB3; clear hw3 hB3 hA2 hB2))
  go_ret
  exact ⟨rfl, HB3.out⟩
end Go.Proofs.Ytljmjeaocojnmaa.HHa
end
