/- The contracts of padlockref01's Summed and Sum, by hand. -/
import Derived.Test.YtljmjeaocojnmaaSa4
import Derived.Test.YtljmjeaocojnmaaHSc
set_option linter.unusedVariables false
set_option linter.unusedSimpArgs false
namespace Go.Proofs.Ytljmjeaocojnmaa.HSa
open Go.RowKit Go.Proofs.YtljmjeaocojnmaaW.PrintWords Go.Proofs.YtljmjeaocojnmaaW.PrintLast Go.Proofs.YtljmjeaocojnmaaW.PrintMore Go.Proofs.Ytljmjeaocojnmaa.Kit Go.Proofs.Ytljmjeaocojnmaa.Sa

def bytes4 (x : Int) : List Int := [IntKind.u8.wrap (IntKind.u32.wrap (x.tdiv 16777216)), IntKind.u8.wrap (IntKind.u32.wrap (x.tdiv 65536)), IntKind.u8.wrap (IntKind.u32.wrap (x.tdiv 256)), IntKind.u8.wrap x]
def outR (st : List Int) (n : Nat) : List Int := (List.range n).flatMap fun i => bytes4 (st.getD i 0)
theorem outR_length (st : List Int) : ∀ n, (outR st n).length = 4 * n
  | 0 => rfl
  | n + 1 => by
    have := outR_length st n
    unfold outR at this ⊢
    rw [List.range_succ, List.flatMap_append, List.length_append, this]
    simp [bytes4]; omega
theorem outR_succ (st : List Int) (n : Nat) : outR st (n + 1) = outR st n ++ bytes4 (st.getD n 0) := by
  unfold outR
  rw [List.range_succ, List.flatMap_append]
  simp
structure Steps32 (k : Nat) (all s0 cs : List Int) (st : Nat → List Int) : Prop where
  zero : st 0 = s0
  step : ∀ j, 64 * j < all.length → padlockref01_Come.f k (st j) ((all.drop (64 * j)).take 64) cs = some (st (j + 1))
  len : ∀ j, (st j).length = 8
  mul : all.length % 64 = 0
  small : all.length ≤ 1000000
def OutB (w : World) (r : List Int) (e : Ending) (w' : World) : Prop :=
  ∃ v0_ : Value, e = .returned (v0_) ∧ Kd.R (Kd.int .u8) 5 w' w.heap.size (fun _ => True) v0_ r ∧ Below w.heap.size w w'
attribute [local irreducible] outR
set_option maxHeartbeats 2000000 in
set_option maxRecDepth 100000 in
theorem summed_any (k : Nat) (A0 : Option Addr) (c0 : Nat) (l0 : List Int) (A1 : Option Addr) (c1 : Nat) (s0 : List Int) (A2 : Option Addr) (c2 : Nat) (cs all : List Int) (st : Nat → List Int) (w : World)
    (hr0 : Kd.C (Kd.int .u8) w A0 l0.length l0) (hc0 : l0.length ≤ c0) (hr1 : Kd.C (Kd.int .u32) w A1 s0.length s0) (hc1 : s0.length ≤ c1) (hr2 : Kd.C (Kd.int .u32) w A2 cs.length cs) (hc2 : cs.length ≤ c2)
    (hF : padlockref01_Filled.f k l0 = some all) (hS : Steps32 k all s0 cs st) :
    Calls Try.prog 60 #[.slice A0 l0.length c0, .slice A1 s0.length c1, .slice A2 cs.length c2] w (OutB w (outR (st (all.length / 64)) 8)) := by
  have HR2 := Lib.hid hr2
  have HR1 := Lib.hid hr1
  have HF := Lib.hid (padlockref01_Filled.calls k A0 c0 l0 all w hr0 hc0 hF)
  clear hr0 hr1 hr2 hF
  have HS := Lib.hid hS
  have hs8 : s0.length = 8 := by rw [← hS.zero]; exact hS.len 0
  clear hS
  have HS8 := Lib.hid hs8
  have hc18 : 8 ≤ c1 := by omega
  rw [hs8]
  clear hs8
  go_enter Try.func60, Try.ntmps60
  go_wp2_with fail
  refine HF.out.mono ?_
  rintro e w1 ⟨v1, rfl, hO, hB⟩
  obtain ⟨A, c, rfl, hcl, _⟩ := Kd.R_reads hO
  have HO := Lib.hid hO
  have HB := Lib.hid hB
  have hw1 : w.heap.size ≤ w1.heap.size := hB.size
  clear hO hB
  obtain ⟨n, hn⟩ : ∃ n, n = all.length := ⟨_, rfl⟩
  have hsm : n ≤ 1000000 := by have := HS.out.small; omega
  have hmul : n % 64 = 0 := by have := HS.out.mul; omega
  have HN := Lib.hid hn
  rw [← hn] at hcl HO ⊢
  clear hn
  have HI : Hid (Kd.C (Kd.int .u32) w1 A1 8 (st 0)) := Lib.hid (by rw [HS.out.zero]; have := Kd.C_below HR1.out HB.out; rw [HS8.out] at this; exact this)
  go_wp2
  go_loopw [7, 9] (fun v i wr => ∃ (j a : Nat) (A' : Option Addr) (c' : Nat), v = .slice A' 8 c' ∧ i = .int .i64 a ∧ a = 64 * j ∧ a ≤ n ∧ 8 ≤ c' ∧ Hid (Kd.C (Kd.int .u32) wr A' 8 (st j)) ∧ Hid (Below w1.heap.size w1 wr)) (fun _ i _ => n - (intOf i).toNat)
  case atStart => exact ⟨0, 0, A1, c1, rfl, rfl, by omega, by omega, hc18, HI, Lib.hid (Below.refl _ _)⟩
  case round =>
    clear HI
    obtain ⟨j, a, A', c', rfl, rfl, ha, han, hc', hC, hBr⟩ := hrel
    have HA := Lib.hid ha
    have ha64 : a % 64 = 0 := by omega
    clear ha
    by_cases hlt : a < n
    · have hle : a + 64 ≤ n := by omega
      obtain ⟨i0, hi, hz0, hz1, hz2⟩ := info_parts info5
      obtain ⟨A'', hsl, hrd, hcp⟩ := print_mid_int (P := Try.prog) (k := .u8) 22 5 Try.underlying22 hi hz1 A c all (a : Int) ((a : Int) + 64) (by omega) (by omega) (by have := HN.out; omega) (by have := HN.out; omega)
      have hbl : (all.take ((a : Int) + 64).toNat).drop (a : Int).toNat = (all.drop (64 * j)).take 64 := by
        rw [HA.out, show (((64 * j : Nat) : Int) + 64).toNat = 64 * j + 64 from by omega, show ((64 * j : Nat) : Int).toNat = 64 * j from by omega, List.drop_take]
        congr 1
        omega
      have hbl64 : ((all.drop (64 * j)).take 64).length = 64 := by simp; have := HN.out; have := HA.out; omega
      rw [hbl, hbl64] at hsl
      rw [hbl] at hrd hcp
      rw [← HN.out] at hsl
      have HBR := Lib.hid (Kd.C_of_reads (enc := Value.int .u8) (d := (0 : Int)) (h1 := fun _ => rfl) (hrd wr (Kd.reads_of_C (enc := Value.int .u8) (d := (0 : Int)) (h1 := fun _ => rfl) (Kd.R_reads' (Kd.R_below (by have := HO.out; rw [HN.out] at this; exact this) hBr.out)).2.2)))
      have HCP := Lib.hid hcp
      have H64 := Lib.hid hbl64
      have HST := Lib.hid (HS.out.step j (by have := HN.out; have := HA.out; omega))
      have HC := Lib.hid (padlockref01_Come.calls k A' c' (st j) A'' (c - (a : Int).toNat) ((all.drop (64 * j)).take 64) A2 c2 cs (st (j + 1)) wr (by rw [HS.out.len j]; exact hC.out) (by rw [HS.out.len j]; exact hc') HBR.out HCP.out (Kd.C_below HR2.out (below_next HB.out hBr.out)) hc2 HST.out)
      rw [HS.out.len j, H64.out] at HC
      clear hrd hcp hbl hbl64
      rw [Int.toNat_natCast] at HC
      go_wp2_with fail
      refine HC.out.mono ?_
      rintro e w2 ⟨v2, rfl, hO2, hB2⟩
      obtain ⟨A2', c2', rfl, hcl2, hrd2⟩ := Kd.R_reads hO2
      rw [HS.out.len (j + 1)] at hrd2 hcl2 ⊢
      have HRD2 := Lib.hid hrd2
      have HBB := Lib.hid (below_next hBr.out hB2)
      clear hO2 hB2 hrd2 hsl
      go_wp2
      go_roundw
      case rel => exact ⟨j + 1, a + 64, A2', c2', rfl, by go_num, by have := HA.out; omega, by omega, hcl2, HRD2, HBB⟩
      case measure => simp [intOf]; omega
    · have haN : a = n := by omega
      have HJ : Hid (j = all.length / 64) := Lib.hid (by have := HA.out; have := HN.out; omega)
      subst haN
      obtain ⟨wa, hwa⟩ : ∃ wa : World, wa = wr := ⟨_, rfl⟩
      subst hwa
      obtain ⟨s, hs⟩ : ∃ s, s = st j := ⟨_, rfl⟩
      rw [← hs] at hC
      have HSJ := Lib.hid hs
      clear hs
      obtain ⟨b, off, rfl, hcell⟩ := C_cells hC.out (by omega)
      have hblt : b < wa.heap.size := World.block_lt_of_cell? wa _ (hcell 0 (by omega))
      have HCE := Lib.hid hcell
      clear hcell
      have H0 : Hid (Kd.R (Kd.int .u8) 5 wa wa.heap.size (fun _ => True) (.slice none 0 0) (outR s 0)) := Lib.hid (by unfold outR; exact Kd.R_nil _ _ _ _ _)
      go_wp2
      go_loopw [10, 11] (fun v i wr => ∃ q : Nat, i = .int .i64 q ∧ q ≤ 8 ∧ Hid (Kd.R (Kd.int .u8) 5 wr wa.heap.size (fun _ => True) v (outR s q)) ∧ Hid (Below wa.heap.size wa wr)) (fun _ i _ => 8 - (intOf i).toNat)
      case atStart => exact ⟨0, rfl, by omega, H0, Lib.hid (Below.refl _ _)⟩
      case round =>
        clear H0
        rename_i v10 _
        obtain ⟨q, rfl, hq, hO3, hB3⟩ := hrel
        by_cases hq8 : q < 8
        · have hcq : wr.cell? ⟨b, off + q, none⟩ = some (.int .u32 (s.getD q 0)) := (hB3.out.cell (p := ⟨b, off + q, none⟩) hblt).trans (HCE.out q hq8)
          have hblt2 : b < wr.heap.size := World.block_lt_of_cell? wr _ hcq
          go_wp2_with fail
          go_region_held3 (fun w' => w'.cell? ⟨b, off + q, none⟩ = some (.int .u32 (s.getD q 0)))
            (first | go_keep | assumption | exact hc4)
            ((go_loud (refine Kd.R_append_rows_step (Kd.int .u8) (w0 := wa) wa.heap.size (by rfl) (.tmp 33) (.tmp 57) 22 5 (.int .u8 0) 1 (by rfl) Try.underlying22 info5 rfl (by decide) (by omega) u10 (outR s q) (bytes4 (s.getD q 0)) _ 4 4 (fun _ => True) (fun _ => False) (by rfl) (by rfl) (by exact Kd.R_drew (Kd.R_alloc hO3.out _)) (by exact Kd.C_drew (lit_reads .u8 (bytes4 (s.getD q 0)) rfl rfl (by simp [bytes4]) wr _)) (fun _ _ h => h) (fun _ h => h.elim) (fun _ _ => trivial) (by exact below_drew (below_alloc hB3.out _)) (by have := hB3.out.size; simp; omega) (by rw [outR_length]; omega) ?_; intro v4 w4 ho4 hb4 hg4 hat4; have hc4 : w4.cell? ⟨b, off + q, none⟩ = some (.int .u32 (s.getD q 0)) := (hb4.cell (p := ⟨b, off + q, none⟩) hblt).trans (HCE.out q hq8); have HO4 := Lib.hid ho4; have HB4 := Lib.hid hb4; clear ho4 hb4 hat4)))
          have HO5 := HO4.out
          rw [← outR_succ] at HO5
          have HO6 := Lib.hid HO5
          clear HO5
          go_wp2
          go_roundw
          case rel => exact ⟨q + 1, by go_num, by omega, HO6, HB4⟩
          case measure => simp [intOf]; omega
        · have hq8' : q = 8 := by omega
          subst hq8'
          go_wp2
          go_ret
          refine ⟨_, rfl, ?_, ?_⟩
          · rw [← HJ.out, ← HSJ.out]
            exact Kd.R_lower (by simpa using hO3.out) (by have := hBr.out.size; omega)
          · have h1 := below_next HB.out hBr.out
            exact below_next h1 hB3.out
end Go.Proofs.Ytljmjeaocojnmaa.HSa
