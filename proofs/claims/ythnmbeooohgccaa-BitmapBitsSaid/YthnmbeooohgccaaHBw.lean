/- The walk of padlocklaw12.BitmapBits, by hand, out of the contracts of what it calls. -/
import Derived.Test.YthnmbeooohgccaaHBk
import Derived.Test.YthnmbeooohgccaaBits
import Derived.Deep.RegionWith
import Derived.Deep.DeepFit
set_option linter.unusedVariables false
set_option linter.unusedSimpArgs false
namespace Go.Proofs.Ythnmbeooohgccaa.HBm
open Go.RowKit Go.Proofs.YthnmbeooohgccaaW.PrintWords Go.Proofs.YthnmbeooohgccaaW.PrintLast Go.Proofs.YthnmbeooohgccaaW.PrintMore Go.Proofs.Ythnmbeooohgccaa.Ba Go.Proofs.Ythnmbeooohgccaa.Kit

def TellsB (b : Bool) (w : World) (e : Ending) (w' : World) : Prop := e = .returned (.bool b) ∧ Below w.heap.size w w'
theorem info4 : (Try.prog.info? 4).map (fun i => (i.zero, i.size, i.bytes)) = some (some (.bool false), 1, 1) := by kernel_rfl
theorem wf_len {n : Nat} (h : n ≤ 100) : True := trivial

set_option maxHeartbeats 400000 in
theorem bits_big (A0 : Option Addr) (c0 : Nat) (l0 : List Int) (a1 : Int) (a2 : Bool) (a3 a4 : Int) (w : World) (hl : 100 < l0.length) (hl2 : l0.length ≤ 9223372036854775807) :
    Calls Try.prog 3 #[.slice A0 l0.length c0, .int .i64 a1, .bool a2, .int .i64 a3, .int .i64 a4] w (TellsB true w) := by
  go_enter Try.func3, Try.ntmps3
  go_wp2_with fail
  refine (padlocklaw12_knows.calls true _ rfl).mono ?_
  rintro e w1 ⟨rfl, hB⟩
  have HB := Aside0.mk hB
  clear hB
  go_wp2
  go_ret
  exact ⟨rfl, HB.out⟩
set_option maxHeartbeats 1000000 in
set_option maxRecDepth 100000 in
theorem bits_out (k : Nat) (A0 : Option Addr) (c0 : Nat) (l0 : List Int) (a1 : Int) (a2 : Bool) (a3 a4 : Int) (w : World) (bl : List Bool) (x : List Int) (ec n1 n2 : Int) (hr0 : Kd.C (Kd.int .u8) w A0 l0.length l0) (hc0 : l0.length ≤ c0) (hl : l0.length ≤ 100) (hbl : bl.length ≤ 800)
    (hi : -9223372036854775808 ≤ a1) (hi2 : a1 ≤ 9223372036854775807)
    (hBits : padlockref12_Bits.f k l0 = some bl) (hSet : bitmap_Set.f l0 a1 a2 = some (x, ec)) (hCount : bitmap_Count.f l0 a3 a4 = some n1) (hCount2 : padlockref12_Count.f k bl a3 a4 = some n1)
    (hFirst : bitmap_First.f l0 a3 a4 = some n2) (hFirst2 : padlockref12_First.f k bl a3 a4 = some n2)
    (hEnd : Hid (getv l0 a1 = false ∧ x = [] ∧ ec = 1)) (hOut : a1 < 0 ∨ (bl.length : Int) ≤ a1) :
    Calls Try.prog 3 #[.slice A0 l0.length c0, .int .i64 a1, .bool a2, .int .i64 a3, .int .i64 a4] w (TellsB true w) := by
  have HR0 := Aside0.mk hr0
  have HBits := Lib.hid hBits
  have HSet := Lib.hid hSet
  have HCount := Lib.hid hCount
  have HCount2 := Lib.hid hCount2
  have HFirst := Lib.hid hFirst
  have HFirst2 := Lib.hid hFirst2
  clear hr0 hBits hSet hCount hCount2 hFirst hFirst2
  have he0 := hEnd
  clear hEnd
  go_enter Try.func3, Try.ntmps3
  go_wp2_with fail
  refine (padlockref12_Bits.calls k A0 c0 l0 bl _ HR0.out hc0 HBits.out).mono ?_
  rintro e w1 ⟨v1, rfl, hO, hB⟩
  obtain ⟨A1, c1, rfl, hlc1, hrd1⟩ := Kd.R_reads hO
  have HO1 := Aside0.mk hO
  have HB1 := Aside0.mk hB
  clear hO hB hrd1
  go_wp2_with (first
      | ((with_reducible refine gate_dst (N := 22) rfl ?_); refine Kd.R_lit (Kd.int .u8) (w0 := w1) w1.heap.size 5 ?hg (N := 22) ?hd (xs := ([] : List Int)) (inner := []) (ok := fun _ => True) (okp := fun _ => True) ?hr ?hp (fun _ hk => hk) trivial (Below.refl _ _) (Nat.le_refl _) (by simp) ?_; (case hd => rfl); (case hg => rfl); (case hr => first | (go_simp; done) | (go_simp; rfl)); (case hp => exact (Reps.none _ _)); intro v2 w2 ho2 hb2 hg_ hnew_; clear hg_ hnew_; have HO2 := Aside0.mk ho2; have HB2 := Aside0.mk hb2; clear ho2 hb2)
      | ((with_reducible refine gate_builtin (b := .append) (xs := #[.tmp 22, .tmp 23]) rfl ?_); at_builtin; refine Kd.R_append_rows (Kd.int .u8) (w0 := w1) w1.heap.size rfl (.tmp 22) (.tmp 23) 22 5 (.int .u8 0) 1 rfl Try.underlying22 info5 rfl (by decide) (by omega) v2 [] l0 _ _ _ (fun _ => True) (fun _ => False) rfl rfl HO2.out (Kd.C_below HR0.out (below_next HB1.out HB2.out)) (fun _ _ h => h) (fun _ h => h.elim) (fun _ _ => trivial) HB2.out HB2.out.size ?aL ?_; (case aL => simp; omega); intro v3 w3 ho3 hb3 hg3 hat3; have HO3 := Aside0.mk ho3; have HB3 := Aside0.mk hb3; clear ho3 hb3 hg3 hat3)
      | fail)
  have hO3 : Kd.R (Kd.int .u8) 5 w3 w1.heap.size (fun _ => True) v3 l0 := HO3.out
  obtain ⟨A3, c3, rfl, hlc3, hrd3⟩ := Kd.R_reads hO3
  have HRD3 := Aside0.mk hrd3
  have HB13 := Aside0.mk (below_next HB1.out HB3.out)
  clear hO3 hrd3
  refine (bitmap_Set.calls A3 c3 l0 a1 a2 x ec _ HRD3.out hlc3 HSet.out).mono ?_
  rintro e w4 ⟨v4, rfl, hO, hB⟩
  obtain ⟨A4, c4, rfl, hlc4, hrd4⟩ := Kd.R_reads hO
  have HO4 := Aside0.mk hO
  have HB4 := Aside0.mk hB
  have HB14 := Aside0.mk (below_next HB13.out hB)
  clear hO hB hrd4
  have hcv1 := own_string (P := Try.prog) (dst := 9) Try.underlying22 Try.underlying5 Try.underlying9 (Kd.own_of_R (Kd.R_below HO3.out HB4.out))
  have hcv2 := Kd.C_string (P := Try.prog) (dst := 9) (A := A0) (c := c0) Try.underlying22 Try.underlying5 Try.underlying9 (Kd.C_below HR0.out HB14.out)
  rw [List.nil_append] at hcv1
  go_wp2_with fail
  refine (bitmap_Count.calls A0 c0 l0 a3 a4 n1 _ (Kd.C_below HR0.out HB14.out) hc0 HCount.out).mono ?_
  rintro e w5 ⟨rfl, hB⟩
  have HB5 := Aside0.mk hB
  have HB15 := Aside0.mk (below_next HB14.out hB)
  clear hB hcv1 hcv2
  have HO1_4 := Aside0.mk (Kd.R_below (Kd.R_below (Kd.R_below HO1.out HB3.out) HB4.out) HB5.out)
  go_wp2_with fail
  refine (padlockref12_Count.calls k A1 c1 bl a3 a4 n1 _ (Kd.R_reads' HO1_4.out).2.2 hlc1 HCount2.out).mono ?_
  rintro e w6 ⟨rfl, hd⟩
  obtain ⟨nd, rfl⟩ := hd.out
  clear hd
  go_wp2_with fail
  refine (bitmap_First.calls A0 c0 l0 a3 a4 n2 _ (Kd.C_below HR0.out (pw_below_drewN HB15.out nd)) hc0 HFirst.out).mono ?_
  rintro e w7 ⟨rfl, hB⟩
  have HB7 := Aside0.mk hB
  have HB17 := Aside0.mk (below_next (pw_below_drewN HB15.out nd) hB)
  clear hB
  have HO1_7 := Aside0.mk (Kd.R_below (Kd.R_drewN HO1_4.out nd) HB7.out)
  have HO4_7 := Aside0.mk (Kd.R_below (Kd.R_drewN (Kd.R_below HO4.out HB5.out) nd) HB7.out)
  go_wp2_with fail
  refine (padlockref12_First.calls k A1 c1 bl a3 a4 n2 _ (Kd.R_reads' HO1_7.out).2.2 hlc1 HFirst2.out).mono ?_
  rintro e w8 ⟨rfl, hd⟩
  obtain ⟨nd2, rfl⟩ := hd.out
  clear hd
  obtain ⟨hg, rfl, rfl⟩ := he0.out
  have HG := Lib.hid hg
  clear hg he0
  by_cases hneg : a1 < 0
  all_goals
    have hge : (bl.length : Int) ≤ a1 ∨ a1 < 0 := by omega
    try have hge2 : (bl.length : Int) ≤ a1 := by omega
    go_wp2_with fail
    refine (get_any A0 c0 l0 a1 _ (Kd.C_below HR0.out (pw_below_drewN HB17.out nd2)) hi2).mono ?_
    rintro e w9 ⟨rfl, rfl⟩
    rw [HG.out]
    go_wp2_with fail
    refine (padlocklaw12_knows.calls true _ rfl).mono ?_
    rintro e w9 ⟨rfl, hB⟩
    have HB19 := Aside0.mk (below_next (pw_below_drewN HB17.out nd2) hB)
    clear hB
    go_wp2
    go_ret
    exact ⟨rfl, HB19.out⟩
set_option maxHeartbeats 1000000 in
set_option maxRecDepth 100000 in
theorem bits_in (k : Nat) (A0 : Option Addr) (c0 : Nat) (l0 : List Int) (a1 : Int) (a2 : Bool) (a3 a4 : Int) (w : World) (bl : List Bool) (x : List Int) (ec n1 n2 : Int) (hr0 : Kd.C (Kd.int .u8) w A0 l0.length l0) (hc0 : l0.length ≤ c0) (hl : l0.length ≤ 100) (hbl : bl.length ≤ 800)
    (hi : -9223372036854775808 ≤ a1) (hi2 : a1 ≤ 9223372036854775807)
    (hBits : padlockref12_Bits.f k l0 = some bl) (hSet : bitmap_Set.f l0 a1 a2 = some (x, ec)) (hCount : bitmap_Count.f l0 a3 a4 = some n1) (hCount2 : padlockref12_Count.f k bl a3 a4 = some n1)
    (hFirst : bitmap_First.f l0 a3 a4 = some n2) (hFirst2 : padlockref12_First.f k bl a3 a4 = some n2)
    (hEnd : Hid (getv l0 a1 = rdOf false bl a1 ∧ ec = 0 ∧ padlockref12_Bytes.f k (bl.set a1.toNat a2) = some x)) (hIn : 0 ≤ a1) (hIn2 : a1 < (bl.length : Int)) :
    Calls Try.prog 3 #[.slice A0 l0.length c0, .int .i64 a1, .bool a2, .int .i64 a3, .int .i64 a4] w (TellsB true w) := by
  have HR0 := Aside0.mk hr0
  have HBits := Lib.hid hBits
  have HSet := Lib.hid hSet
  have HCount := Lib.hid hCount
  have HCount2 := Lib.hid hCount2
  have HFirst := Lib.hid hFirst
  have HFirst2 := Lib.hid hFirst2
  clear hr0 hBits hSet hCount hCount2 hFirst hFirst2
  have he0 := hEnd
  clear hEnd
  go_enter Try.func3, Try.ntmps3
  go_wp2_with fail
  refine (padlockref12_Bits.calls k A0 c0 l0 bl _ HR0.out hc0 HBits.out).mono ?_
  rintro e w1 ⟨v1, rfl, hO, hB⟩
  obtain ⟨A1, c1, rfl, hlc1, hrd1⟩ := Kd.R_reads hO
  have HO1 := Aside0.mk hO
  have HB1 := Aside0.mk hB
  clear hO hB hrd1
  go_wp2_with (first
      | ((with_reducible refine gate_dst (N := 22) rfl ?_); refine Kd.R_lit (Kd.int .u8) (w0 := w1) w1.heap.size 5 ?hg (N := 22) ?hd (xs := ([] : List Int)) (inner := []) (ok := fun _ => True) (okp := fun _ => True) ?hr ?hp (fun _ hk => hk) trivial (Below.refl _ _) (Nat.le_refl _) (by simp) ?_; (case hd => rfl); (case hg => rfl); (case hr => first | (go_simp; done) | (go_simp; rfl)); (case hp => exact (Reps.none _ _)); intro v2 w2 ho2 hb2 hg_ hnew_; clear hg_ hnew_; have HO2 := Aside0.mk ho2; have HB2 := Aside0.mk hb2; clear ho2 hb2)
      | ((with_reducible refine gate_builtin (b := .append) (xs := #[.tmp 22, .tmp 23]) rfl ?_); at_builtin; refine Kd.R_append_rows (Kd.int .u8) (w0 := w1) w1.heap.size rfl (.tmp 22) (.tmp 23) 22 5 (.int .u8 0) 1 rfl Try.underlying22 info5 rfl (by decide) (by omega) v2 [] l0 _ _ _ (fun _ => True) (fun _ => False) rfl rfl HO2.out (Kd.C_below HR0.out (below_next HB1.out HB2.out)) (fun _ _ h => h) (fun _ h => h.elim) (fun _ _ => trivial) HB2.out HB2.out.size ?aL ?_; (case aL => simp; omega); intro v3 w3 ho3 hb3 hg3 hat3; have HO3 := Aside0.mk ho3; have HB3 := Aside0.mk hb3; clear ho3 hb3 hg3 hat3)
      | fail)
  have hO3 : Kd.R (Kd.int .u8) 5 w3 w1.heap.size (fun _ => True) v3 l0 := HO3.out
  obtain ⟨A3, c3, rfl, hlc3, hrd3⟩ := Kd.R_reads hO3
  have HRD3 := Aside0.mk hrd3
  have HB13 := Aside0.mk (below_next HB1.out HB3.out)
  clear hO3 hrd3
  refine (bitmap_Set.calls A3 c3 l0 a1 a2 x ec _ HRD3.out hlc3 HSet.out).mono ?_
  rintro e w4 ⟨v4, rfl, hO, hB⟩
  obtain ⟨A4, c4, rfl, hlc4, hrd4⟩ := Kd.R_reads hO
  have HO4 := Aside0.mk hO
  have HB4 := Aside0.mk hB
  have HB14 := Aside0.mk (below_next HB13.out hB)
  clear hO hB hrd4
  have hcv1 := own_string (P := Try.prog) (dst := 9) Try.underlying22 Try.underlying5 Try.underlying9 (Kd.own_of_R (Kd.R_below HO3.out HB4.out))
  have hcv2 := Kd.C_string (P := Try.prog) (dst := 9) (A := A0) (c := c0) Try.underlying22 Try.underlying5 Try.underlying9 (Kd.C_below HR0.out HB14.out)
  rw [List.nil_append] at hcv1
  go_wp2_with fail
  refine (bitmap_Count.calls A0 c0 l0 a3 a4 n1 _ (Kd.C_below HR0.out HB14.out) hc0 HCount.out).mono ?_
  rintro e w5 ⟨rfl, hB⟩
  have HB5 := Aside0.mk hB
  have HB15 := Aside0.mk (below_next HB14.out hB)
  clear hB hcv1 hcv2
  have HO1_4 := Aside0.mk (Kd.R_below (Kd.R_below (Kd.R_below HO1.out HB3.out) HB4.out) HB5.out)
  go_wp2_with fail
  refine (padlockref12_Count.calls k A1 c1 bl a3 a4 n1 _ (Kd.R_reads' HO1_4.out).2.2 hlc1 HCount2.out).mono ?_
  rintro e w6 ⟨rfl, hd⟩
  obtain ⟨nd, rfl⟩ := hd.out
  clear hd
  go_wp2_with fail
  refine (bitmap_First.calls A0 c0 l0 a3 a4 n2 _ (Kd.C_below HR0.out (pw_below_drewN HB15.out nd)) hc0 HFirst.out).mono ?_
  rintro e w7 ⟨rfl, hB⟩
  have HB7 := Aside0.mk hB
  have HB17 := Aside0.mk (below_next (pw_below_drewN HB15.out nd) hB)
  clear hB
  have HO1_7 := Aside0.mk (Kd.R_below (Kd.R_drewN HO1_4.out nd) HB7.out)
  have HO4_7 := Aside0.mk (Kd.R_below (Kd.R_drewN (Kd.R_below HO4.out HB5.out) nd) HB7.out)
  go_wp2_with fail
  refine (padlockref12_First.calls k A1 c1 bl a3 a4 n2 _ (Kd.R_reads' HO1_7.out).2.2 hlc1 HFirst2.out).mono ?_
  rintro e w8 ⟨rfl, hd⟩
  obtain ⟨nd2, rfl⟩ := hd.out
  clear hd
  obtain ⟨hg, rfl, hby⟩ := he0.out
  have HG := Lib.hid hg
  have HY := Lib.hid hby
  clear hg he0 hby
  obtain ⟨g, cp, hgf, hge, hgl, _⟩ := Kd.R_form HO1_7.out (by omega)
  injection hgf with hg1 _ hg2
  subst hg1
  clear hg2
  obtain ⟨ad, hae, hcell⟩ := Kd.at_bool (Kd.R_reads' HO1_7.out).2.2 a1 hIn hIn2
  cases hae
  rw [add_plain, ← HG.out] at hcell
  have hfr := (Kd.own_of_R HO1_7.out).frozenAt a1.toNat
  have hp := Kd.R_put (Kd.R_drewN HO1_7.out nd2) a1 a2
  have HP := Aside0.mk hp
  clear hp
  go_wp2_with fail
  have HPd := Aside0.mk HP.out.1
  have HBd := Aside0.mk (pw_below_grown (pw_below_drewN HB17.out nd2) (some g) (by have := HB17.out.size; simp; omega) HP.out.2 (fun k hk => by cases hk; have := HB1.out.size; omega))
  have hne : ∀ q, q ∈ 5 :: (Kd.int .u8).E → q ≠ 4 := by intro q hq; simp [Kd.int, Kd.scalar] at hq; omega
  obtain ⟨cells, hcells⟩ : ∃ cells, w7.heap[g]? = some (.cells cells 4 (0, 0)) := by assumption
  have HXd := Aside0.mk (Kd.R_set (Kd.R_drewN HO4_7.out nd2) (by simpa using hcells) hne a1.toNat (.bool a2))
  have HCd := Aside0.mk (Kd.C_below HR0.out HBd.out)
  clear HP HO1_7 HO4_7 HO1_4 hcells hne hcell hfr
  generalize (w7.drewN nd2).setCell ⟨g, a1.toNat, none⟩ (.bool a2) = W at *
  have hcx := own_string (P := Try.prog) (dst := 9) Try.underlying22 Try.underlying5 Try.underlying9 (Kd.own_of_R (Kd.R_drew HXd.out))
  have hlen : (bl.set a1.toNat a2).length = bl.length := by simp
  have HL := Lib.hid hlen
  clear hlen
  go_region_with (first
    | (go_at_call 22; go_loud (refine (get_any A0 c0 l0 a1 _ (by exact Kd.C_drew HCd.out) hi2).mono ?_; rintro e W1 ⟨rfl, rfl⟩))
    | (go_at_call 23; rw [← HL.out]; refine (padlockref12_Bytes.calls k _ _ (bl.set a1.toNat a2) x _ (by exact Kd.C_drew (Kd.R_reads' HPd.out).2.2) (by rw [HL.out]; exact hlc1) HY.out).mono ?_; rintro e W1 ⟨v9, rfl, hO9, hB9⟩; have HO9 := Aside0.mk hO9; have HB9 := Aside0.mk hB9; have hcy := own_string (P := Try.prog) (dst := 9) Try.underlying22 Try.underlying5 Try.underlying9 (Kd.own_of_R hO9); have hcx2 := own_string (P := Try.prog) (dst := 9) Try.underlying22 Try.underlying5 Try.underlying9 (Kd.own_of_R (Kd.R_below (Kd.R_drew HXd.out) hB9)); clear hO9 hB9)
    | (go_at_call 15; refine (padlocklaw12_knows.calls true _ rfl).mono ?_; rintro e W2 ⟨rfl, hB10⟩; have HB10 := Aside0.mk (below_next (below_next (below_drew HBd.out) HB9.out) hB10); clear hB10))
  all_goals (try go_wp2)
  all_goals go_ret
  all_goals exact ⟨rfl, HB10.out⟩
end Go.Proofs.Ythnmbeooohgccaa.HBm
