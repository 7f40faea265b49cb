/- Layer 1: the walk of Sha256Sums. -/
import Derived.Test.YthnmbeooohgccaaHSf
import Derived.Deep.RegionWith
import Derived.Deep.DeepFit
set_option linter.unusedVariables false
set_option linter.unusedSimpArgs false
namespace Go.Proofs.Ythnmbeooohgccaa.HSa
open Go.RowKit Go.Proofs.YthnmbeooohgccaaW.PrintWords Go.Proofs.YthnmbeooohgccaaW.PrintLast Go.Proofs.YthnmbeooohgccaaW.PrintMore Go.Proofs.Ythnmbeooohgccaa.Kit Go.Proofs.Ythnmbeooohgccaa.Sa
attribute [local irreducible] sumF
theorem rsum_tells (A0 : Option Addr) (c0 : Nat) (l : List Int) (w : World) (hr0 : Kd.C (Kd.int .u8) w A0 l.length l) (hc0 : l.length ≤ c0) (hb : Bytes l) (hl : l.length ≤ 100000) :
    Calls Try.prog 56 #[.slice A0 l.length c0] w (OutB w (sumF l)) := by
  have h := rsum_any 978 A0 c0 l iv consts (allF l) (fun j => comeN iv (allF l) j) w hr0 hc0 (constants_tells 978 (by decide)) (filled_tells l (by omega) 560) (steps_tell l hb hl 560)
  rw [sumF_eq] at h
  exact h
theorem arr_reads {T : TypeId} {w : World} {g : Nat} {xs : List Int} (h : Arr .u8 T w g xs) (n : Nat) (hn : xs.length = n) (h1 : n ≤ 1000000) : Kd.C (Kd.int .u8) w (some ⟨g, 0, none⟩) n xs := by
  refine Kd.C_of_reads (d := (0 : Int)) (h1 := fun _ => rfl) ⟨hn, by omega, fun _ => ⟨_, rfl, fun j hj => ?_⟩⟩
  rw [add_plain]
  have := h.cellN j (by omega)
  simpa using this
set_option maxHeartbeats 1000000 in
set_option maxRecDepth 100000 in
theorem sums_big (A : Option Addr) (c : Nat) (l : List Int) (w : World) (h : 400 < l.length) (h2 : l.length ≤ 9223372036854775807) :
    Calls Try.prog 9 #[.slice A l.length c] w (TellsT w) := by
  have HK := Lib.hid (knows_any w)
  go_enter Try.func9, Try.ntmps9
  go_wp2_with fail
  refine HK.out.mono ?_
  rintro e w1 ⟨rfl, hB⟩
  have HB := Lib.hid hB
  clear hB
  go_wp2
  go_ret
  exact ⟨rfl, HB.out⟩
set_option maxHeartbeats 1000000 in
set_option maxRecDepth 100000 in
theorem sums_few (A0 : Option Addr) (c0 : Nat) (l0 : List Int) (w : World) (hr0 : Kd.C (Kd.int .u8) w A0 l0.length l0) (hc0 : l0.length ≤ c0) (hb : Bytes l0) (hl : l0.length ≤ 400) :
    Calls Try.prog 9 #[.slice A0 l0.length c0] w (TellsT w) := by
  have HR0 := Lib.hid hr0
  have HBy := Lib.hid hb
  clear hr0 hb
  go_enter Try.func9, Try.ntmps9
  go_wp2_with (first
      | ((with_reducible refine gate_dst (N := 9) rfl ?_); refine Kd.R_lit (Kd.int .u8) (w0 := w) w.heap.size 5 ?hg (N := 9) ?hd (xs := ([] : List Int)) (inner := []) (ok := fun _ => True) (okp := fun _ => True) ?hr ?hp (fun _ hk => hk) trivial (Below.refl _ _) (Nat.le_refl _) (by simp) ?_; (case hd => rfl); (case hg => rfl); (case hr => first | (go_simp; done) | (go_simp; rfl)); (case hp => exact (Reps.none _ _)); intro v2 w2 ho2 hb2 hg_ hnew_; clear hg_ hnew_; have HO2 := Aside0.mk ho2; have HB2 := Aside0.mk hb2; clear ho2 hb2)
      | ((with_reducible refine gate_builtin (b := .append) (xs := #[.tmp 9, .tmp 10]) rfl ?_); at_builtin; refine Kd.R_append_rows (Kd.int .u8) (w0 := w) w.heap.size rfl (.tmp 9) (.tmp 10) 22 5 (.int .u8 0) 1 rfl Try.underlying22 info5 rfl (by decide) (by omega) v2 [] l0 _ _ _ (fun _ => True) (fun _ => False) rfl rfl HO2.out (Kd.C_below HR0.out HB2.out) (fun _ _ h => h) (fun _ h => h.elim) (fun _ _ => trivial) HB2.out HB2.out.size ?aL ?_; (case aL => simp; omega); intro v3 w3 ho3 hb3 hg3 hat3; have HO3 := Aside0.mk ho3; have HB3 := Aside0.mk hb3; clear ho3 hb3 hg3 hat3; obtain ⟨A3, c3, rfl, hlc3, hrd3⟩ := Kd.R_reads (show Kd.R (Kd.int .u8) 5 w3 w.heap.size (fun _ => True) v3 l0 from HO3.out); have HRD3 := Lib.hid hrd3; clear hrd3)
      | fail)
  refine (sum_any A3 c3 l0 w3 HRD3.out hlc3 (by omega)).mono ?_
  rintro e w4 ⟨rfl, hB4⟩
  obtain ⟨xs, hxs⟩ : ∃ xs, xs = sumF l0 := ⟨_, rfl⟩
  have hL : xs.length = 32 := by rw [hxs]; exact sumF_length l0
  have HL := Lib.hid hL
  have HX := Lib.hid hxs
  rw [← hxs]
  have HB4 := Lib.hid hB4
  have HB14 := Lib.hid (below_next HB3.out hB4)
  have HO4 := Lib.hid (Kd.R_below (show Kd.R (Kd.int .u8) 5 w3 w.heap.size (fun _ => True) _ l0 from HO3.out) hB4)
  clear hxs hL hB4
  go_wp2_with (first
    | ((with_reducible refine gate_dst (N := 4) rfl ?_); refine alloc_arr rfl 69 rfl .u8 (List.replicate 32 0) (fun w => Try.zeroValue69 w) (by first | (go_simp; done) | (go_simp; rfl)) ?_; intro w5 hA5 hB5)
    | ((with_reducible refine gate_store (t := 69) (p := 4) rfl ?_); refine store_arr rfl 69 _ _ rfl w4.heap.size .u8 xs rfl rfl 69 _ hA5 (by rw [HL.out]; rfl) (by rw [HL.out]; kernel_rfl) ?_; intro w6 hA6 hw6; have hB6 := below_setRow hB5 w4.heap.size (Nat.le_refl _) (nums .u8 xs).toArray; rw [← hw6] at hB6; have HA6 := Lib.hid hA6; have HB46 := Lib.hid hB6; clear hA5 hB5 hw6 hA6 hB6)
    | fail)
  have HO6 := Lib.hid (Kd.R_below HO4.out HB46.out)
  have HB16 := Lib.hid (below_next HB14.out HB46.out)
  have HC6 := Lib.hid (Kd.C_below HR0.out HB16.out)
  have hrd6 := arr_reads HA6.out.drew 32 HL.out (by decide)
  have hs1 := Kd.C_string (P := Try.prog) (dst := 9) (c := 32) Try.underlying22 Try.underlying5 Try.underlying9 hrd6
  clear hrd6
  have hst := own_string (P := Try.prog) (dst := 9) Try.underlying22 Try.underlying5 Try.underlying9 (Kd.own_of_R (Kd.R_drew HO6.out))
  have hbt := Kd.C_string (P := Try.prog) (dst := 9) (A := A0) (c := c0) Try.underlying22 Try.underlying5 Try.underlying9 (Kd.C_drew HC6.out)
  go_region_with (first
    | (go_at_call 56; go_loud (refine (rsum_tells A0 c0 l0 _ (by exact Kd.C_drew HC6.out) hc0 HBy.out (by omega)).mono ?_; rintro e W1 ⟨v9, rfl, hO9, hB9⟩; rw [← HX.out] at hO9; have hB9' := Lib.hid hB9; have hcy := own_string (P := Try.prog) (dst := 9) Try.underlying22 Try.underlying5 Try.underlying9 (Kd.own_of_R hO9); have hs2 := Kd.C_string (P := Try.prog) (dst := 9) (c := 32) Try.underlying22 Try.underlying5 Try.underlying9 (arr_reads (HA6.out.drew.next hB9) 32 HL.out (by decide)); have hst2 := own_string (P := Try.prog) (dst := 9) Try.underlying22 Try.underlying5 Try.underlying9 (Kd.own_of_R (Kd.R_below (Kd.R_drew HO6.out) hB9)); have hbt2 := Kd.C_string (P := Try.prog) (dst := 9) (A := A0) (c := c0) Try.underlying22 Try.underlying5 Try.underlying9 (Kd.C_below HR0.out (below_next (below_drew HB16.out) hB9)); clear hO9 hB9))
    | (go_at_call 54; refine (knows_any _).mono ?_; rintro e W2 ⟨rfl, hB10⟩; have HB10 := Lib.hid (below_next (below_next (below_drew HB16.out) hB9'.out) hB10); clear hB10))
  all_goals (try go_wp2)
  all_goals go_ret
  all_goals exact ⟨rfl, HB10.out⟩
end Go.Proofs.Ythnmbeooohgccaa.HSa
