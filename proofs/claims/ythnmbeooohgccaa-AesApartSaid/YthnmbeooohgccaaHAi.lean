/- Layer 3: the walk of AesApart. -/
import Derived.Test.YthnmbeooohgccaaHAg
import Derived.Test.YthnmbeooohgccaaPAf
import Derived.Test.YthnmbeooohgccaaEq
import Derived.Test.YthnmbeooohgccaaCalm
set_option linter.unusedVariables false
set_option linter.unusedSimpArgs false
namespace Go.Proofs.Ythnmbeooohgccaa.HAa
open Go.RowKit Go.Proofs.YthnmbeooohgccaaW.PrintWords Go.Proofs.YthnmbeooohgccaaW.PrintLast Go.Proofs.YthnmbeooohgccaaW.PrintMore Go.Proofs.Ythnmbeooohgccaa.Kit Go.Proofs.Ythnmbeooohgccaa.Ra
attribute [local irreducible] encF Wl keyN boxT
set_option maxHeartbeats 2000000 in
set_option maxRecDepth 100000 in
theorem apart_any (key a b : List Int) (w : World) (h16 : key.length = 16) (ha16 : a.length = 16) (hb16 : b.length = 16) (hkb : Bytes key) (hab : Bytes a) (hbb : Bytes b) :
    Calls Try.prog 12 #[.agg (nums .u8 key).toArray, .agg (nums .u8 a).toArray, .agg (nums .u8 b).toArray] w (TellsT w) := by
  have hinj := encF_inj key a b h16 ha16 hb16 hkb hab hbb
  have heqE := fun w => eql_arrs (P := Try.prog) 79 5 16 .u8 (encF key a) (encF key b) Try.underlying79 Try.underlying5 (by kernel_rfl) (encF_length _ _ ha16) (encF_length _ _ hb16) w
  have heqA := fun w => eql_arrs (P := Try.prog) 79 5 16 .u8 a b Try.underlying79 Try.underlying5 (by kernel_rfl) ha16 hb16 w
  obtain ⟨z, hz1, hz2⟩ : ∃ z : Bool, decide (encF key a = encF key b) = z ∧ decide (a = b) = z := by
    by_cases h : a = b
    · exact ⟨true, by rw [h]; simp, by simpa using h⟩
    · exact ⟨false, by simpa using fun e => h (hinj e), by simpa using h⟩
  rw [hz1] at heqE
  rw [hz2] at heqA
  have HE := Lib.hid heqE
  have HA := Lib.hid heqA
  have HEa := Lib.hid (fun w => encrypt_any key a w h16 ha16 hkb hab)
  have HEb := Lib.hid (fun w => encrypt_any key b w h16 hb16 hkb hbb)
  have HL := Lib.hid h16
  have HLa := Lib.hid ha16
  have HLb := Lib.hid hb16
  clear hinj heqE heqA hz1 hz2 h16 ha16 hb16 hkb hab hbb
  cases z
  all_goals
    go_enter Try.func12, Try.ntmps12
    go_wp2_with (first
      | ((with_reducible refine gate_dst (N := 3) rfl ?_); refine arr_new rfl 79 .u8 key (by first | (go_simp; done) | (go_simp; rfl)) ?_; intro w1 hA1 hB1)
      | ((with_reducible refine gate_dst (N := 4) rfl ?_); refine arr_new rfl 79 .u8 a (by first | (go_simp; done) | (go_simp; rfl)) ?_; intro w2 hA2 hB2)
      | ((with_reducible refine gate_dst (N := 5) rfl ?_); refine arr_new rfl 79 .u8 b (by first | (go_simp; done) | (go_simp; rfl)) ?_; intro w3 hA3 hB3; have HK := Lib.hid ((hA1.next hB2).next hB3); have HA2 := Lib.hid (hA2.next hB3); have HA3 := Lib.hid hA3; have HB := Lib.hid (below_next (below_next hB1 hB2) hB3); clear hA1 hA2 hA3 hB1 hB2 hB3)
      | fail)
    generalize w2.heap.size = g3 at *
    generalize w1.heap.size = g2 at *
    generalize hg1 : w.heap.size = g1 at *
    have HG1 := Lib.hid hg1
    clear hg1
    have HEa' := HEa.out
    have HEb' := HEb.out
    have HKC := Lib.hid (fun (w' : World) (h : Below w3.heap.size w3 w') => HK.out.next h)
    have HAC := Lib.hid (fun (w' : World) (h : Below w3.heap.size w3 w') => HA2.out.next h)
    have HBC := Lib.hid (fun (w' : World) (h : Below w3.heap.size w3 w') => HA3.out.next h)
    refine calm_region (fun w' => Below w3.heap.size w3 w') (by kernel_rfl) (by kernel_rfl) (below_drew (Below.refl _ _)) ?_
    refine calm_load_arr rfl 79 _ rfl g1 rfl .u8 _ _ _ key HKC.out Try.underlying79 (by rw [HL.out]; kernel_rfl) ?_
    simp only [Act.put, List.setIfInBounds_toArray, List.set_cons_zero, List.set_cons_succ]
    refine calm_load_arr rfl 79 _ rfl g2 rfl .u8 _ _ _ a HAC.out Try.underlying79 (by rw [HLa.out]; kernel_rfl) ?_
    simp only [Act.put, List.setIfInBounds_toArray, List.set_cons_zero, List.set_cons_succ]
    refine calm_call rfl 60 _ _ Try.func60 (by kernel_rfl) rfl _ _ #[.agg (nums .u8 key).toArray, .agg (nums .u8 a).toArray] rfl (by simp [Act.put, Act.eval]) (.agg (nums .u8 (encF key a)).toArray) (fun w' h => (HEa' w').mono fun _ _ q => ⟨q.1, below_next h q.2⟩) ?_
    simp only [Act.put, List.setIfInBounds_toArray, List.set_cons_zero, List.set_cons_succ]
    refine calm_load_arr rfl 79 _ rfl g1 rfl .u8 _ _ _ key HKC.out Try.underlying79 (by rw [HL.out]; kernel_rfl) ?_
    simp only [Act.put, List.setIfInBounds_toArray, List.set_cons_zero, List.set_cons_succ]
    refine calm_load_arr rfl 79 _ rfl g3 rfl .u8 _ _ _ b HBC.out Try.underlying79 (by rw [HLb.out]; kernel_rfl) ?_
    simp only [Act.put, List.setIfInBounds_toArray, List.set_cons_zero, List.set_cons_succ]
    refine calm_call rfl 60 _ _ Try.func60 (by kernel_rfl) rfl _ _ #[.agg (nums .u8 key).toArray, .agg (nums .u8 b).toArray] rfl (by simp [Act.put, Act.eval]) (.agg (nums .u8 (encF key b)).toArray) (fun w' h => (HEb' w').mono fun _ _ q => ⟨q.1, below_next h q.2⟩) ?_
    simp only [Act.put, List.setIfInBounds_toArray, List.set_cons_zero, List.set_cons_succ]
    refine calm_eql rfl 79 _ _ _ rfl _ _ rfl rfl _ (by kernel_rfl) HE.out ?_
    simp only [Act.put, List.setIfInBounds_toArray, List.set_cons_zero, List.set_cons_succ]
    refine calm_load_arr rfl 79 _ rfl g2 rfl .u8 _ _ _ a HAC.out Try.underlying79 (by rw [HLa.out]; kernel_rfl) ?_
    simp only [Act.put, List.setIfInBounds_toArray, List.set_cons_zero, List.set_cons_succ]
    refine calm_load_arr rfl 79 _ rfl g3 rfl .u8 _ _ _ b HBC.out Try.underlying79 (by rw [HLb.out]; kernel_rfl) ?_
    simp only [Act.put, List.setIfInBounds_toArray, List.set_cons_zero, List.set_cons_succ]
    refine calm_eql rfl 79 _ _ _ rfl _ _ rfl rfl _ (by kernel_rfl) HA.out ?_
    simp only [Act.put, List.setIfInBounds_toArray, List.set_cons_zero, List.set_cons_succ]
    refine calm_run rfl (.bool true) (fun w' _ => by unfold execOp; simp [go_sem, Act.put, Act.eval]) ?_
    simp only [Act.put, List.setIfInBounds_toArray, List.set_cons_zero, List.set_cons_succ]
    refine calm_move rfl _ rfl ?_
    simp only [Act.put, List.setIfInBounds_toArray, List.set_cons_zero, List.set_cons_succ]
    refine calm_call rfl 62 _ _ Try.func62 (by kernel_rfl) rfl _ _ #[] rfl (by simp [Act.put, Act.eval]) (.bool true) (fun w' h => (knows_any w').mono fun _ _ q => ⟨q.1, below_next h q.2⟩) ?_
    simp only [Act.put, List.setIfInBounds_toArray, List.set_cons_zero, List.set_cons_succ]
    refine calm_run rfl (.bool true) (fun w' _ => by unfold execOp; simp [go_sem, Act.put, Act.eval]) ?_
    simp only [Act.put, List.setIfInBounds_toArray, List.set_cons_zero, List.set_cons_succ]
    refine calm_assign rfl _ rfl ?_
    simp only [Act.put, List.setIfInBounds_toArray, List.set_cons_zero, List.set_cons_succ]
    refine wpQuiet_nil ?_
    intro w' hw'
    have hbb := HB.out
    rw [← HG1.out] at hbb
    have HW := Lib.hid (below_next hbb hw')
    clear hbb hw'
    go_wp2
    go_ret
    exact ⟨rfl, HW.out⟩
theorem aesApart_walk (a0 a1 a2 : List Int) (w : World) (l0 : a0.length = 16) (b0 : Bytes a0) (l1 : a1.length = 16) (b1 : Bytes a1) (l2 : a2.length = 16) (b2 : Bytes a2) :
    Calls Try.prog 12 #[.agg (nums .u8 a0).toArray, .agg (nums .u8 a1).toArray, .agg (nums .u8 a2).toArray] w fun e w' => e = .returned (.bool true) ∧ Below w.heap.size w w' := apart_any a0 a1 a2 w l0 l1 l2 b0 b1 b2
end Go.Proofs.Ythnmbeooohgccaa.HAa
