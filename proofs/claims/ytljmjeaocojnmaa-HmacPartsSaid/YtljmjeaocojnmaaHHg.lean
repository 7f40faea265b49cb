/- Layer 2: the walk of HmacKeys. -/
import Derived.Test.YtljmjeaocojnmaaHHf
import Derived.Test.YtljmjeaocojnmaaEq
import Derived.Test.YtljmjeaocojnmaaCalm
set_option linter.unusedVariables false
set_option linter.unusedSimpArgs false
namespace Go.Proofs.Ytljmjeaocojnmaa.HHa
open Go.RowKit Go.Proofs.YtljmjeaocojnmaaW.PrintWords Go.Proofs.YtljmjeaocojnmaaW.PrintLast Go.Proofs.YtljmjeaocojnmaaW.PrintMore Go.Proofs.Ytljmjeaocojnmaa.Kit Go.Proofs.Ytljmjeaocojnmaa.HSa Go.Proofs.Ytljmjeaocojnmaa.Sa
attribute [local go_sem ↓] Go.wp_at_zero Go.wp_at_succ
theorem reads_of_row {w : World} {a0 : Option Addr} {len0 cap0 : Nat} {z0 : List Int} (w0 : (a0 = none ∧ len0 = 0 ∧ cap0 = 0 ∧ z0 = []) ∨ ∃ x, a0 = some x ∧ len0 ≤ cap0 ∧ cap0 ≤ maxLen ∧ z0.length = cap0 ∧ (∀ i, i < z0.length → w.cell? (x.add i) = some (.int .u8 (z0.getD i 0))) ∧ ∀ n ∈ z0, (Lit.int .u8 n).wf = true) :
    ∃ l : List Int, l.length = len0 ∧ Kd.C (Kd.int .u8) w a0 l.length l ∧ len0 ≤ cap0 ∧ Bytes l := by
  obtain ⟨l0, hl, hr, hm, hw, hc⟩ := ReadsInt.ofRowC w0
  exact ⟨l0, hl.symm, Kd.C_of_reads (d := (0 : Int)) (h1 := fun _ => rfl) hr, by omega, bytes_of_wf hw⟩
theorem hmF_congr (k1 k2 b : List Int) (h : padK k1 = padK k2) : hmF k1 b = hmF k2 b := by unfold hmF inF padX; rw [h]
theorem padK_big (key : List Int) (h : 64 < key.length) : padK ((padK key).take 32) = padK key := by
  have h1 : padK key = fillK (sumF key) := by unfold padK; rw [if_pos h]
  have h2 : (padK key).take 32 = sumF key := by
    rw [h1]
    unfold fillK
    rw [List.take_append_of_le_length (by rw [sumF_len]; decide), List.take_of_length_le (by rw [sumF_len]; decide)]
  rw [h2, h1]
  unfold padK
  rw [if_neg (by rw [sumF_len]; decide)]
theorem padK_small (key : List Int) (m : Nat) (h : key.length ≤ 64) (h1 : key.length ≤ m) (h2 : m ≤ 64) : padK ((padK key).take m) = padK key := by
  have hk : padK key = key ++ List.replicate (64 - key.length) 0 := by unfold padK fillK; rw [if_neg (by omega)]
  have ht : (padK key).take m = key ++ List.replicate (m - key.length) 0 := by
    rw [hk, List.take_append, List.take_of_length_le h1, List.take_replicate]
    congr 2
    omega
  rw [ht, hk]
  unfold padK fillK
  rw [if_neg (by simp; omega), List.append_assoc, List.append_cancel_left_eq]
  simp only [List.length_append, List.length_replicate, List.replicate_append_replicate]
  congr 1
  omega
attribute [local irreducible] sumF padX inF hmF jN iv consts allF comeN padK fillK
set_option maxHeartbeats 2000000 in
set_option maxRecDepth 100000 in
theorem keys_few (A0 : Option Addr) (c0 : Nat) (l0 : List Int) (A1 : Option Addr) (c1 : Nat) (l1 : List Int) (x : Int) (w : World) (hr0 : Kd.C (Kd.int .u8) w A0 l0.length l0) (hc0 : l0.length ≤ c0) (hb0 : Bytes l0) (hl0 : l0.length ≤ 200)
    (hr1 : Kd.C (Kd.int .u8) w A1 l1.length l1) (hc1 : l1.length ≤ c1) (hl1 : l1.length ≤ 200) (hx : 0 ≤ x ∧ x < 256) :
    Calls Try.prog 3 #[.slice A0 l0.length c0, .slice A1 l1.length c1, .int .u8 x] w (TellsT w) := by
  have HR0 := Lib.hid hr0
  have HR1 := Lib.hid hr1
  have HNEW := Lib.hid (new_any A0 c0 l0 w hr0 hc0 (by omega) hb0)
  obtain ⟨E, hE⟩ : ∃ E, E = hmF l0 l1 := ⟨_, rfl⟩
  have hEL : E.length = 32 := by rw [hE]; exact hmF_length _ _
  have heqE := fun w => eql_arrs (P := Try.prog) 27 5 32 .u8 E E Try.underlying27 Try.underlying5 (by kernel_rfl) hEL hEL w
  simp only [decide_true] at heqE
  have HEQ := Lib.hid heqE
  have HE := Lib.hid hE
  have HEL := Lib.hid hEL
  obtain ⟨n, hn⟩ : ∃ n, n = l0.length := ⟨_, rfl⟩
  obtain ⟨n1, hn1⟩ : ∃ n, n = l1.length := ⟨_, rfl⟩
  have HN := Lib.hid hn
  have HN1 := Lib.hid hn1
  have HL : Hid (n ≤ c0 ∧ n1 ≤ c1) := Lib.hid ⟨by omega, by omega⟩
  have hn2 : n ≤ 200 := by omega
  have hn3 : n1 ≤ 200 := by omega
  obtain ⟨hx0, hx1⟩ := hx
  rw [← hn] at HR0 HNEW
  rw [← hn1] at HR1
  rw [← hn, ← hn1]
  clear hr0 hc0 hb0 hl0 hr1 hc1 hl1 hE hEL heqE hn hn1
  by_cases hbig : 64 < n
  all_goals
    go_enter Try.func3, Try.ntmps3
    go_wp2_with fail
    refine HNEW.out.mono ?_
    rintro e w1 ⟨g, AK, cK, AR, cR, AC, cC, rfl, hKA, hB1⟩
    have HKA := Lib.hid hKA
    have HB1 := Lib.hid hB1
    have HR01 := Lib.hid (Kd.C_below HR0.out hB1)
    have HR11 := Lib.hid (Kd.C_below HR1.out hB1)
    clear hKA hB1
    go_wp2_with fail
  focus
    obtain ⟨m, hm⟩ : ∃ m : Nat, m = 32 := ⟨_, rfl⟩
    have hm2 : m ≤ 64 := by omega
    have HPM : Hid (padK ((padK l0).take m) = padK l0) := Lib.hid (by rw [hm]; exact padK_big l0 (by rw [← HN.out]; exact hbig))
    have HCELL := Lib.hid (fun (w' : World) (h : Below w1.heap.size w1 w') => (HKA.out.next h).cell.1)
    have HS1 := Lib.hid (fun (w' : World) (h : Below w1.heap.size w1 w') => (by
      have h := hsum_any A0 c0 l0 A1 c1 l1 w' (by rw [← HN.out]; exact Kd.C_below HR01.out h) (by rw [← HN.out]; exact HL.out.1) (by rw [← HN.out]; omega) (by rw [← HN1.out]; exact Kd.C_below HR11.out h) (by rw [← HN1.out]; exact HL.out.2) (by rw [← HN1.out]; omega)
      rw [← HN.out, ← HN1.out, ← HE.out] at h
      exact h : Calls Try.prog 17 #[.slice A0 n c0, .slice A1 n1 c1] w' (GivesArr .u8 E w')))
    have HS2 := Lib.hid (fun (w' : World) (h : Below w1.heap.size w1 w') => (by
      have hC := (HKA.out.next h).k
      have hP := padK_length l0
      have hC2 := Kd.C_take (m := m) (xs := padK l0) (by rw [hP]; exact hC) (by rw [hP]; omega)
      have hT : ((padK l0).take m).length = m := by rw [List.length_take, hP]; omega
      have hck := HKA.out.ck
      have h := hsum_any AK cK ((padK l0).take m) A1 c1 l1 w' hC2 (by rw [hT]; omega) (by rw [hT]; omega) (by rw [← HN1.out]; exact Kd.C_below HR11.out h) (by rw [← HN1.out]; exact HL.out.2) (by rw [← HN1.out]; omega)
      rw [hT, ← HN1.out, hmF_congr _ l0 l1 HPM.out, ← HE.out] at h
      exact h : Calls Try.prog 17 #[.slice AK m cK, .slice A1 n1 c1] w' (GivesArr .u8 E w')))
    have HSL := Lib.hid (fun (w' : World) => by
      have h := (print_take_int (P := Try.prog) (k := .u8) 22 5 Try.underlying22 rfl rfl AK cK (padK l0) (m : Int) (by omega) (by rw [padK_length]; omega) (by rw [padK_length]; exact HKA.out.ck)).1 w'
      rw [Int.toNat_natCast, List.length_take, padK_length, Nat.min_eq_left hm2] at h
      exact h)
    clear HNEW HR0 HR1 HR01 HR11
    subst hm
    rw [show ((32 : Nat) : Int) = 32 from rfl] at HSL
    have HS1' := HS1.out
    have HS2' := HS2.out
    refine calm_region (fun w' => Below w1.heap.size w1 w') (by kernel_rfl) (by kernel_rfl) (below_drew (Below.refl _ _)) ?_
    refine calm_move rfl _ rfl ?_
    simp only [Act.put, List.setIfInBounds_toArray, List.set_cons_zero, List.set_cons_succ]
    refine calm_move rfl _ rfl ?_
    simp only [Act.put, List.setIfInBounds_toArray, List.set_cons_zero, List.set_cons_succ]
    refine calm_call rfl 17 _ _ Try.func17 (by kernel_rfl) rfl _ _ #[.slice A0 n c0, .slice A1 n1 c1] rfl (by simp [Act.put, Act.eval]) (.agg (nums .u8 E).toArray) (fun w' h => (HS1' w' h).mono fun _ _ q => ⟨q.1, below_next h q.2⟩) ?_
    simp only [Act.put, List.setIfInBounds_toArray, List.set_cons_zero, List.set_cons_succ]
    refine calm_move rfl _ rfl ?_
    simp only [Act.put, List.setIfInBounds_toArray, List.set_cons_zero, List.set_cons_succ]
    refine calm_run rfl (.pointer (some ⟨g, 0, none⟩)) (fun w' h => by unfold execOp; simp [go_sem, Act.put, Act.eval]) ?_
    simp only [Act.put, List.setIfInBounds_toArray, List.set_cons_zero, List.set_cons_succ]
    refine calm_run rfl (.pointer (some ⟨g, 0, none⟩)) (fun w' h => by unfold execOp; simp [go_sem, Act.put, Act.eval]) ?_
    simp only [Act.put, List.setIfInBounds_toArray, List.set_cons_zero, List.set_cons_succ]
    refine calm_run rfl (.slice AK 64 cK) (fun w' h => by have hc := HCELL.out w' h; unfold execOp; simp [go_sem, Act.put, Act.eval, hc]) ?_
    simp only [Act.put, List.setIfInBounds_toArray, List.set_cons_zero, List.set_cons_succ]
    refine calm_run rfl (.slice AK 32 cK) (fun w' h => by have hc := HSL.out w'; unfold execOp; simp [go_sem, Act.put, Act.eval, hc]) ?_
    simp only [Act.put, List.setIfInBounds_toArray, List.set_cons_zero, List.set_cons_succ]
    refine calm_move rfl _ rfl ?_
    simp only [Act.put, List.setIfInBounds_toArray, List.set_cons_zero, List.set_cons_succ]
    refine calm_call rfl 17 _ _ Try.func17 (by kernel_rfl) rfl _ _ #[.slice AK 32 cK, .slice A1 n1 c1] rfl (by simp [Act.put, Act.eval]) (.agg (nums .u8 E).toArray) (fun w' h => (HS2' w' h).mono fun _ _ q => ⟨q.1, below_next h q.2⟩) ?_
    simp only [Act.put, List.setIfInBounds_toArray, List.set_cons_zero, List.set_cons_succ]
    refine calm_eql rfl 27 _ _ _ rfl _ _ rfl rfl _ (by kernel_rfl) HEQ.out ?_
    simp only [Act.put, List.setIfInBounds_toArray, List.set_cons_zero, List.set_cons_succ]
    refine calm_move rfl _ rfl ?_
    simp only [Act.put, List.setIfInBounds_toArray, List.set_cons_zero, List.set_cons_succ]
    refine calm_call rfl 15 _ _ Try.func15 (by kernel_rfl) rfl _ _ #[] rfl (by simp [Act.put, Act.eval]) (.bool true) (fun w' h => (hknows_any w').mono fun _ _ q => ⟨q.1, below_next h q.2⟩) ?_
    simp only [Act.put, List.setIfInBounds_toArray, List.set_cons_zero, List.set_cons_succ]
    refine calm_run rfl (.bool true) (fun w' _ => by unfold execOp; simp [go_sem, Act.put, Act.eval]) ?_
    simp only [Act.put, List.setIfInBounds_toArray, List.set_cons_zero, List.set_cons_succ]
    refine calm_assign rfl _ rfl ?_
    simp only [Act.put, List.setIfInBounds_toArray, List.set_cons_zero, List.set_cons_succ]
    refine wpQuiet_nil ?_
    intro w' hw'
    have HW := Lib.hid (below_next HB1.out hw')
    clear hw'
    go_wp2
    go_ret
    exact ⟨rfl, HW.out⟩
  focus
    obtain ⟨m, hm⟩ : ∃ m : Nat, (m : Int) = n + x % (65 - n) := ⟨((n : Int) + x % (65 - n)).toNat, by have h := Int.emod_nonneg x (show (65 - (n : Int)) ≠ 0 by omega); omega⟩
    have hmm : n ≤ m ∧ m ≤ 64 := by
      have h := Int.emod_nonneg x (show (65 - (n : Int)) ≠ 0 by omega)
      have h2 := Int.emod_lt_of_pos x (show 0 < (65 - (n : Int)) by omega)
      omega
    have hm2 := hmm.2
    have hwr : wrap64 (↑n + x % (65 - ↑n)) = (m : Int) := by rw [← hm]; unfold wrap64; omega
    rw [hwr]
    have HPM : Hid (padK ((padK l0).take m) = padK l0) := Lib.hid (padK_small l0 m (by rw [← HN.out]; omega) (by rw [← HN.out]; omega) hm2)
    clear hwr
    have HCELL := Lib.hid (fun (w' : World) (h : Below w1.heap.size w1 w') => (HKA.out.next h).cell.1)
    have HS1 := Lib.hid (fun (w' : World) (h : Below w1.heap.size w1 w') => (by
      have h := hsum_any A0 c0 l0 A1 c1 l1 w' (by rw [← HN.out]; exact Kd.C_below HR01.out h) (by rw [← HN.out]; exact HL.out.1) (by rw [← HN.out]; omega) (by rw [← HN1.out]; exact Kd.C_below HR11.out h) (by rw [← HN1.out]; exact HL.out.2) (by rw [← HN1.out]; omega)
      rw [← HN.out, ← HN1.out, ← HE.out] at h
      exact h : Calls Try.prog 17 #[.slice A0 n c0, .slice A1 n1 c1] w' (GivesArr .u8 E w')))
    have HS2 := Lib.hid (fun (w' : World) (h : Below w1.heap.size w1 w') => (by
      have hC := (HKA.out.next h).k
      have hP := padK_length l0
      have hC2 := Kd.C_take (m := m) (xs := padK l0) (by rw [hP]; exact hC) (by rw [hP]; omega)
      have hT : ((padK l0).take m).length = m := by rw [List.length_take, hP]; omega
      have hck := HKA.out.ck
      have h := hsum_any AK cK ((padK l0).take m) A1 c1 l1 w' hC2 (by rw [hT]; omega) (by rw [hT]; omega) (by rw [← HN1.out]; exact Kd.C_below HR11.out h) (by rw [← HN1.out]; exact HL.out.2) (by rw [← HN1.out]; omega)
      rw [hT, ← HN1.out, hmF_congr _ l0 l1 HPM.out, ← HE.out] at h
      exact h : Calls Try.prog 17 #[.slice AK m cK, .slice A1 n1 c1] w' (GivesArr .u8 E w')))
    have HSL := Lib.hid (fun (w' : World) => by
      have h := (print_take_int (P := Try.prog) (k := .u8) 22 5 Try.underlying22 rfl rfl AK cK (padK l0) (m : Int) (by omega) (by rw [padK_length]; omega) (by rw [padK_length]; exact HKA.out.ck)).1 w'
      rw [Int.toNat_natCast, List.length_take, padK_length, Nat.min_eq_left hm2] at h
      exact h)
    clear HNEW HR0 HR1 HR01 HR11
    have HS1' := HS1.out
    have HS2' := HS2.out
    refine calm_region (fun w' => Below w1.heap.size w1 w') (by kernel_rfl) (by kernel_rfl) (below_drew (Below.refl _ _)) ?_
    refine calm_move rfl _ rfl ?_
    simp only [Act.put, List.setIfInBounds_toArray, List.set_cons_zero, List.set_cons_succ]
    refine calm_move rfl _ rfl ?_
    simp only [Act.put, List.setIfInBounds_toArray, List.set_cons_zero, List.set_cons_succ]
    refine calm_call rfl 17 _ _ Try.func17 (by kernel_rfl) rfl _ _ #[.slice A0 n c0, .slice A1 n1 c1] rfl (by simp [Act.put, Act.eval]) (.agg (nums .u8 E).toArray) (fun w' h => (HS1' w' h).mono fun _ _ q => ⟨q.1, below_next h q.2⟩) ?_
    simp only [Act.put, List.setIfInBounds_toArray, List.set_cons_zero, List.set_cons_succ]
    refine calm_move rfl _ rfl ?_
    simp only [Act.put, List.setIfInBounds_toArray, List.set_cons_zero, List.set_cons_succ]
    refine calm_run rfl (.pointer (some ⟨g, 0, none⟩)) (fun w' h => by unfold execOp; simp [go_sem, Act.put, Act.eval]) ?_
    simp only [Act.put, List.setIfInBounds_toArray, List.set_cons_zero, List.set_cons_succ]
    refine calm_run rfl (.pointer (some ⟨g, 0, none⟩)) (fun w' h => by unfold execOp; simp [go_sem, Act.put, Act.eval]) ?_
    simp only [Act.put, List.setIfInBounds_toArray, List.set_cons_zero, List.set_cons_succ]
    refine calm_run rfl (.slice AK 64 cK) (fun w' h => by have hc := HCELL.out w' h; unfold execOp; simp [go_sem, Act.put, Act.eval, hc]) ?_
    simp only [Act.put, List.setIfInBounds_toArray, List.set_cons_zero, List.set_cons_succ]
    refine calm_move rfl _ rfl ?_
    simp only [Act.put, List.setIfInBounds_toArray, List.set_cons_zero, List.set_cons_succ]
    refine calm_run rfl (.slice AK m cK) (fun w' h => by have hc := HSL.out w'; unfold execOp; simp [go_sem, Act.put, Act.eval, hc]) ?_
    simp only [Act.put, List.setIfInBounds_toArray, List.set_cons_zero, List.set_cons_succ]
    refine calm_move rfl _ rfl ?_
    simp only [Act.put, List.setIfInBounds_toArray, List.set_cons_zero, List.set_cons_succ]
    refine calm_call rfl 17 _ _ Try.func17 (by kernel_rfl) rfl _ _ #[.slice AK m cK, .slice A1 n1 c1] rfl (by simp [Act.put, Act.eval]) (.agg (nums .u8 E).toArray) (fun w' h => (HS2' w' h).mono fun _ _ q => ⟨q.1, below_next h q.2⟩) ?_
    simp only [Act.put, List.setIfInBounds_toArray, List.set_cons_zero, List.set_cons_succ]
    refine calm_eql rfl 27 _ _ _ rfl _ _ rfl rfl _ (by kernel_rfl) HEQ.out ?_
    simp only [Act.put, List.setIfInBounds_toArray, List.set_cons_zero, List.set_cons_succ]
    refine calm_move rfl _ rfl ?_
    simp only [Act.put, List.setIfInBounds_toArray, List.set_cons_zero, List.set_cons_succ]
    refine calm_call rfl 15 _ _ Try.func15 (by kernel_rfl) rfl _ _ #[] rfl (by simp [Act.put, Act.eval]) (.bool true) (fun w' h => (hknows_any w').mono fun _ _ q => ⟨q.1, below_next h q.2⟩) ?_
    simp only [Act.put, List.setIfInBounds_toArray, List.set_cons_zero, List.set_cons_succ]
    refine calm_run rfl (.bool true) (fun w' _ => by unfold execOp; simp [go_sem, Act.put, Act.eval]) ?_
    simp only [Act.put, List.setIfInBounds_toArray, List.set_cons_zero, List.set_cons_succ]
    refine calm_assign rfl _ rfl ?_
    simp only [Act.put, List.setIfInBounds_toArray, List.set_cons_zero, List.set_cons_succ]
    refine wpQuiet_nil ?_
    intro w' hw'
    have HW := Lib.hid (below_next HB1.out hw')
    clear hw'
    go_wp2
    go_ret
    exact ⟨rfl, HW.out⟩
set_option maxHeartbeats 1000000 in
theorem keys_big (A0 : Option Addr) (n c0 : Nat) (A1 : Option Addr) (n1 c1 : Nat) (x : Int) (w : World) (h : 200 < n ∨ 200 < n1) (hn : n ≤ 140737488355328) (hn1 : n1 ≤ 140737488355328) :
    Calls Try.prog 3 #[.slice A0 n c0, .slice A1 n1 c1, .int .u8 x] w (TellsT w) := by
  by_cases h0 : 200 < n
  all_goals
    go_enter Try.func3, Try.ntmps3
    go_wp2_with fail
    refine (hknows_any w).mono ?_
    rintro e w1 ⟨rfl, hB⟩
    have HB := Lib.hid hB
    clear hB
    go_wp2_with fail
    go_ret
    exact ⟨rfl, HB.out⟩
theorem hmacKeys_walk (a0 : Option Addr) (len0 cap0 : Nat) (z0 : List Int) (a1 : Option Addr) (len1 cap1 : Nat) (z1 : List Int) (a2 : Int) (w : World)
    (w0 : (a0 = none ∧ len0 = 0 ∧ cap0 = 0 ∧ z0 = []) ∨ ∃ x, a0 = some x ∧ len0 ≤ cap0 ∧ cap0 ≤ maxLen ∧ z0.length = cap0 ∧ (∀ i, i < z0.length → w.cell? (x.add i) = some (.int .u8 (z0.getD i 0))) ∧ ∀ n ∈ z0, (Lit.int .u8 n).wf = true)
    (y0 : len0 * 1 ≤ 140737488351232)
    (w1 : (a1 = none ∧ len1 = 0 ∧ cap1 = 0 ∧ z1 = []) ∨ ∃ x, a1 = some x ∧ len1 ≤ cap1 ∧ cap1 ≤ maxLen ∧ z1.length = cap1 ∧ (∀ i, i < z1.length → w.cell? (x.add i) = some (.int .u8 (z1.getD i 0))) ∧ ∀ n ∈ z1, (Lit.int .u8 n).wf = true)
    (y1 : len1 * 1 ≤ 140737488351232) (w2 : (Lit.int .u8 a2).wf = true) :
    Calls Try.prog 3 #[.slice a0 len0 cap0, .slice a1 len1 cap1, .int .u8 a2] w fun e w' => e = .returned (.bool true) ∧ Below w.heap.size w w' := by
  obtain ⟨l, hlen, hr, hc, hb⟩ := reads_of_row w0
  obtain ⟨l1, hlen1, hr1, hc1, hb1⟩ := reads_of_row w1
  clear w0 w1
  subst hlen hlen1
  have hx : 0 ≤ a2 ∧ a2 < 256 := by
    have h := bytes_of_wf (l := [a2]) (fun x hx => by rw [List.mem_singleton] at hx; subst hx; exact w2)
    exact h a2 (List.mem_singleton.2 rfl)
  by_cases hbig : 200 < l.length ∨ 200 < l1.length
  · exact keys_big a0 l.length cap0 a1 l1.length cap1 a2 w hbig (by omega) (by omega)
  · exact keys_few a0 cap0 l a1 cap1 l1 a2 w hr hc hb (by omega) hr1 hc1 (by omega) hx
end Go.Proofs.Ytljmjeaocojnmaa.HHa
