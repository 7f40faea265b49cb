/- Layer 2: joined parts tell the parts, plain; the walk of HmacParts. -/
import Derived.Test.YtljmjeaocojnmaaHHh
set_option linter.unusedVariables false
set_option linter.unusedSimpArgs false
namespace Go.Proofs.Ytljmjeaocojnmaa.HHa
open Go.RowKit Go.Proofs.YtljmjeaocojnmaaW.PrintWords Go.Proofs.YtljmjeaocojnmaaW.PrintLast Go.Proofs.YtljmjeaocojnmaaW.PrintMore Go.Proofs.Ytljmjeaocojnmaa.Kit Go.Proofs.Ytljmjeaocojnmaa.HSa
attribute [local go_sem ↓] Go.wp_at_zero Go.wp_at_succ
theorem map_inj : ∀ a b : List Int, Bytes a → Bytes b → (a.map fun n => UInt8.ofNat n.toNat) = (b.map fun n => UInt8.ofNat n.toNat) → a = b
  | [], [], _, _, _ => rfl
  | [], _ :: _, _, _, h => by simp at h
  | _ :: _, [], _, _, h => by simp at h
  | x :: a, y :: b, ha, hb, h => by
    simp only [List.map_cons, List.cons.injEq] at h
    have hx := ha x (by simp)
    have hy := hb y (by simp)
    have h2 := congrArg UInt8.toNat h.1
    simp only [UInt8.toNat_ofNat'] at h2
    have : x = y := by omega
    rw [this, map_inj a b (fun z hz => ha z (by simp [hz])) (fun z hz => hb z (by simp [hz])) h.2]
theorem str_inj (a b : List Int) (ha : Bytes a) (hb : Bytes b) (h : strOfNums a = strOfNums b) : a = b := by
  have h1 := congrArg (fun s : ByteArray => s.data.toList) h
  exact map_inj a b ha hb h1
def encP : List (List Int) → List Int
  | [] => []
  | p :: ps => len4 p.length ++ (p ++ encP ps)
theorem encP_app : ∀ a b, encP (a ++ b) = encP a ++ encP b
  | [], b => rfl
  | p :: a, b => by simp [encP, encP_app a b]
theorem jN_enc (ps : List (List Int)) : ∀ k, k ≤ ps.length → jN ps k = encP (ps.take k)
  | 0, _ => by simp [jN, encP]
  | k + 1, h => by
    rw [jN, jN_enc ps k (by omega), List.take_succ_eq_append_getElem (by omega), encP_app]
    simp [encP, List.getD, List.getElem?_eq_getElem (show k < ps.length by omega)]
theorem jF_enc (ps : List (List Int)) : jF ps = encP ps := by
  unfold jF
  rw [jN_enc ps _ (Nat.le_refl _), List.take_length]
theorem encP_inj : ∀ a b : List (List Int), (∀ p ∈ a, p.length ≤ 60) → (∀ p ∈ b, p.length ≤ 60) → encP a = encP b → a = b
  | [], [], _, _, _ => rfl
  | [], _ :: _, _, _, h => by simp [encP, len4] at h
  | _ :: _, [], _, _, h => by simp [encP, len4] at h
  | p :: a, q :: b, ha, hb, h => by
    have hp := ha p (by simp)
    have hq := hb q (by simp)
    simp only [encP] at h
    obtain ⟨h1, h2⟩ := List.append_inj h (by simp [len4])
    have hl : p.length = q.length := by
      simp only [len4, List.cons.injEq] at h1
      omega
    obtain ⟨h3, h4⟩ := List.append_inj h2 hl
    rw [h3, encP_inj a b (fun z hz => ha z (by simp [hz])) (fun z hz => hb z (by simp [hz])) h4]
def sameN (a b : List (List Int)) : Nat → Bool
  | 0 => decide (a.length = b.length)
  | k + 1 => sameN a b k && decide (a.getD k [] = b.getD k [])
theorem sameN_all (a b : List (List Int)) : ∀ k, sameN a b k = true ↔ a.length = b.length ∧ ∀ j, j < k → a.getD j [] = b.getD j []
  | 0 => by simp [sameN]
  | k + 1 => by
    rw [sameN, Bool.and_eq_true, sameN_all a b k, decide_eq_true_iff]
    constructor
    · rintro ⟨⟨h1, h2⟩, h3⟩
      refine ⟨h1, fun j hj => ?_⟩
      by_cases h : j < k
      · exact h2 j h
      · rw [show j = k from by omega]
        exact h3
    · rintro ⟨h1, h2⟩
      exact ⟨⟨h1, fun j hj => h2 j (by omega)⟩, h2 k (by omega)⟩
theorem sameN_eq (a b : List (List Int)) : sameN a b a.length = decide (a = b) := by
  rw [Bool.eq_iff_iff, sameN_all, decide_eq_true_iff]
  constructor
  · rintro ⟨h1, h2⟩
    refine List.ext_getElem h1 (fun j h3 h4 => ?_)
    have h := h2 j h3
    simpa [List.getD, List.getElem?_eq_getElem h3, List.getElem?_eq_getElem h4] using h
  · rintro rfl
    exact ⟨rfl, fun _ _ => rfl⟩
theorem joined_same (a b : List (List Int)) (ha : ∀ j, j < a.length → (a.getD j []).length ≤ 60) (hb : ∀ j, j < b.length → (b.getD j []).length ≤ 60) (hab : ∀ p ∈ a, Bytes p) (hbb : ∀ p ∈ b, Bytes p) :
    decide (strOfNums (jF a) = strOfNums (jF b)) = sameN a b a.length := by
  have mem : ∀ (l : List (List Int)), (∀ j, j < l.length → (l.getD j []).length ≤ 60) → ∀ p ∈ l, p.length ≤ 60 := by
    intro l h p hp
    obtain ⟨j, hj, rfl⟩ := List.getElem_of_mem hp
    have := h j hj
    simpa [List.getD, List.getElem?_eq_getElem hj] using this
  rw [sameN_eq, Bool.eq_iff_iff, decide_eq_true_iff, decide_eq_true_iff]
  constructor
  · intro h
    have h1 := str_inj _ _ (by unfold jF; exact jN_bytes a hab _) (by unfold jF; exact jN_bytes b hbb _) h
    rw [jF_enc, jF_enc] at h1
    exact encP_inj a b (mem a ha) (mem b hb) h1
  · rintro rfl
    rfl
theorem str_beq (x y : ByteArray) : (x.toList == y.toList) = decide (x = y) := by
  rw [Bool.eq_iff_iff, beq_iff_eq, decide_eq_true_iff, ByteArray.toList_eq, ByteArray.toList_eq]
  exact ⟨Go.WideShapes.bytes_inj, fun h => by rw [h]⟩
theorem part_same (a b : List Int) (ha : Bytes a) (hb : Bytes b) : decide (strOfNums a = strOfNums b) = decide (a = b) := by
  rw [Bool.eq_iff_iff, decide_eq_true_iff, decide_eq_true_iff]
  exact ⟨str_inj a b ha hb, fun h => by rw [h]⟩
attribute [local irreducible] sumF padX inF hmF jN jF iv consts allF comeN padK fillK kF sameN
set_option maxHeartbeats 4000000 in
set_option maxRecDepth 100000 in
theorem hparts_few (A0 : Option Addr) (c0 : Nat) (l0 : List Int) (A1 : Option Addr) (c1 : Nat) (pa : List (List Int)) (A2 : Option Addr) (c2 : Nat) (pb : List (List Int)) (w : World) (hr0 : Kd.C (Kd.int .u8) w A0 l0.length l0) (hc0 : l0.length ≤ c0) (hl0 : l0.length ≤ 100)
    (hr1 : Kd.C (Kd.slice 5 (Kd.int .u8)) w A1 pa.length pa) (hc1 : pa.length ≤ c1) (hl1 : pa.length ≤ 10) (hbp1 : ∀ p ∈ pa, Bytes p) (hr2 : Kd.C (Kd.slice 5 (Kd.int .u8)) w A2 pb.length pb) (hc2 : pb.length ≤ c2) (hl2 : pb.length ≤ 10) (hbp2 : ∀ p ∈ pb, Bytes p) :
    Calls Try.prog 5 #[.slice A0 l0.length c0, .slice A1 pa.length c1, .slice A2 pb.length c2] w (TellsT w) := by
  have HR0 := Lib.hid hr0
  have HR1 := Lib.hid hr1
  have HR2 := Lib.hid hr2
  have HBP1 := Lib.hid hbp1
  have HBP2 := Lib.hid hbp2
  obtain ⟨n, hn⟩ : ∃ n, n = l0.length := ⟨_, rfl⟩
  obtain ⟨n1, hn1⟩ : ∃ n, n = pa.length := ⟨_, rfl⟩
  obtain ⟨n2, hn2⟩ : ∃ n, n = pb.length := ⟨_, rfl⟩
  have HN := Lib.hid hn
  have HN1 := Lib.hid hn1
  have HN2 := Lib.hid hn2
  have HL : Hid (n ≤ c0 ∧ n1 ≤ c1 ∧ n2 ≤ c2) := Lib.hid ⟨by omega, by omega, by omega⟩
  have hm : n ≤ 100 := by omega
  have hm1 : n1 ≤ 10 := by omega
  have hm2 : n2 ≤ 10 := by omega
  rw [← hn] at HR0
  rw [← hn1] at HR1
  rw [← hn2] at HR2
  rw [← hn, ← hn1, ← hn2]
  clear hr0 hc0 hl0 hr1 hc1 hl1 hbp1 hr2 hc2 hl2 hbp2 hn hn1 hn2
  have hat : ∀ (A : Option Addr) (m : Nat) (ps : List (List Int)), Kd.C (Kd.slice 5 (Kd.int .u8)) w A m ps → ∀ k, k < m → ∃ b off A' c', A = some ⟨b, off, none⟩ ∧ w.cell? ⟨b, off + k, none⟩ = some (.slice A' (ps.getD k []).length c') ∧ (ps.getD k []).length ≤ c' ∧ Kd.C (Kd.int .u8) w A' (ps.getD k []).length (ps.getD k []) := fun A m ps hC k hk => by
    obtain ⟨b, off, e, h⟩ := rows_at hC (by omega)
    obtain ⟨A', c', h1, h2, h3⟩ := h k hk
    exact ⟨b, off, A', c', e, h1, h2, h3⟩
  have HAT1 := Lib.hid (hat A1 n1 pa HR1.out)
  have HAT2 := Lib.hid (hat A2 n2 pb HR2.out)
  clear hat
  have hbyte : ∀ (ps : List (List Int)), (∀ p ∈ ps, Bytes p) → ∀ k, Bytes (ps.getD k []) := fun ps h k => by
    intro x hx
    by_cases hk : k < ps.length
    · refine h _ ?_ x hx
      rw [List.getD_eq_getElem?_getD, List.getElem?_eq_getElem hk]
      exact List.getElem_mem hk
    · rw [List.getD_eq_getElem?_getD, List.getElem?_eq_none (by omega)] at hx
      simp at hx
  have HBY1 := Lib.hid (hbyte pa HBP1.out)
  have HBY2 := Lib.hid (hbyte pb HBP2.out)
  clear hbyte
  go_enter Try.func5, Try.ntmps5
  go_wp2_with fail
  go_loopw [7, 8] (fun sv iv wr => ∃ (k : Nat) (s : Bool), sv = .bool s ∧ iv = .int .i64 k ∧ k ≤ n1 ∧ Hid (s = sameN pa pb k) ∧ Hid (∀ j, j < k → (pa.getD j []).length ≤ 60) ∧ Hid (Below w.heap.size w wr)) (fun _ iv _ => n1 - (intOf iv).toNat)
  case atStart => exact ⟨0, _, rfl, rfl, by omega, Lib.hid (by unfold sameN; rw [← HN1.out, ← HN2.out, Bool.eq_iff_iff, beq_iff_eq, decide_eq_true_iff]; omega), Lib.hid (fun j h => absurd h (Nat.not_lt_zero j)), Lib.hid (Below.refl _ _)⟩
  case round =>
    obtain ⟨k, s, rfl, rfl, hk, hS, hP, hB⟩ := hrel
    by_cases hkn : k < n1
    · obtain ⟨b, off, Ap, cp, eA, hcell0, hlp, hCp⟩ := HAT1.out k hkn
      have hSN : sameN pa pb (k + 1) = (sameN pa pb k && decide (pa.getD k [] = pb.getD k [])) := by rw [sameN]
      rw [← hS.out, ← part_same _ _ (HBY1.out k) (HBY2.out k)] at hSN
      have hn12 : s = true → n1 = n2 := fun h => by
        have h2 := (sameN_all pa pb k).1 (by rw [← hS.out]; exact h)
        rw [HN1.out, HN2.out]
        exact h2.1
      have hcell := (hB.out.cell (p := ⟨b, off + k, none⟩) (World.block_lt_of_cell? w _ hcell0)).trans hcell0
      have hcelld := ((below_drew hB.out).cell (p := ⟨b, off + k, none⟩) (World.block_lt_of_cell? w _ hcell0)).trans hcell0
      have hst1 := Kd.C_string (P := Try.prog) (dst := 9) (c := cp) Try.underlying22 Try.underlying5 Try.underlying9 (Kd.C_below hCp (below_drew hB.out))
      obtain ⟨p, hp⟩ : ∃ p, p = pa.getD k [] := ⟨_, rfl⟩
      rw [← hp] at hcell hcelld hst1 hSN
      obtain ⟨lp, hlp'⟩ : ∃ l, l = p.length := ⟨_, rfl⟩
      rw [← hlp'] at hcell hcelld hst1
      have HLP : Hid (lp = (pa.getD k []).length) := Lib.hid (by rw [hlp', hp])
      have HSN := Lib.hid hSN
      subst eA
      clear hcell0 hlp hCp hlp' hp hSN
      by_cases h60 : 60 < lp
      · go_wp2_with fail
        refine (hknows_any wr).mono ?_
        rintro e w1 ⟨rfl, hB1⟩
        have HB1 := Lib.hid (below_next hB.out hB1)
        clear hB1
        go_wp2_with fail
        go_ret
        exact ⟨rfl, HB1.out⟩
      · have HPn : Hid (∀ j, j < k + 1 → (pa.getD j []).length ≤ 60) := Lib.hid (fun j hj => by
          by_cases h : j < k
          · exact hP.out j h
          · rw [show j = k from by omega, ← HLP.out]
            omega)
        cases s with
        | false =>
          go_wp2_with fail
          go_region
          go_wp2_with fail
          go_roundw
          case rel => exact ⟨k + 1, false, rfl, by go_num, by omega, Lib.hid (by rw [HSN.out]; rfl), HPn, Lib.hid (below_drew hB.out)⟩
          case measure => simp [intOf]; omega
        | true =>
          have hk2 : k < n2 := by rw [← hn12 rfl]; exact hkn
          obtain ⟨b2, off2, Aq, cq, eA2, hcell20, hlq, hCq⟩ := HAT2.out k hk2
          have hcell2d := ((below_drew hB.out).cell (p := ⟨b2, off2 + k, none⟩) (World.block_lt_of_cell? w _ hcell20)).trans hcell20
          have hst2 := Kd.C_string (P := Try.prog) (dst := 9) (c := cq) Try.underlying22 Try.underlying5 Try.underlying9 (Kd.C_below hCq (below_drew hB.out))
          obtain ⟨q, hq⟩ : ∃ q, q = pb.getD k [] := ⟨_, rfl⟩
          rw [← hq] at hcell2d hst2 HSN
          obtain ⟨lq, hlq'⟩ : ∃ l, l = q.length := ⟨_, rfl⟩
          rw [← hlq'] at hcell2d hst2
          subst eA2
          clear hcell20 hlq hCq hlq' hq hn12
          go_wp2_with fail
          go_region
          go_wp2_with fail
          go_roundw
          case rel => exact ⟨k + 1, _, rfl, by go_num, by omega, Lib.hid (by rw [HSN.out, str_beq]; rfl), HPn, Lib.hid (below_drew hB.out)⟩
          case measure => simp [intOf]; omega
    · have hk' : n1 = k := by omega
      subst hk'
      obtain ⟨wo, hwo⟩ : ∃ wo : World, wo = wr := ⟨_, rfl⟩
      subst hwo
      have HP1 : Hid (∀ j, j < pa.length → (pa.getD j []).length ≤ 60) := Lib.hid (by rw [← HN1.out]; exact hP.out)
      have HSA : Hid (s = sameN pa pb pa.length) := Lib.hid (by rw [← HN1.out]; exact hS.out)
      have HBo := Lib.hid hB.out
      clear hP hS hB
      go_wp2_with fail
      go_loopw [9] (fun iv wq => ∃ k : Nat, iv = .int .i64 k ∧ k ≤ n2 ∧ wo = wq ∧ Hid (∀ j, j < k → (pb.getD j []).length ≤ 60)) (fun iv _ => n2 - (intOf iv).toNat)
      case atStart =>
        refine ⟨0, rfl, by omega, ?_, Lib.hid (fun j h => absurd h (Nat.not_lt_zero j))⟩
        first | exact True.intro | rfl
      case round =>
        obtain ⟨k, rfl, hk, rfl, hQ⟩ := hrel
        by_cases hkn2 : k < n2
        · obtain ⟨b, off, Ap, cp, eA, hcell0, hlp, hCp⟩ := HAT2.out k hkn2
          have hcell := (HBo.out.cell (p := ⟨b, off + k, none⟩) (World.block_lt_of_cell? w _ hcell0)).trans hcell0
          obtain ⟨lp, hlp'⟩ : ∃ l, l = (pb.getD k []).length := ⟨_, rfl⟩
          rw [← hlp'] at hcell
          have HLP := Lib.hid hlp'
          subst eA
          clear hcell0 hlp hCp hlp'
          by_cases h60 : 60 < lp
          · go_wp2_with fail
            refine (hknows_any wo).mono ?_
            rintro e w1 ⟨rfl, hB1⟩
            have HB1 := Lib.hid (below_next HBo.out hB1)
            clear hB1
            go_wp2_with fail
            go_ret
            exact ⟨rfl, HB1.out⟩
          · go_wp2_with fail
            go_roundw
            case rel =>
              refine ⟨k + 1, by go_num, by omega, by first | exact True.intro | rfl, Lib.hid (fun j hj => ?_)⟩
              by_cases h : j < k
              · exact hQ.out j h
              · rw [show j = k from by omega, ← HLP.out]
                omega
            case measure => simp [intOf]; omega
        · have hk' : n2 = k := by omega
          subst hk'
          have HP2 : Hid (∀ j, j < pb.length → (pb.getD j []).length ≤ 60) := Lib.hid (by rw [← HN2.out]; exact hQ.out)
          have hjs : ∀ (ps : List (List Int)), ps.length ≤ 10 → (∀ j, j < ps.length → (ps.getD j []).length ≤ 60) → ∀ q, q ≤ ps.length → (jN ps q).length ≤ 90000 := fun ps h10 h q hq => by
            have h := jN_small ps 60 h q hq
            omega
          have HJS1 := Lib.hid (hjs pa (by rw [← HN1.out]; exact hm1) HP1.out)
          have HJS2 := Lib.hid (hjs pb (by rw [← HN2.out]; exact hm2) HP2.out)
          have hsb : ((strOfNums (jF pa)).toList == (strOfNums (jF pb)).toList) = s := by rw [str_beq, joined_same pa pb HP1.out HP2.out HBP1.out HBP2.out, HSA.out]
          have HSB := Lib.hid hsb
          obtain ⟨m3, hm3⟩ : ∃ m, m = (jF pa).length := ⟨_, rfl⟩
          obtain ⟨m4, hm4⟩ : ∃ m, m = (jF pb).length := ⟨_, rfl⟩
          have hm39 : m3 ≤ 90000 := by rw [hm3]; unfold jF; exact HJS1.out _ (Nat.le_refl _)
          have hm49 : m4 ≤ 90000 := by rw [hm4]; unfold jF; exact HJS2.out _ (Nat.le_refl _)
          have HM3 := Lib.hid hm3
          have HM4 := Lib.hid hm4
          obtain ⟨E, hE⟩ : ∃ E, E = hmF l0 (jF pa) := ⟨_, rfl⟩
          obtain ⟨F, hF⟩ : ∃ F, F = hmF l0 (jF pb) := ⟨_, rfl⟩
          have hEL : E.length = 32 := by rw [hE]; exact hmF_length _ _
          have hFL : F.length = 32 := by rw [hF]; exact hmF_length _ _
          have heqE := fun w => eql_arrs (P := Try.prog) 27 5 32 .u8 E E Try.underlying27 Try.underlying5 (by kernel_rfl) hEL hEL w
          have heqF := fun w => eql_arrs (P := Try.prog) 27 5 32 .u8 F F Try.underlying27 Try.underlying5 (by kernel_rfl) hFL hFL w
          simp only [decide_true] at heqE heqF
          have HEQ1 := Lib.hid heqE
          have HEQ2 := Lib.hid heqF
          have HE := Lib.hid hE
          have HF := Lib.hid hF
          have hX := joined_any A1 c1 pa wo (by rw [← HN1.out]; exact Kd.C_below HR1.out HBo.out) (by rw [← HN1.out]; exact HL.out.2.1) (by rw [← HN1.out]; omega) HJS1.out
          rw [← HN1.out] at hX
          have HX := Lib.hid hX
          clear hjs hsb hm3 hm4 hE hF hEL hFL heqE heqF hX hQ
          go_wp2_with fail
          refine HX.out.mono ?_
          rintro e w1 ⟨v1, rfl, hO1, hB1⟩
          obtain ⟨A3, c3, e3, hl3, hr3⟩ := Kd.R_reads hO1
          rw [← HM3.out] at e3 hl3 hr3
          subst e3
          have HB1 := Lib.hid (below_next HBo.out hB1)
          have hX := joined_any A2 c2 pb w1 (by rw [← HN2.out]; exact Kd.C_below HR2.out HB1.out) (by rw [← HN2.out]; exact HL.out.2.2) (by rw [← HN2.out]; omega) HJS2.out
          rw [← HN2.out] at hX
          have HX2 := Lib.hid hX
          have HO1 := Lib.hid hO1
          have HR3 := Lib.hid hr3
          clear hX HX hO1 hB1 hr3
          go_wp2_with fail
          refine HX2.out.mono ?_
          rintro e w2 ⟨v2, rfl, hO2, hB2⟩
          obtain ⟨A4, c4, e4, hl4, hr4⟩ := Kd.R_reads hO2
          rw [← HM4.out] at e4 hl4 hr4
          subst e4
          have HB2 := Lib.hid (below_next HB1.out hB2)
          have HR32 := Lib.hid (Kd.C_below HR3.out hB2)
          have HR42 := Lib.hid hr4
          have hst1 := own_string (P := Try.prog) (dst := 9) Try.underlying22 Try.underlying5 Try.underlying9 (Kd.own_of_R (Kd.R_below HO1.out hB2))
          have hst2 := own_string (P := Try.prog) (dst := 9) Try.underlying22 Try.underlying5 Try.underlying9 (Kd.own_of_R (hO2))
          have hX := join_any A0 c0 l0 A1 c1 pa w2 (by rw [← HN.out]; exact Kd.C_below HR0.out HB2.out) (by rw [← HN.out]; exact HL.out.1) (by rw [← HN.out]; omega) (by rw [← HN1.out]; exact Kd.C_below HR1.out HB2.out) (by rw [← HN1.out]; exact HL.out.2.1) (by rw [← HN1.out]; omega) HJS1.out
          rw [← HN.out, ← HN1.out, ← HE.out] at hX
          have HX3 := Lib.hid hX
          clear hX HX2 hO2 hB2 hr4 HO1 HR3
          have hsb := HSB.out
          cases s
          all_goals
            go_wp2_with fail
            refine HX3.out.mono ?_
            rintro e w3 ⟨rfl, hB3⟩
            have HB3 := Lib.hid (below_next HB2.out hB3)
            have HR33 := Lib.hid (Kd.C_below HR32.out hB3)
            have HR43 := Lib.hid (Kd.C_below HR42.out hB3)
            have hX := hsum_any A0 c0 l0 A3 c3 (jF pa) w3 (by rw [← HN.out]; exact Kd.C_below HR0.out HB3.out) (by rw [← HN.out]; exact HL.out.1) (by rw [← HN.out]; omega) (by rw [← HM3.out]; exact HR33.out) (by rw [← HM3.out]; exact hl3) (by rw [← HM3.out]; omega)
            rw [← HN.out, ← HM3.out, ← HE.out] at hX
            have HX4 := Lib.hid hX
            clear hX hB3
            go_wp2_with fail
            refine HX4.out.mono ?_
            rintro e w4 ⟨rfl, hB4⟩
            have HB4 := Lib.hid (below_next HB3.out hB4)
            have HR44 := Lib.hid (Kd.C_below HR43.out hB4)
            have hX := join_any A0 c0 l0 A2 c2 pb w4 (by rw [← HN.out]; exact Kd.C_below HR0.out HB4.out) (by rw [← HN.out]; exact HL.out.1) (by rw [← HN.out]; omega) (by rw [← HN2.out]; exact Kd.C_below HR2.out HB4.out) (by rw [← HN2.out]; exact HL.out.2.2) (by rw [← HN2.out]; omega) HJS2.out
            rw [← HN.out, ← HN2.out, ← HF.out] at hX
            have HX5 := Lib.hid hX
            clear hX hB4
            have hgt : Try.prog.eqGuardType Try.prog.depth 27 = false := by kernel_rfl
            have heq1 := HEQ1.out
            go_wp2_with fail
            refine HX5.out.mono ?_
            rintro e w5 ⟨rfl, hB5⟩
            have HB5 := Lib.hid (below_next HB4.out hB5)
            have HR45 := Lib.hid (Kd.C_below HR44.out hB5)
            have hX := hsum_any A0 c0 l0 A4 c4 (jF pb) w5 (by rw [← HN.out]; exact Kd.C_below HR0.out HB5.out) (by rw [← HN.out]; exact HL.out.1) (by rw [← HN.out]; omega) (by rw [← HM4.out]; exact HR45.out) (by rw [← HM4.out]; exact hl4) (by rw [← HM4.out]; omega)
            rw [← HN.out, ← HM4.out, ← HF.out] at hX
            have HX6 := Lib.hid hX
            clear hX hB5
            go_wp2_with fail
            refine HX6.out.mono ?_
            rintro e w6 ⟨rfl, hB6⟩
            have HB6 := Lib.hid (below_next HB5.out hB6)
            clear hB6
            have heq2 := HEQ2.out
            go_wp2_with fail
            refine (hknows_any w6).mono ?_
            rintro e w7 ⟨rfl, hB7⟩
            have HB7 := Lib.hid (below_next HB6.out hB7)
            clear hB7
            go_wp2_with fail
            go_ret
            exact ⟨rfl, HB7.out⟩
set_option maxHeartbeats 1000000 in
theorem hparts_big (A0 : Option Addr) (n c0 : Nat) (A1 : Option Addr) (n1 c1 : Nat) (A2 : Option Addr) (n2 c2 : Nat) (w : World) (h : 100 < n ∨ 10 < n1 ∨ 10 < n2) :
    Calls Try.prog 5 #[.slice A0 n c0, .slice A1 n1 c1, .slice A2 n2 c2] w (TellsT w) := by
  by_cases h0 : 100 < n
  rotate_left
  by_cases h1 : 10 < n1
  rotate_left
  have h2 : 10 < n2 := by omega
  all_goals
    go_enter Try.func5, Try.ntmps5
    go_wp2_with fail
    refine (hknows_any w).mono ?_
    rintro e w1 ⟨rfl, hB⟩
    have HB := Lib.hid hB
    clear hB
    go_wp2_with fail
    go_ret
    exact ⟨rfl, HB.out⟩
theorem hmacParts_walk (a0 : Option Addr) (len0 cap0 : Nat) (z0 : List Int) (a1 : Option Addr) (len1 cap1 : Nat) (z1 : List (List Int)) (a2 : Option Addr) (len2 cap2 : Nat) (z2 : List (List Int)) (w : World)
    (w0 : (a0 = none ∧ len0 = 0 ∧ cap0 = 0 ∧ z0 = []) ∨ ∃ x, a0 = some x ∧ len0 ≤ cap0 ∧ cap0 ≤ maxLen ∧ z0.length = cap0 ∧ (∀ i, i < z0.length → w.cell? (x.add i) = some (.int .u8 (z0.getD i 0))) ∧ ∀ n ∈ z0, (Lit.int .u8 n).wf = true)
    (y0 : len0 * 1 ≤ 140737488351232)
    (pl1 : z1.length = len1) (pc1 : len1 ≤ cap1) (w1 : Kd.C (Kd.slice 5 (Kd.int .u8)) w a1 len1 z1) (pb1 : ∀ p ∈ z1, Bytes p)
    (pl2 : z2.length = len2) (pc2 : len2 ≤ cap2) (w2 : Kd.C (Kd.slice 5 (Kd.int .u8)) w a2 len2 z2) (pb2 : ∀ p ∈ z2, Bytes p) :
    Calls Try.prog 5 #[.slice a0 len0 cap0, .slice a1 len1 cap1, .slice a2 len2 cap2] w fun e w' => e = .returned (.bool true) ∧ Below w.heap.size w w' := by
  obtain ⟨l, hlen, hr, hc, hb⟩ := reads_of_row w0
  clear w0
  subst hlen pl1 pl2
  by_cases hbig : 100 < l.length ∨ 10 < z1.length ∨ 10 < z2.length
  · exact hparts_big a0 l.length cap0 a1 z1.length cap1 a2 z2.length cap2 w hbig
  · exact hparts_few a0 cap0 l a1 cap1 z1 a2 cap2 z2 w hr hc (by omega) w1 pc1 (by omega) pb1 w2 pc2 (by omega) pb2
end Go.Proofs.Ytljmjeaocojnmaa.HHa
