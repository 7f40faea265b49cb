/- Layer 2: the joined parts, plain; the walk of HmacSums. -/
import Derived.Test.YtljmjeaocojnmaaHHg
import Derived.Test.YtljmjeaocojnmaaHj1
set_option linter.unusedVariables false
set_option linter.unusedSimpArgs false
namespace Go.Proofs.Ytljmjeaocojnmaa.HHa
open Go.RowKit Go.Proofs.YtljmjeaocojnmaaW.PrintWords Go.Proofs.YtljmjeaocojnmaaW.PrintLast Go.Proofs.YtljmjeaocojnmaaW.PrintMore Go.Proofs.Ytljmjeaocojnmaa.Kit Go.Proofs.Ytljmjeaocojnmaa.HSa
attribute [local go_sem ↓] Go.wp_at_zero Go.wp_at_succ
theorem kF_eq (key b : List Int) : kF (padK key) b = hmF key b := by unfold kF hmF inF padX mapX; rfl
theorem jN_small (ps : List (List Int)) (c : Nat) (h : ∀ j, j < ps.length → (ps.getD j []).length ≤ c) : ∀ k, k ≤ ps.length → (jN ps k).length ≤ (c + 4) * k
  | 0, _ => by simp [jN]
  | k + 1, hk => by
    have h1 := jN_small ps c h k (by omega)
    have h2 := h k (by omega)
    simp only [jN, List.length_append, len4, List.length_cons, List.length_nil]
    rw [Nat.mul_add]
    omega
theorem len4_bytes (n : Nat) : Bytes (len4 n) := by
  intro x hx
  simp only [len4, List.mem_cons, List.not_mem_nil, or_false] at hx
  omega
theorem jN_bytes (ps : List (List Int)) (h : ∀ p ∈ ps, Bytes p) : ∀ k, Bytes (jN ps k)
  | 0 => by intro x hx; simp [jN] at hx
  | k + 1 => by
    intro x hx
    simp only [jN, List.mem_append] at hx
    rcases hx with (hx | hx) | hx
    · exact jN_bytes ps h k x hx
    · exact len4_bytes _ x hx
    · by_cases hk : k < ps.length
      · refine h _ ?_ x hx
        rw [List.getD_eq_getElem?_getD, List.getElem?_eq_getElem hk]
        exact List.getElem_mem hk
      · rw [List.getD_eq_getElem?_getD, List.getElem?_eq_none (by omega)] at hx
        simp at hx
theorem padK_bytes (key : List Int) (h : Bytes key) : Bytes (padK key) := by
  intro x hx
  unfold padK fillK at hx
  rcases List.mem_append.1 hx with hx | hx
  · split at hx
    · exact sumF_bytes _ x hx
    · exact h x hx
  · have := List.eq_of_mem_replicate hx
    omega
theorem joined_steps (ps : List (List Int)) (hm : ps.length ≤ 100000) (hs : ∀ k, k ≤ ps.length → (jN ps k).length ≤ 90000) : ∀ n j, j + n = ps.length → Hj.padlockref02_Joined.l0 (n + 1) ps (jN ps j) j = some (jN ps ps.length)
  | 0, j, h => by
    rw [Hj.padlockref02_Joined.l0, if_neg (by omega), show j = ps.length from by omega]
  | n + 1, j, h => by
    have h1 := hs j (by omega)
    have h2 := hs (j + 1) (by omega)
    have hp : Hj.rd_L1 ps (j : Int) = ps.getD j [] := by unfold Hj.rd_L1; rw [Int.toNat_natCast]
    have hl : (jN ps (j + 1)).length = (jN ps j).length + 4 + (ps.getD j []).length := by simp [jN, len4]; omega
    have hw : ∀ a : Int, 0 ≤ a → a < 1000000000 → wrap64 a = a := fun a h0 h1 => by unfold wrap64; omega
    rw [Hj.padlockref02_Joined.l0, if_pos (by omega), if_pos (by omega)]
    simp only [Option.bind_some, hp]
    rw [if_pos (by simp only [List.length_append, List.length_cons, List.length_nil]; omega)]
    rw [hw _ (by omega) (by omega), hw _ (by omega) (by omega), hw _ (by omega) (by omega), hw _ (by omega) (by omega)]
    rw [if_pos (by simp only [List.length_append, List.length_cons, List.length_nil]; omega)]
    have ih := joined_steps ps hm hs n (j + 1) (by omega)
    rw [jN, len4] at ih
    exact ih
theorem joined_tells (ps : List (List Int)) (hm : ps.length ≤ 100000) (hs : ∀ k, k ≤ ps.length → (jN ps k).length ≤ 90000) : Hj.padlockref02_Joined.f (ps.length + 1) ps = some (jF ps) := by
  have h := joined_steps ps hm hs ps.length 0 (by omega)
  rw [jN] at h
  exact h
/-- what a call of Joined gives -/
theorem joined_any (A0 : Option Addr) (c0 : Nat) (ps : List (List Int)) (w : World) (hr : Kd.C (Kd.slice 5 (Kd.int .u8)) w A0 ps.length ps) (hc : ps.length ≤ c0) (hm : ps.length ≤ 100000) (hs : ∀ k, k ≤ ps.length → (jN ps k).length ≤ 90000) :
    Calls Try.prog 20 #[.slice A0 ps.length c0] w (OutB w (jF ps)) := Hj.padlockref02_Joined.calls (ps.length + 1) A0 c0 ps (jF ps) w hr hc (joined_tells ps hm hs)
theorem tag_reads {T : TypeId} {w : World} {g : Nat} {xs : List Int} (h : Arr .u8 T w g xs) (n : Nat) (hn : xs.length = n) (h1 : n ≤ 1000000) : Kd.C (Kd.int .u8) w (some ⟨g, 0, none⟩) n xs := by
  refine Kd.C_of_reads (d := (0 : Int)) (h1 := fun _ => rfl) ⟨hn, by omega, fun _ => ⟨_, rfl, fun j hj => ?_⟩⟩
  rw [add_plain]
  have := h.cellN j (by omega)
  simpa using this
attribute [local irreducible] sumF padX inF hmF jN jF iv consts allF comeN padK fillK kF
set_option maxHeartbeats 4000000 in
set_option maxRecDepth 100000 in
theorem hsums_few (A0 : Option Addr) (c0 : Nat) (l0 : List Int) (A1 : Option Addr) (c1 : Nat) (l1 : List Int) (A2 : Option Addr) (c2 : Nat) (ps : List (List Int)) (w : World) (hr0 : Kd.C (Kd.int .u8) w A0 l0.length l0) (hc0 : l0.length ≤ c0) (hb0 : Bytes l0) (hl0 : l0.length ≤ 200)
    (hr1 : Kd.C (Kd.int .u8) w A1 l1.length l1) (hc1 : l1.length ≤ c1) (hb1 : Bytes l1) (hl1 : l1.length ≤ 200) (hr2 : Kd.C (Kd.slice 5 (Kd.int .u8)) w A2 ps.length ps) (hc2 : ps.length ≤ c2) (hl2 : ps.length ≤ 10) (hbp : ∀ p ∈ ps, Bytes p) :
    Calls Try.prog 4 #[.slice A0 l0.length c0, .slice A1 l1.length c1, .slice A2 ps.length c2] w (TellsT w) := by
  have HR0 := Lib.hid hr0
  have HR1 := Lib.hid hr1
  have HR2 := Lib.hid hr2
  have HBy0 := Lib.hid hb0
  have HBy1 := Lib.hid hb1
  have HBP := Lib.hid hbp
  have HNEW := Lib.hid (new_any A0 c0 l0 w hr0 hc0 (by omega) hb0)
  obtain ⟨n, hn⟩ : ∃ n, n = l0.length := ⟨_, rfl⟩
  obtain ⟨n1, hn1⟩ : ∃ n, n = l1.length := ⟨_, rfl⟩
  obtain ⟨n2, hn2⟩ : ∃ n, n = ps.length := ⟨_, rfl⟩
  have HN := Lib.hid hn
  have HN1 := Lib.hid hn1
  have HN2 := Lib.hid hn2
  have HL : Hid (n ≤ c0 ∧ n1 ≤ c1 ∧ n2 ≤ c2) := Lib.hid ⟨by omega, by omega, by omega⟩
  have hm : n ≤ 200 := by omega
  have hm1 : n1 ≤ 200 := by omega
  have hm2 : n2 ≤ 10 := by omega
  rw [← hn] at HR0 HNEW
  rw [← hn1] at HR1
  rw [← hn2] at HR2
  rw [← hn, ← hn1, ← hn2]
  clear hr0 hc0 hb0 hl0 hr1 hc1 hb1 hl1 hr2 hc2 hl2 hbp hn hn1 hn2
  have HAT : Hid (∀ k, k < n2 → ∃ b off A' c', A2 = some ⟨b, off, none⟩ ∧ w.cell? ⟨b, off + k, none⟩ = some (.slice A' (ps.getD k []).length c') ∧ (ps.getD k []).length ≤ c' ∧ Kd.C (Kd.int .u8) w A' (ps.getD k []).length (ps.getD k [])) := Lib.hid (fun k hk => by
    obtain ⟨b, off, e, h⟩ := rows_at HR2.out (by omega)
    obtain ⟨A', c', h1, h2, h3⟩ := h k hk
    exact ⟨b, off, A', c', e, h1, h2, h3⟩)
  go_enter Try.func4, Try.ntmps4
  go_wp2_with fail
  go_loopw [7] (fun iv wr => ∃ k : Nat, iv = .int .i64 k ∧ k ≤ n2 ∧ w = wr ∧ Hid (∀ j, j < k → (ps.getD j []).length ≤ 100)) (fun iv _ => n2 - (intOf iv).toNat)
  case atStart =>
    refine ⟨0, rfl, by omega, ?_, Lib.hid (fun j h => absurd h (Nat.not_lt_zero j))⟩
    first | exact True.intro | rfl
  case round =>
    obtain ⟨k, rfl, hk, rfl, hS⟩ := hrel
    by_cases hkn : k < n2
    · obtain ⟨b, off, Ap, cp, eA, hcell, hlp, hCp⟩ := HAT.out k hkn
      obtain ⟨lp, hlp'⟩ : ∃ l, l = (ps.getD k []).length := ⟨_, rfl⟩
      rw [← hlp'] at hcell
      have HLP := Lib.hid hlp'
      subst eA
      clear hlp hCp hlp'
      by_cases h100 : 100 < lp
      · go_wp2_with fail
        refine (hknows_any w).mono ?_
        rintro e w1 ⟨rfl, hB⟩
        have HB := Lib.hid hB
        clear hB
        go_wp2_with fail
        go_ret
        exact ⟨rfl, HB.out⟩
      · go_wp2_with fail
        go_roundw
        case rel =>
          refine ⟨k + 1, by go_num, by omega, by first | exact True.intro | rfl, Lib.hid (fun j hj => ?_)⟩
          by_cases h : j < k
          · exact hS.out j h
          · rw [show j = k from by omega, ← HLP.out]
            omega
        case measure => simp [intOf]; omega
    · have hk' : n2 = k := by omega
      subst hk'
      have hall : ∀ j, j < ps.length → (ps.getD j []).length ≤ 100 := by rw [← HN2.out]; exact hS.out
      have hjs : ∀ q, q ≤ ps.length → (jN ps q).length ≤ 90000 := fun q hq => by
        have h := jN_small ps 100 hall q hq
        have h2 := HN2.out
        omega
      have HJS := Lib.hid hjs
      have HJB : Hid (Bytes (jF ps)) := Lib.hid (by unfold jF; exact jN_bytes ps HBP.out _)
      have HKB : Hid (Bytes (padK l0)) := Lib.hid (padK_bytes l0 HBy0.out)
      obtain ⟨m10, hm10⟩ : ∃ m, m = (jF ps).length := ⟨_, rfl⟩
      have hm109 : m10 ≤ 90000 := by rw [hm10]; unfold jF; exact hjs _ (Nat.le_refl _)
      have HM10 := Lib.hid hm10
      obtain ⟨E, hE⟩ : ∃ E, E = hmF l0 l1 := ⟨_, rfl⟩
      obtain ⟨F, hF⟩ : ∃ F, F = hmF l0 (jF ps) := ⟨_, rfl⟩
      have HEL : Hid (E.length = 32) := Lib.hid (by rw [hE]; exact hmF_length _ _)
      have HFL : Hid (F.length = 32) := Lib.hid (by rw [hF]; exact hmF_length _ _)
      have HE := Lib.hid hE
      have HF := Lib.hid hF
      clear hall hjs hm10 hE hF hS
      go_wp2_with fail
      refine HNEW.out.mono ?_
      rintro e w1 ⟨g, AK, cK, AR, cR, AC, cC, rfl, hKA, hB1⟩
      have HKA := Lib.hid hKA
      have HW1 := Lib.hid hB1
      have hX := hsum_any A0 c0 l0 A1 c1 l1 w1 (by rw [← HN.out]; exact Kd.C_below HR0.out hB1) (by rw [← HN.out]; exact HL.out.1) (by rw [← HN.out]; omega) (by rw [← HN1.out]; exact Kd.C_below HR1.out hB1) (by rw [← HN1.out]; exact HL.out.2.1) (by rw [← HN1.out]; omega)
      rw [← HN.out, ← HN1.out, ← HE.out] at hX
      have HX := Lib.hid hX
      clear hKA hB1 hX
      go_wp2_with fail
      refine HX.out.mono ?_
      rintro e w2 ⟨rfl, hB2⟩
      have HW2 := Lib.hid hB2
      clear hB2 HX
      go_wp2_with (first
        | ((with_reducible refine gate_dst (N := 9) rfl ?_); refine alloc_arr rfl 27 rfl .u8 (List.replicate 32 0) (fun w => Try.zeroValue27 w) (by first | (go_simp; done) | (go_simp; rfl)) ?_; intro w3 hA3 hB3)
        | ((with_reducible refine gate_store (t := 27) (p := 9) rfl ?_); refine store_arr rfl 27 _ _ rfl w2.heap.size .u8 E rfl rfl 27 _ hA3 (by rw [HEL.out]; rfl) (by rw [HEL.out]; kernel_rfl) ?_; intro w4 hA4 hw4; have hB4 := below_setRow (below_next HW2.out hB3) w2.heap.size HW2.out.size (nums .u8 E).toArray; rw [← hw4] at hB4; have HA4 := Lib.hid hA4; have HW4 := Lib.hid hB4; clear hw4 hA4 hB4 hA3 hB3)
        | fail)
      have hX := join_any A0 c0 l0 A2 c2 ps w4 (by rw [← HN.out]; exact Kd.C_below HR0.out (below_next HW1.out HW4.out)) (by rw [← HN.out]; exact HL.out.1) (by rw [← HN.out]; omega) (by rw [← HN2.out]; exact Kd.C_below HR2.out (below_next HW1.out HW4.out)) (by rw [← HN2.out]; exact HL.out.2.2) (by rw [← HN2.out]; omega) HJS.out
      rw [← HN.out, ← HN2.out, ← HF.out] at hX
      have HX := Lib.hid hX
      clear hX
      refine HX.out.mono ?_
      rintro e w5 ⟨rfl, hB5⟩
      have HW5 := Lib.hid hB5
      clear hB5 HX
      go_wp2_with (first
        | ((with_reducible refine gate_dst (N := 10) rfl ?_); refine alloc_arr rfl 27 rfl .u8 (List.replicate 32 0) (fun w => Try.zeroValue27 w) (by first | (go_simp; done) | (go_simp; rfl)) ?_; intro w6 hA6 hB6)
        | ((with_reducible refine gate_store (t := 27) (p := 10) rfl ?_); refine store_arr rfl 27 _ _ rfl w5.heap.size .u8 F rfl rfl 27 _ hA6 (by rw [HFL.out]; rfl) (by rw [HFL.out]; kernel_rfl) ?_; intro w7 hA7 hw7; have hB7 := below_setRow (below_next HW5.out hB6) w5.heap.size HW5.out.size (nums .u8 F).toArray; rw [← hw7] at hB7; have HA7 := Lib.hid hA7; have HW7 := Lib.hid hB7; clear hw7 hA7 hB7 hA6 hB6)
        | fail)
      have HA47 := Lib.hid (HA4.out.next HW7.out)
      have HB7 := Lib.hid (below_next HW1.out (below_next HW4.out HW7.out))
      have HK7 := Lib.hid (HKA.out.next (below_next HW4.out HW7.out))
      clear HNEW HKA HA4
      generalize w2.heap.size = g9 at *
      generalize w5.heap.size = g10 at *
      have hs1 := Kd.C_string (P := Try.prog) (dst := 9) (c := 32) Try.underlying22 Try.underlying5 Try.underlying9 (tag_reads HA47.out.drew 32 HEL.out (by decide))
      go_region_with (first
        | (go_at_call 19; refine (show Calls _ _ _ _ (OutB _ F) from by (have h := ksum_any g (padK l0) AK cK AR cR AC cC A10 c10 (jF ps) W2 (HK7.out.drew.next HB10.out) (padK_length l0) HKB.out (by rw [← HM10.out]; exact HR10.out) (by rw [← HM10.out]; exact HL10.out) (by rw [← HM10.out]; omega) HJB.out; rw [kF_eq, ← HM10.out, ← HF.out] at h; exact h)).mono ?_; rintro e W3 ⟨v11, rfl, hO11, hB11⟩; have HB11 := Lib.hid (below_next (w := w7.drew) HB10.out hB11); have hcy3 := own_string (P := Try.prog) (dst := 9) Try.underlying22 Try.underlying5 Try.underlying9 (Kd.own_of_R hO11); have hf4 := Kd.C_string (P := Try.prog) (dst := 9) (c := 32) Try.underlying22 Try.underlying5 Try.underlying9 (tag_reads (HA7.out.drew.next HB11.out) 32 HFL.out (by decide)); clear hO11 hB11)
        | (go_at_call 19; refine (show Calls _ _ _ _ (OutB _ E) from by (have h := ksum_any g (padK l0) AK cK AR cR AC cC A1 c1 l1 w7.drew HK7.out.drew (padK_length l0) HKB.out (by rw [← HN1.out]; exact Kd.C_below HR1.out (below_drew HB7.out)) (by rw [← HN1.out]; exact HL.out.2.1) (by rw [← HN1.out]; omega) HBy1.out; rw [kF_eq, ← HN1.out, ← HE.out] at h; exact h)).mono ?_; rintro e W1 ⟨v9, rfl, hO9, hB9⟩; have HB9 := Lib.hid hB9; have hcy := own_string (P := Try.prog) (dst := 9) Try.underlying22 Try.underlying5 Try.underlying9 (Kd.own_of_R hO9); have hs2 := Kd.C_string (P := Try.prog) (dst := 9) (c := 32) Try.underlying22 Try.underlying5 Try.underlying9 (tag_reads (HA47.out.drew.next hB9) 32 HEL.out (by decide)); have hf2 := Kd.C_string (P := Try.prog) (dst := 9) (c := 32) Try.underlying22 Try.underlying5 Try.underlying9 (tag_reads (HA7.out.drew.next hB9) 32 HFL.out (by decide)); clear hO9 hB9)
        | (go_at_call 20; refine (show Calls _ _ _ _ (OutB _ (jF ps)) from by (have h := joined_any A2 c2 ps W1 (by rw [← HN2.out]; exact Kd.C_below HR2.out (below_next (below_drew HB7.out) HB9.out)) (by rw [← HN2.out]; exact HL.out.2.2) (by rw [← HN2.out]; omega) HJS.out; rw [← HN2.out] at h; exact h)).mono ?_; rintro e W2 ⟨v10, rfl, hO10, hB10⟩; obtain ⟨A10, c10, e10, hl10, hr10⟩ := Kd.R_reads hO10; rw [← HM10.out] at e10 hl10 hr10; subst e10; have HB10 := Lib.hid (below_next (w := w7.drew) HB9.out hB10); have HR10 := Lib.hid hr10; have HL10 := Lib.hid hl10; have hf3 := Kd.C_string (P := Try.prog) (dst := 9) (c := 32) Try.underlying22 Try.underlying5 Try.underlying9 (tag_reads (HA7.out.drew.next HB10.out) 32 HFL.out (by decide)); clear hO10 hB10 hr10 hl10)
        | (go_at_call 15; refine (hknows_any _).mono ?_; rintro e W4 ⟨rfl, hB12⟩; have HB12 := Lib.hid (below_next (below_drew HB7.out) (below_next (w := w7.drew) HB11.out hB12)); clear hB12))
      all_goals (try go_wp2)
      all_goals go_ret
      all_goals exact ⟨rfl, HB12.out⟩
set_option maxHeartbeats 1000000 in
theorem hsums_big (A0 : Option Addr) (n c0 : Nat) (A1 : Option Addr) (n1 c1 : Nat) (A2 : Option Addr) (n2 c2 : Nat) (w : World) (h : 200 < n ∨ 200 < n1 ∨ 10 < n2) :
    Calls Try.prog 4 #[.slice A0 n c0, .slice A1 n1 c1, .slice A2 n2 c2] w (TellsT w) := by
  by_cases h0 : 200 < n
  rotate_left
  by_cases h1 : 200 < n1
  rotate_left
  have h2 : 10 < n2 := by omega
  all_goals
    go_enter Try.func4, Try.ntmps4
    go_wp2_with fail
    refine (hknows_any w).mono ?_
    rintro e w1 ⟨rfl, hB⟩
    have HB := Lib.hid hB
    clear hB
    go_wp2_with fail
    go_ret
    exact ⟨rfl, HB.out⟩
theorem hmacSums_walk (a0 : Option Addr) (len0 cap0 : Nat) (z0 : List Int) (a1 : Option Addr) (len1 cap1 : Nat) (z1 : List Int) (a2 : Option Addr) (len2 cap2 : Nat) (z2 : List (List Int)) (w : World)
    (w0 : (a0 = none ∧ len0 = 0 ∧ cap0 = 0 ∧ z0 = []) ∨ ∃ x, a0 = some x ∧ len0 ≤ cap0 ∧ cap0 ≤ maxLen ∧ z0.length = cap0 ∧ (∀ i, i < z0.length → w.cell? (x.add i) = some (.int .u8 (z0.getD i 0))) ∧ ∀ n ∈ z0, (Lit.int .u8 n).wf = true)
    (y0 : len0 * 1 ≤ 140737488351232)
    (w1 : (a1 = none ∧ len1 = 0 ∧ cap1 = 0 ∧ z1 = []) ∨ ∃ x, a1 = some x ∧ len1 ≤ cap1 ∧ cap1 ≤ maxLen ∧ z1.length = cap1 ∧ (∀ i, i < z1.length → w.cell? (x.add i) = some (.int .u8 (z1.getD i 0))) ∧ ∀ n ∈ z1, (Lit.int .u8 n).wf = true)
    (y1 : len1 * 1 ≤ 140737488351232) (pl2 : z2.length = len2) (pc2 : len2 ≤ cap2) (w2 : Kd.C (Kd.slice 5 (Kd.int .u8)) w a2 len2 z2) (pb2 : ∀ p ∈ z2, Bytes p) :
    Calls Try.prog 4 #[.slice a0 len0 cap0, .slice a1 len1 cap1, .slice a2 len2 cap2] w fun e w' => e = .returned (.bool true) ∧ Below w.heap.size w w' := by
  obtain ⟨l, hlen, hr, hc, hb⟩ := reads_of_row w0
  obtain ⟨l1, hlen1, hr1, hc1, hb1⟩ := reads_of_row w1
  clear w0 w1
  subst hlen hlen1 pl2
  by_cases hbig : 200 < l.length ∨ 200 < l1.length ∨ 10 < z2.length
  · exact hsums_big a0 l.length cap0 a1 l1.length cap1 a2 z2.length cap2 w hbig
  · exact hsums_few a0 cap0 l a1 cap1 l1 a2 cap2 z2 w hr hc hb (by omega) hr1 hc1 hb1 (by omega) w2 pc2 (by omega) pb2
end Go.Proofs.Ytljmjeaocojnmaa.HHa
