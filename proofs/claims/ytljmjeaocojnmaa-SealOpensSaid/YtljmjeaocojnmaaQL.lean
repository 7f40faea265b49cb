/- Texts of this claim, laid together by a program of this session (wip/tools/pack.py); the print's own words among them are those that print.sh OWN=1 lays for the claim, as far as they are named. -/
import Derived.Test.YtljmjeaocojnmaaQJ
import Derived.Test.YtljmjeaocojnmaaQK
section
set_option linter.unusedVariables false
set_option linter.unusedSimpArgs false
namespace Go.Proofs.Ytljmjeaocojnmaa.HEa
open Go.RowKit Go.Proofs.YtljmjeaocojnmaaW.PrintWords Go.Proofs.YtljmjeaocojnmaaW.PrintLast Go.Proofs.YtljmjeaocojnmaaW.PrintMore Go.Proofs.Ytljmjeaocojnmaa.Kit Go.Proofs.Ytljmjeaocojnmaa.HHa Go.Proofs.Ytljmjeaocojnmaa.HSa Go.Proofs.Ytljmjeaocojnmaa.HAa Go.Proofs.Ytljmjeaocojnmaa.HCa Go.Proofs.Ytljmjeaocojnmaa.Cb
attribute [local go_sem ↓] Go.wp_at_zero Go.wp_at_succ
attribute [local irreducible] tagF sealF xN nN encF verN plainF sumF padX inF hmF jN jF padK boxT Wl keyN bigL b4
theorem big8_drop (f c : Int) (hf : 0 ≤ f ∧ f < 4294967296) (hc : 0 ≤ c ∧ c < 18446744073709551616) : bigL c 8 = (nN f c 12).drop 4 := by
  rw [← nN_big f c hf hc, List.drop_left' (bigL_length 4 f)]
set_option maxHeartbeats 4000000 in
set_option maxRecDepth 100000 in
theorem rclose_any (g : Nat) (enc mac : List Int) (Ae : Option Addr) (ce : Nat) (Am : Option Addr) (cm ge gm : Nat) (b c : Int) (hb : -9223372036854775808 ≤ b ∧ b < 9223372036854775808) (hc : 0 ≤ c ∧ c < 18446744073709551616) (A3 : Option Addr) (c3 : Nat) (plain : List Int) (w : World)
    (hK : KeyR w g enc mac Ae ce Am cm ge gm) (h16 : enc.length = 16) (hkb : Bytes enc) (hr : Kd.C (Kd.int .u8) w A3 64 plain) (hc3 : 64 ≤ c3) :
    Calls Try.prog 55 #[.pointer (some ⟨g, 0, none⟩), .int .i64 b, .int .u64 c, .slice A3 64 c3] w (OutB w ((nN (b % 4294967296) c 12).drop 4 ++ xN enc (nN (b % 4294967296) c 12) plain 64)) := by
  have hpl : plain.length = 64 := hr.1
  have hf : 0 ≤ b % 4294967296 ∧ b % 4294967296 < 4294967296 := by omega
  obtain ⟨N, hN⟩ : ∃ N, N = nN (b % 4294967296) c 12 := ⟨_, rfl⟩
  obtain ⟨X, hX⟩ : ∃ X, X = xN enc N plain 64 := ⟨_, rfl⟩
  obtain ⟨q8, hq⟩ : ∃ q, q = N.drop 4 := ⟨_, rfl⟩
  have HNL : Hid (N.length = 12) := Lib.hid (by rw [hN]; exact nN_length _ _ _)
  have hNB : Bytes N := by rw [hN]; exact nN_bytes _ c hf hc
  have HXL : Hid (X.length = 64) := Lib.hid (by rw [hX, xN_length, hpl])
  have HQL : Hid (q8.length = 8) := Lib.hid (by rw [hq, List.length_drop, HNL.out])
  have HBig : Hid (∀ W, Calls Try.prog 68 #[.int .u64 c, .int .i64 8] W (OutB W q8)) := Lib.hid (fun W => by
    have h := big_tells 8 c 61 hc.1 hc.2 (by omega)
    rw [big8_drop _ c hf hc, ← hN, ← hq] at h
    exact padlockref04_Big.calls 70 c 8 q8 W h)
  have HNC : Hid (∀ W, Calls Try.prog 26 #[.int .i64 b, .int .u64 c] W (OutB W N)) := Lib.hid (fun W => by rw [hN]; exact rnonce_any b c W hb hc)
  have HKR : Hid (KeyR w.drew g enc mac Ae ce Am cm ge gm) := Lib.hid hK.drew
  have HBd : Hid (Below w.heap.size w w.drew) := Lib.hid (below_drew (Below.refl _ _))
  have HCO : Hid (∀ (A2 : Option Addr) (c2 : Nat) (W : World), Below w.drew.heap.size w.drew W → Kd.C (Kd.int .u8) W A2 12 N → 12 ≤ c2 → Calls Try.prog 25 #[.pointer (some ⟨ge, 0, none⟩), .slice A2 12 c2, .slice A3 64 c3] W (OutB W X)) := Lib.hid (fun A2 c2 W hbb h h2 => by
    obtain ⟨Aw, cw, Ab, cb, hS⟩ := hK.drew.E
    have h := rcode_any ge enc Aw cw Ab cb A2 c2 N A3 c3 plain W h16 hkb HNL.out hNB (by rw [hpl]; decide) (hS.next hbb) h h2 (by rw [hpl]; exact Kd.C_below (Kd.C_drew hr) hbb) (by rw [hpl]; exact hc3)
    rw [hpl, ← hX] at h
    exact h)
  rw [← hN, ← hX, ← hq]
  clear hN hX hq hNB hf hK h16 hkb hr hc3 hpl hb hc
  go_enter Try.func55, Try.ntmps55
  go_wp2_with fail
  refine s_region (fun u => Below w.drew.heap.size w.drew u) (by kernel_rfl) 13 (by kernel_rfl) (Below.refl _ _) (fun hS => ?_)
  generalize w.drew = wd at *
  refine s_take 0 (_) hS rfl (by kernel_rfl) (by kernel_rfl) (by kernel_rfl) (fun _ _ _ h => h) rfl (fun w' hw' => run_move_at _ rfl w') ?_
  simp only [Act.put, List.setIfInBounds_toArray, List.set_cons_zero, List.set_cons_succ]
  refine s_take 2 (_) hS rfl (by kernel_rfl) (by kernel_rfl) (by kernel_rfl) (fun _ _ _ h => h) rfl (fun w' hw' => run_move_at _ rfl w') ?_
  simp only [Act.put, List.setIfInBounds_toArray, List.set_cons_zero, List.set_cons_succ]
  refine s_take 3 (.pointer (some ⟨g, 0, none⟩)) hS rfl (by kernel_rfl) (by kernel_rfl) (by kernel_rfl) (fun _ _ _ h => h) rfl (fun w' hw' => by (unfold execOp; simp [go_sem, Act.put, Act.eval])) ?_
  simp only [Act.put, List.setIfInBounds_toArray, List.set_cons_zero, List.set_cons_succ]
  refine s_take 4 (.pointer (some ⟨g, 2, none⟩)) hS rfl (by kernel_rfl) (by kernel_rfl) (by kernel_rfl) (fun _ _ _ h => h) rfl (fun w' hw' => by (unfold execOp; simp [go_sem, Act.put, Act.eval])) ?_
  simp only [Act.put, List.setIfInBounds_toArray, List.set_cons_zero, List.set_cons_succ]
  refine s_take 5 (.pointer (some ⟨ge, 0, none⟩)) hS rfl (by kernel_rfl) (by kernel_rfl) (by kernel_rfl) (fun _ _ _ h => h) rfl (fun w' hw' => by (have hc0 := (HKR.out.next hw').cell.2.2.1; unfold execOp; simp [go_sem, Act.put, Act.eval, hc0])) ?_
  simp only [Act.put, List.setIfInBounds_toArray, List.set_cons_zero, List.set_cons_succ]
  refine s_take 6 (_) hS rfl (by kernel_rfl) (by kernel_rfl) (by kernel_rfl) (fun _ _ _ h => h) rfl (fun w' hw' => run_move_at _ rfl w') ?_
  simp only [Act.put, List.setIfInBounds_toArray, List.set_cons_zero, List.set_cons_succ]
  refine s_take 7 (_) hS rfl (by kernel_rfl) (by kernel_rfl) (by kernel_rfl) (fun _ _ _ h => h) rfl (fun w' hw' => run_move_at _ rfl w') ?_
  simp only [Act.put, List.setIfInBounds_toArray, List.set_cons_zero, List.set_cons_succ]
  refine s_take 9 (_) hS rfl (by kernel_rfl) (by kernel_rfl) (by kernel_rfl) (fun _ _ _ h => h) rfl (fun w' hw' => run_move_at _ rfl w') ?_
  simp only [Act.put, List.setIfInBounds_toArray, List.set_cons_zero, List.set_cons_succ]
  refine s_one 1 rfl (by kernel_rfl) ?_
  refine g_call rfl 68 _ _ Try.func68 (by kernel_rfl) rfl _ _ #[.int .u64 c, .int .i64 8] rfl (by simp [Act.put, Act.eval]) (HBig.out _) ?_
  rintro e W1 ⟨v1, rfl, hO1, hB1⟩
  have hb1 := below_next hS hB1
  refine ⟨_, rfl, hb1, ?_⟩
  simp only [Act.put, List.setIfInBounds_toArray, List.set_cons_zero, List.set_cons_succ]
  refine s_one 8 rfl (by kernel_rfl) ?_
  refine g_call rfl 26 _ _ Try.func26 (by kernel_rfl) rfl _ _ #[.int .i64 b, .int .u64 c] rfl (by simp [Act.put, Act.eval]) (HNC.out _) ?_
  rintro e W2 ⟨v2, rfl, hO2, hB2⟩
  have hb2 := below_next hb1 hB2
  obtain ⟨A2, c2, e2, hl2, hr2⟩ := Kd.R_reads hO2
  rw [HNL.out] at e2 hl2 hr2
  subst e2
  refine ⟨_, rfl, hb2, ?_⟩
  simp only [Act.put, List.setIfInBounds_toArray, List.set_cons_zero, List.set_cons_succ]
  refine s_one 10 rfl (by kernel_rfl) ?_
  refine g_call rfl 25 _ _ Try.func25 (by kernel_rfl) rfl _ _ #[.pointer (some ⟨ge, 0, none⟩), .slice A2 12 c2, .slice A3 64 c3] rfl (by simp [Act.put, Act.eval]) (HCO.out _ _ _ hb2 hr2 hl2) ?_
  rintro e W3 ⟨v3, rfl, hO3, hB3⟩
  have hb3 := below_next hb2 hB3
  obtain ⟨A9, c9, e9⟩ := Kd.R_slice hO3
  rw [HXL.out] at e9
  subst e9
  refine ⟨_, rfl, hb3, ?_⟩
  simp only [Act.put, List.setIfInBounds_toArray, List.set_cons_zero, List.set_cons_succ]
  refine s_one 11 rfl (by kernel_rfl) ?_
  intro K' hK
  refine Kd.R_append_rows_step (Kd.int .u8) (w0 := wd) wd.heap.size rfl (.tmp 10) (.tmp 19) 22 5 (.int .u8 0) 1 rfl Try.underlying22 Go.Proofs.Ytljmjeaocojnmaa.Com.info5 rfl (by decide) (by omega) (v1) (q8) (X) A9 64 c9 (fun _ => True) (fun _ => False) rfl rfl (Kd.R_lower (Kd.R_below (Kd.R_below hO1 hB2) hB3) hS.size) (by have h := (Kd.R_reads' hO3).2.2; rw [HXL.out] at h; exact h) (fun _ _ h => h) (fun _ h => h.elim) (fun _ _ => trivial) (hb3) (Below.size (hb3)) (by rw [HQL.out]; omega) ?_
  intro v4 W4 ho4 hb4 hg4 hat4
  refine hK.out _ _ hb4 ?_
  clear hK K'
  simp only [Act.put, List.setIfInBounds_toArray, List.set_cons_zero, List.set_cons_succ]
  have hS := hb4
  refine s_take 12 (_) hS rfl (by kernel_rfl) (by kernel_rfl) (by kernel_rfl) (fun _ _ _ h => h) rfl (fun w' hw' => BigFrame.run_assign _ rfl w') ?_
  simp only [Act.put, List.setIfInBounds_toArray, List.set_cons_zero, List.set_cons_succ]
  refine s_done (by kernel_rfl) ?_
  have HF1 := Lib.hid ho4
  have HF2 := Lib.hid (HBd.out.trans (hb4.mono HBd.out.size))
  have HF3 := Lib.hid HBd.out.size
  clear ho4 hb4 hS
  go_wp2_with fail
  go_ret
  exact ⟨_, rfl, Kd.R_lower HF1.out HF3.out, HF2.out⟩
end Go.Proofs.Ytljmjeaocojnmaa.HEa
end
section
set_option linter.unusedVariables false
set_option linter.unusedSimpArgs false
namespace Go.Proofs.Ytljmjeaocojnmaa.HEa
open Go.RowKit Go.Proofs.YtljmjeaocojnmaaW.PrintWords Go.Proofs.YtljmjeaocojnmaaW.PrintLast Go.Proofs.YtljmjeaocojnmaaW.PrintMore Go.Proofs.Ytljmjeaocojnmaa.Kit Go.Proofs.Ytljmjeaocojnmaa.HHa Go.Proofs.Ytljmjeaocojnmaa.HSa Go.Proofs.Ytljmjeaocojnmaa.HAa Go.Proofs.Ytljmjeaocojnmaa.HCa Go.Proofs.Ytljmjeaocojnmaa.Cb
attribute [local go_sem ↓] Go.wp_at_zero Go.wp_at_succ
theorem jF1_len (p : List Int) : (jF [p]).length = 4 + p.length := by
  show (([] ++ len4 p.length) ++ p).length = 4 + p.length
  rw [List.length_append]
  rfl
theorem tEnc_b : Bytes tEnc := by
  intro x hx
  simp only [tEnc, List.mem_cons, List.not_mem_nil, or_false] at hx
  omega
theorem tMac_b : Bytes tMac := by
  intro x hx
  simp only [tMac, List.mem_cons, List.not_mem_nil, or_false] at hx
  omega
theorem jF1_bytes (p : List Int) (h : Bytes p) : Bytes (jF [p]) := by
  unfold jF
  exact jN_bytes _ (fun x hx => by
    rw [List.mem_singleton] at hx
    subst hx
    exact h) _
theorem hmF_bytes (k b : List Int) : Bytes (hmF k b) := by unfold hmF; exact sumF_bytes _
theorem joined_lit1 (W : World) (T T2 : TypeId) (fr : Nat × Nat) (p : List Int) (m : Nat) (hm : p.length = m) (h1 : m ≤ 1000) :
    Calls Try.prog 20 #[.slice (some ⟨W.heap.size + 1, 0, none⟩) 1 1] ((W.alloc (.cells (nums .u8 p).toArray T fr)).alloc (.cells #[.slice (some ⟨W.heap.size, 0, none⟩) m m] T2)) (OutB ((W.alloc (.cells (nums .u8 p).toArray T fr)).alloc (.cells #[.slice (some ⟨W.heap.size, 0, none⟩) m m] T2)) (jF [p])) := by
  have hs : (W.alloc (.cells (nums .u8 p).toArray T fr)).heap.size = W.heap.size + 1 := by show (W.heap.push _).size = _; rw [Array.size_push]
  have hb2 : Below (W.alloc (.cells (nums .u8 p).toArray T fr)).heap.size (W.alloc (.cells (nums .u8 p).toArray T fr)) ((W.alloc (.cells (nums .u8 p).toArray T fr)).alloc (.cells #[.slice (some ⟨W.heap.size, 0, none⟩) m m] T2)) := below_alloc (Below.refl _ _) _
  exact joined_any (some ⟨W.heap.size + 1, 0, none⟩) 1 [p] _ (rows_lit (g := W.heap.size + 1) (n := 1) rfl (by decide) (fun j hj => by
      obtain rfl : j = 0 := by omega
      refine ⟨some ⟨W.heap.size, 0, none⟩, m, ?_, by show p.length ≤ m; omega, ?_⟩
      · rw [show ([p].getD 0 []).length = m from hm, ← hs, World.cell?_alloc_mark]
        rfl
      · show Kd.C (Kd.int .u8) _ _ p.length p
        rw [hm]
        exact Kd.C_below (lit_C W T fr p m hm h1) hb2)) (by simp) (by simp) (jF1_small p (by omega))
attribute [local irreducible] tagF sealF xN nN encF verN plainF sumF padX inF hmF jN jF padK boxT Wl keyN bigL b4 dEnc dMac
set_option maxHeartbeats 4000000 in
set_option maxRecDepth 100000 in
theorem rderive_any (A0 : Option Addr) (c0 : Nat) (s : List Int) (w : World) (hr : Kd.C (Kd.int .u8) w A0 s.length s) (hc : s.length ≤ c0) (hl : s.length ≤ 1000) (hsb : Bytes s) :
    Calls Try.prog 51 #[.slice A0 s.length c0] w (OfOut w ((dEnc s).take 16) (dMac s)) := by
  have HNW := Lib.hid (new_any A0 c0 s w hr hc (by omega) hsb)
  obtain ⟨E, hE⟩ : ∃ E, E = dEnc s := ⟨_, rfl⟩
  obtain ⟨F, hF⟩ : ∃ F, F = dMac s := ⟨_, rfl⟩
  have HEL : Hid (E.length = 32) := Lib.hid (by rw [hE]; unfold dEnc; exact hmF_length _ _)
  have HFL : Hid (F.length = 32) := Lib.hid (by rw [hF]; unfold dMac; exact hmF_length _ _)
  have HEB : Hid (Bytes E) := Lib.hid (by rw [hE]; unfold dEnc; exact hmF_bytes _ _)
  have HFB : Hid (Bytes F) := Lib.hid (by rw [hF]; unfold dMac; exact hmF_bytes _ _)
  have HSE : Hid (∀ (W : World) (g : Nat) (AK : Option Addr) (cK : Nat) (AR : Option Addr) (cR : Nat) (AC : Option Addr) (cC : Nat) (A : Option Addr) (c : Nat), KeyAt W g (padK s) AK cK AR cR AC cC → Kd.C (Kd.int .u8) W A 7 (jF [tEnc]) → 7 ≤ c → Calls Try.prog 19 #[.pointer (some ⟨g, 0, none⟩), .slice A 7 c] W (OutB W E)) := Lib.hid (fun W g AK cK AR cR AC cC A c hK hC hcc => by
    have hl : (jF [tEnc]).length = 7 := jF1_len tEnc
    have h := ksum_any g (padK s) AK cK AR cR AC cC A c (jF [tEnc]) W hK (padK_length s) (padK_bytes s hsb) (by rw [hl]; exact hC) (by rw [hl]; exact hcc) (by rw [hl]; decide) (jF1_bytes _ tEnc_b)
    rw [kF_eq, hl] at h
    rw [hE]
    unfold dEnc
    exact h)
  have HSF : Hid (∀ (W : World) (g : Nat) (AK : Option Addr) (cK : Nat) (AR : Option Addr) (cR : Nat) (AC : Option Addr) (cC : Nat) (A : Option Addr) (c : Nat), KeyAt W g (padK s) AK cK AR cR AC cC → Kd.C (Kd.int .u8) W A 7 (jF [tMac]) → 7 ≤ c → Calls Try.prog 19 #[.pointer (some ⟨g, 0, none⟩), .slice A 7 c] W (OutB W F)) := Lib.hid (fun W g AK cK AR cR AC cC A c hK hC hcc => by
    have hl : (jF [tMac]).length = 7 := jF1_len tMac
    have h := ksum_any g (padK s) AK cK AR cR AC cC A c (jF [tMac]) W hK (padK_length s) (padK_bytes s hsb) (by rw [hl]; exact hC) (by rw [hl]; exact hcc) (by rw [hl]; decide) (jF1_bytes _ tMac_b)
    rw [kF_eq, hl] at h
    rw [hF]
    unfold dMac
    exact h)
  rw [← hE, ← hF]
  obtain ⟨n, hn⟩ : ∃ n, n = s.length := ⟨_, rfl⟩
  rw [← hn] at HNW ⊢
  clear hr hc hl hsb hE hF hn
  have hbw : ∀ (W w2 : World) (o1 o2 : Obj), Below ((W.alloc o1).alloc o2).heap.size ((W.alloc o1).alloc o2) w2 → Below W.heap.size W w2 := fun W w2 o1 o2 h => (below_alloc (below_alloc (Below.refl _ _) _) _).trans (h.mono (by show W.heap.size ≤ ((W.heap.push _).push _).size; rw [Array.size_push, Array.size_push]; omega))
  have HBW := Lib.hid hbw
  clear hbw
  go_enter Try.func51, Try.ntmps51
  go_wp2_with fail
  refine HNW.out.mono ?_
  rintro e w1 ⟨gs, AK, cK, AR, cR, AC, cC, rfl, hKA, hB1⟩
  have HKA := Lib.hid hKA
  have HB1 := Lib.hid hB1
  have kc1 := fun (C : Array Value) (n c : Nat) => Lib.run_convert_bytes_const (P := Try.prog) w1 22 5 C n c Try.underlying22 Try.underlying5
  clear hKA hB1 HNW
  go_wp2_with fail
  refine (show Calls _ _ _ _ (OutB _ (jF [tEnc])) from joined_lit1 w1 5 22 (3, 4) tEnc 3 rfl (by decide)).mono ?_
  rintro e w2 ⟨v2, rfl, hO2, hB2⟩
  obtain ⟨A2, c2, e2, hl2, hr2⟩ := Kd.R_reads hO2
  rw [show (jF [tEnc]).length = 7 from jF1_len tEnc] at e2 hl2 hr2
  subst e2
  have hb2 := HBW.out _ _ _ _ hB2
  have HB2 := Lib.hid (below_next HB1.out hb2)
  have HK2 := Lib.hid (HKA.out.next hb2)
  have HS2 := Lib.hid (HSE.out w2 gs AK cK AR cR AC cC A2 c2 HK2.out hr2 hl2)
  clear hO2 hB2 hl2 hr2 hb2 kc1
  go_wp2_with fail
  refine HS2.out.mono ?_
  rintro e w3 ⟨v3, rfl, hO3, hB3⟩
  obtain ⟨inner, ho⟩ := Kd.R_own hO3
  obtain ⟨A3, c3, e3, hl3, hr3⟩ := Kd.R_reads hO3
  rw [HEL.out] at e3 hl3 hr3
  subst e3
  obtain ⟨g3, rfl, cells3, hh3⟩ : ∃ g3, A3 = some ⟨g3, 0, none⟩ ∧ ∃ cells, w3.heap[g3]? = some (.cells cells 5 (0, 0)) := by
    rcases ho.2 with ⟨hv, _⟩ | ⟨g, cap, cur, hv, hbg, hh, _⟩
    · injection hv with h1 h2
      omega
    · injection hv with h1 h2
      exact ⟨g, h1, _, hh⟩
  have HR3 := Lib.hid hr3
  have HL3 := Lib.hid hl3
  have HH3 := Lib.hid hh3
  have HB3 := Lib.hid (below_next HB2.out hB3)
  have HK3 := Lib.hid (HK2.out.next hB3)
  have hcc3 : 32 ≤ c3 := hl3
  have kc3 := fun (C : Array Value) (n c : Nat) => Lib.run_convert_bytes_const (P := Try.prog) w3 22 5 C n c Try.underlying22 Try.underlying5
  clear hO3 ho hr3 hl3 hh3 hB3 HS2
  go_wp2_with fail
  refine (show Calls _ _ _ _ (OutB _ (jF [tMac])) from joined_lit1 w3 5 22 (3, 4) tMac 3 rfl (by decide)).mono ?_
  rintro e w4 ⟨v4, rfl, hO4, hB4⟩
  obtain ⟨A4, c4, e4, hl4, hr4⟩ := Kd.R_reads hO4
  rw [show (jF [tMac]).length = 7 from jF1_len tMac] at e4 hl4 hr4
  subst e4
  have hb4 := HBW.out _ _ _ _ hB4
  have HB4 := Lib.hid (below_next HB3.out hb4)
  have HS4 := Lib.hid (HSF.out w4 gs AK cK AR cR AC cC A4 c4 (HK3.out.next hb4) hr4 hl4)
  have HR4 := Lib.hid (Kd.C_below HR3.out hb4)
  have HH4 := Lib.hid ((hb4.block g3 (Array.getElem?_eq_some_iff.1 HH3.out).1).trans HH3.out)
  clear hO4 hB4 hl4 hr4 hb4 kc3
  go_wp2_with fail
  refine HS4.out.mono ?_
  rintro e w5 ⟨v5, rfl, hO5, hB5⟩
  obtain ⟨A5, c5, e5, hl5, hr5⟩ := Kd.R_reads hO5
  rw [HFL.out] at e5 hl5 hr5
  subst e5
  have HO := Lib.hid (rof_any g3 0 c3 5 (E.take 16) F A5 c5 w5 (by rw [List.length_take, HEL.out]; rfl) (fun y hy => HEB.out y (List.mem_of_mem_take hy)) (by have h := Kd.C_take (m := 16) (by rw [HEL.out]; exact Kd.C_below HR4.out hB5) (by rw [HEL.out]; decide); rw [List.length_take, HEL.out] at h; exact h) (by omega) ⟨_, (hB5.block g3 (Array.getElem?_eq_some_iff.1 HH4.out).1).trans HH4.out⟩ hr5 HFB.out hl5)
  have HB5 := Lib.hid (below_next HB4.out hB5)
  clear hO5 hr5 hl5 hB5 HS4
  go_wp2_with fail
  refine HO.out.mono ?_
  rintro e w6 ⟨g, Ae, ce, Am, cm, ge, gm, rfl, hKR, hB6⟩
  have HKR := Lib.hid hKR
  have HB6 := Lib.hid (below_next HB5.out hB6)
  clear hKR hB6 HO
  go_wp2_with fail
  go_ret
  exact ⟨g, Ae, ce, Am, cm, ge, gm, rfl, HKR.out, HB6.out⟩
end Go.Proofs.Ytljmjeaocojnmaa.HEa
end
section
set_option linter.unusedVariables false
set_option linter.unusedSimpArgs false
namespace Go.Proofs.Ytljmjeaocojnmaa.HEa
open Go.RowKit Go.Proofs.YtljmjeaocojnmaaW.PrintWords Go.Proofs.YtljmjeaocojnmaaW.PrintLast Go.Proofs.YtljmjeaocojnmaaW.PrintMore Go.Proofs.Ytljmjeaocojnmaa.Kit Go.Proofs.Ytljmjeaocojnmaa.HHa Go.Proofs.Ytljmjeaocojnmaa.HSa Go.Proofs.Ytljmjeaocojnmaa.HAa Go.Proofs.Ytljmjeaocojnmaa.HCa Go.Proofs.Ytljmjeaocojnmaa.Cb
attribute [local go_sem ↓] Go.wp_at_zero Go.wp_at_succ
def tSec : List Int := [115, 101, 99, 114, 101, 116]
def z64 : List Int := List.replicate 64 0
def kLit : List Int := [97, 103, 168, 155, 68, 28, 241, 246, 124, 237, 11, 177, 135, 47, 181, 238, 202, 125, 249, 1, 230, 154, 34, 23, 225, 162, 139, 21, 56, 99, 194, 216, 195, 95, 243, 251, 216, 183, 149, 4, 129, 209, 59, 24, 228, 116, 158, 131]
def sLit : List Int := [0, 0, 0, 0, 0, 0, 0, 5, 103, 174, 69, 51, 66, 119, 218, 117, 114, 47, 124, 246, 247, 51, 155, 140, 93, 14, 67, 75, 97, 172, 179, 141, 205, 126, 163, 63, 229, 85, 181, 12, 189, 205, 128, 15, 233, 202, 137, 161, 113, 67, 115, 7, 116, 137, 212, 220, 12, 228, 190, 62, 138, 145, 240, 168, 116, 193, 164, 126, 202, 172, 209, 99]
set_option maxRecDepth 100000 in
theorem kk_lit : kkF tSec = kLit := by decide +kernel
set_option maxRecDepth 100000 in
theorem ks_lit0 : ksF (kLit.take 16) (nN 3 5 12) 0 = [103, 174, 69, 51, 66, 119, 218, 117, 114, 47, 124, 246, 247, 51, 155, 140] := by decide +kernel
set_option maxRecDepth 100000 in
theorem ks_lit1 : ksF (kLit.take 16) (nN 3 5 12) 1 = [93, 14, 67, 75, 97, 172, 179, 141, 205, 126, 163, 63, 229, 85, 181, 12] := by decide +kernel
set_option maxRecDepth 100000 in
theorem ks_lit2 : ksF (kLit.take 16) (nN 3 5 12) 2 = [189, 205, 128, 15, 233, 202, 137, 161, 113, 67, 115, 7, 116, 137, 212, 220] := by decide +kernel
set_option maxRecDepth 100000 in
theorem ks_lit3 : ksF (kLit.take 16) (nN 3 5 12) 3 = [12, 228, 190, 62, 138, 145, 240, 168, 116, 193, 164, 126, 202, 172, 209, 99] := by decide +kernel
def kl : Nat → List Int
  | 0 => [103, 174, 69, 51, 66, 119, 218, 117, 114, 47, 124, 246, 247, 51, 155, 140]
  | 1 => [93, 14, 67, 75, 97, 172, 179, 141, 205, 126, 163, 63, 229, 85, 181, 12]
  | 2 => [189, 205, 128, 15, 233, 202, 137, 161, 113, 67, 115, 7, 116, 137, 212, 220]
  | _ => [12, 228, 190, 62, 138, 145, 240, 168, 116, 193, 164, 126, 202, 172, 209, 99]
def xNf (kf : Nat → List Int) (l : List Int) : List Int := (List.range l.length).map fun i => Go.bits .xor .u8 (l.getD i 0) ((kf (i / 16)).getD (i % 16) 0)
theorem xN_f (key nonce l : List Int) : xN key nonce l l.length = xNf (ksF key nonce) l := by
  rw [← cN_all]
  rfl
theorem xNf_congr (kf kg : Nat → List Int) (l : List Int) (h : ∀ i, i < l.length → kf (i / 16) = kg (i / 16)) : xNf kf l = xNf kg l := by
  unfold xNf
  refine List.map_congr_left (fun i hi => ?_)
  rw [h i (List.mem_range.1 hi)]
set_option maxRecDepth 100000 in
theorem xs_lit : xNf kl z64 = sLit.drop 8 := by decide +kernel
theorem n_lit : (nN 3 5 12).drop 4 = sLit.take 8 := by decide +kernel
theorem seal_lit : sealF kLit 3 5 z64 = sLit := by
  unfold sealF
  rw [xN_f, n_lit, xNf_congr (ksF (kLit.take 16) (nN 3 5 12)) kl z64 (fun i hi => by
    have hi' : i < 64 := hi
    rcases (show i / 16 = 0 ∨ i / 16 = 1 ∨ i / 16 = 2 ∨ i / 16 = 3 by omega) with h | h | h | h
    · rw [h]; exact ks_lit0
    · rw [h]; exact ks_lit1
    · rw [h]; exact ks_lit2
    · rw [h]; exact ks_lit3), xs_lit, List.take_append_drop]
set_option maxRecDepth 100000 in
theorem tag_lit : (tagF kLit 3 sLit).getD 0 0 = 202 := by decide +kernel
theorem ver_lit : verN sLit 8 = 5 := by decide +kernel
end Go.Proofs.Ytljmjeaocojnmaa.HEa
end
section
set_option linter.unusedVariables false
set_option linter.unusedSimpArgs false
namespace Go.Proofs.Ytljmjeaocojnmaa.HEa
open Go.RowKit Go.Proofs.YtljmjeaocojnmaaW.PrintWords Go.Proofs.YtljmjeaocojnmaaW.PrintLast Go.Proofs.YtljmjeaocojnmaaW.PrintMore Go.Proofs.Ytljmjeaocojnmaa.Kit Go.Proofs.Ytljmjeaocojnmaa.HHa Go.Proofs.Ytljmjeaocojnmaa.HSa Go.Proofs.Ytljmjeaocojnmaa.HAa Go.Proofs.Ytljmjeaocojnmaa.HCa Go.Proofs.Ytljmjeaocojnmaa.Cb
attribute [local go_sem ↓] Go.wp_at_zero Go.wp_at_succ
def Tells7 (w : World) (e : Ending) (w' : World) : Prop := e = .returned (.bool true) ∧ Below w.heap.size w w'
theorem bytes_dec (l : List Int) (h : l.all (fun x => decide (0 ≤ x) && decide (x < 256)) = true) : Bytes l := by
  intro x hx
  have := List.all_eq_true.1 h x hx
  simpa using this
theorem kLit_b : Bytes kLit := bytes_dec _ (by decide +kernel)
theorem sLit_b : Bytes sLit := bytes_dec _ (by decide +kernel)
theorem plainF_length (kk : List Int) (f : Int) (raw : List Int) (h : raw.length = 72) : (plainF kk f raw).length = 64 := by
  unfold plainF
  rw [xN_length, List.length_drop, h]
attribute [local irreducible] tagF sealF xN nN encF verN plainF sumF padX inF hmF jN jF padK boxT Wl keyN bigL b4 dEnc dMac kLit sLit kkF
set_option maxHeartbeats 4000000 in
set_option maxRecDepth 100000 in
theorem knows7_any (w : World) : Calls Try.prog 49 #[] w (Tells7 w) := by
  obtain ⟨K, hK⟩ : ∃ K, K = kLit := ⟨_, rfl⟩
  obtain ⟨S, hSS⟩ : ∃ S, S = sLit := ⟨_, rfl⟩
  obtain ⟨TG, hTG⟩ : ∃ T, T = tagF K 3 S := ⟨_, rfl⟩
  have HKL : Hid (K.length = 48) := Lib.hid (by rw [hK]; decide +kernel)
  have HSL : Hid (S.length = 72) := Lib.hid (by rw [hSS]; decide +kernel)
  have HTL : Hid (TG.length = 32) := Lib.hid (by rw [hTG]; exact tagF_length _ _ _)
  have HKB : Hid (Bytes K) := Lib.hid (by rw [hK]; exact kLit_b)
  have HSB : Hid (Bytes S) := Lib.hid (by rw [hSS]; exact sLit_b)
  have HKK : Hid (kkF tSec = K) := Lib.hid (by rw [hK]; exact kk_lit)
  have HS7 : Hid (S.getD 7 0 = 5) := Lib.hid (by rw [hSS]; decide +kernel)
  have HVR : Hid (verN S 8 = 5) := Lib.hid (by rw [hSS]; exact ver_lit)
  have HTN : Hid (tagF K 3 S ≠ List.replicate 32 0) := Lib.hid (by
    intro h
    have h2 := tag_lit
    rw [← hK, ← hSS, h] at h2
    revert h2
    decide)
  have HTT : Hid (tagF K 3 S = TG) := Lib.hid hTG.symm
  have HCL : Hid (∀ (W : World) (A : Option Addr), Kd.C (Kd.int .u8) W A 64 z64 → Calls Try.prog 53 #[.agg (nums .u8 K).toArray, .int .i64 3, .int .u64 5, .slice A 64 64] W (CloseOut K 3 S TG 0 W)) := Lib.hid (fun W A h => by
    have h := close_any K 3 3 5 (by decide) (by decide) A 64 z64 W HKL.out HKB.out h (by decide)
    have e : sealF K 3 5 z64 = S := by rw [hK, hSS]; exact seal_lit
    rw [e, ← hTG] at h
    exact h)
  have HDR : Hid (∀ (W : World) (A : Option Addr), Kd.C (Kd.int .u8) W A 6 tSec → Calls Try.prog 50 #[.slice A 6 6] W (GivesArr .u8 K W)) := Lib.hid (fun W A h => by
    have h := derive_any A 6 tSec W h (by decide) (by decide)
    rw [HKK.out] at h
    exact h)
  clear hK hSS hTG
  go_enter Try.func49, Try.ntmps49
  have kc1 := fun (C : Array Value) (n c : Nat) => Lib.run_convert_bytes_const (P := Try.prog) w 22 5 C n c Try.underlying22 Try.underlying5
  go_wp2_with fail
  refine (show Calls _ _ _ _ (GivesArr .u8 K _) from HDR.out (w.alloc (.cells (nums .u8 tSec).toArray 5 (6, 7))) _ (lit_C w 5 (6, 7) tSec 6 rfl (by decide))).mono ?_
  rintro e w2 ⟨rfl, hB2⟩
  have HB2 := Lib.hid (below_next (below_alloc (Below.refl w.heap.size w) (.cells (nums .u8 tSec).toArray 5 (6, 7))) hB2)
  clear hB2 kc1 HDR
  go_wp2_with (first
    | ((with_reducible refine gate_dst (N := 1) rfl ?_); refine alloc_arr rfl 87 rfl .u8 (List.replicate 48 0) (fun w => Try.zeroValue87 w) (by first | (go_simp; done) | (go_simp; rfl)) ?_; intro w3 hA3 hB3)
    | ((with_reducible refine gate_store (t := 87) (p := 1) rfl ?_); refine store_arr rfl 87 _ _ rfl w2.heap.size .u8 K rfl rfl 87 _ hA3 (by rw [HKL.out]; rfl) (by rw [HKL.out]; kernel_rfl) ?_; intro w4 hA4 hw4; have hB4 := below_setRow (below_next HB2.out hB3) w2.heap.size HB2.out.size (nums .u8 K).toArray; rw [← hw4] at hB4; have HA4 := Lib.hid hA4; have HB4 := Lib.hid hB4; clear hw4 hA4 hB4 hA3 hB3)
    | fail)
  generalize w2.heap.size = g1 at *
  have HAK := Lib.hid HA4.out.drew
  have HBd := Lib.hid (below_drew HB4.out)
  clear HA4 HB4 HB2
  simp only [Act.put, List.setIfInBounds_toArray, List.set_cons_zero, List.set_cons_succ]
  refine s_region (fun u => Below w4.drew.heap.size w4.drew u) (by kernel_rfl) 11 (by kernel_rfl) (Below.refl _ _) (fun hS => ?_)
  generalize w4.drew = w4d at *
  refine s_take 0 (.agg (nums .u8 K).toArray) hS rfl (by kernel_rfl) (by kernel_rfl) (by kernel_rfl) (fun _ _ _ h => h) rfl (fun w' hw' => run_load_row 87 _ rfl g1 rfl .u8 _ _ K (HAK.out.next hw') Try.underlying87 rfl (by rw [HKL.out]; kernel_rfl)) ?_
  simp only [Act.put, List.setIfInBounds_toArray, List.set_cons_zero, List.set_cons_succ]
  refine s_two 1 7 rfl rfl (by kernel_rfl) ?_ ?_
  rotate_left
  focus
    refine g_event (.pointer (some ⟨w4d.heap.size, 0, none⟩)) (w4d.alloc (.cells (nums .u8 (List.replicate 32 0)).toArray 27)) rfl (by (unfold execOp; simp [go_sem, Act.put, Act.eval]; first | done | rfl)) (below_alloc (hS) _) (fun hS_ => ?_)
    simp only [Act.put, List.setIfInBounds_toArray, List.set_cons_zero, List.set_cons_succ]
    obtain ⟨Wt, hWt⟩ : ∃ W, W = w4d.alloc (.cells (nums .u8 (List.replicate 32 0)).toArray 27) := ⟨_, rfl⟩
    have HT := Arr.new w4d .u8 27 (List.replicate 32 0)
    have hbWt := below_alloc (Below.refl w4d.heap.size w4d) (.cells (nums .u8 (List.replicate 32 0)).toArray 27)
    rw [← hWt] at HT hbWt hS_ ⊢
    have hSWt := hS_
    refine s_one 1 rfl (by kernel_rfl) ?_
    refine g_event (.slice (some ⟨Wt.heap.size, 0, none⟩) 64 64) (Wt.alloc (.cells (nums .u8 z64).toArray 5)) rfl (by (have hk : (Instr.makeSlice 22 (.int .i64 64) (.int .i64 64)).run Try.prog (Wt) = .ok (.slice (some ⟨Wt.heap.size, 0, none⟩) 64 64) (Wt.alloc (.cells (nums .u8 z64).toArray 5)) := by kernel_rfl); unfold execOp; simp only [Act.eval]; simp [go_sem, Act.put, Act.eval, hk]) (below_alloc (hSWt) _) (fun hS_ => ?_)
    simp only [Act.put, List.setIfInBounds_toArray, List.set_cons_zero, List.set_cons_succ]
    obtain ⟨Wz, hWz⟩ : ∃ W, W = Wt.alloc (.cells (nums .u8 z64).toArray 5) := ⟨_, rfl⟩
    have HZ := Arr.new Wt .u8 5 z64
    have hbWz := below_alloc (Below.refl Wt.heap.size Wt) (.cells (nums .u8 z64).toArray 5)
    rw [← hWz] at HZ hbWz hS_ ⊢
    have hSWz := hS_
    refine s_one 2 rfl (by kernel_rfl) ?_
    refine g_call rfl 53 _ _ Try.func53 (by kernel_rfl) rfl _ _ #[.agg (nums .u8 K).toArray, .int .i64 3, .int .u64 5, .slice (some ⟨Wt.heap.size, 0, none⟩) 64 64] rfl (by simp [Act.put, Act.eval]) (HCL.out Wz (some ⟨Wt.heap.size, 0, none⟩) (HZ.reads 64 rfl (by decide))) ?_
    rintro e W2 ⟨A2, c2, rfl, hl2, hR2, hB2⟩
    rw [HSL.out] at hl2 hR2 ⊢
    have hb2 := below_next (hSWz) hB2
    refine ⟨_, rfl, hb2, ?_⟩
    simp only [Act.put, List.setIfInBounds_toArray, List.set_cons_zero, List.set_cons_succ]
    obtain ⟨Wx, hWx⟩ : ∃ Wx, Wx = W2 := ⟨_, rfl⟩
    have HSx : Below w4d.heap.size w4d Wx := by rw [hWx]; exact hb2
    have HAx : Arr .u8 27 Wx (w4d.heap.size) (List.replicate 32 0) := by rw [hWx]; exact (HT.next hbWz).next hB2
    have HRx : Kd.R (Kd.int .u8) 5 Wx w4d.heap.size (fun _ => True) (.slice A2 72 c2) S := by rw [hWx]; exact Kd.R_lower hR2 hSWz.size
    have hne : ∀ k, some (w4d.heap.size) = some k → some k ≠ (Value.slice A2 72 c2).ownBlock := fun k hk he => by injection hk with hk; have h1 := ((Kd.R_bound hR2).1 k he.symm).2.1; have h2 := (HT.next hbWz).lt; omega
    have hgx : w4d.heap.size ≤ w4d.heap.size := Nat.le_refl _
    have hS := HSx
    rw [← hWx]
    refine s_take 3 (_) hS rfl (by kernel_rfl) (by kernel_rfl) (by kernel_rfl) (fun _ _ _ h => h) rfl (fun w' hw' => run_move_at _ rfl w') ?_
    simp only [Act.put, List.setIfInBounds_toArray, List.set_cons_zero, List.set_cons_succ]
    refine s_take 4 (.slice A2 72 c2) hS rfl (by kernel_rfl) (by kernel_rfl) (by kernel_rfl) (fun _ _ _ h => h) rfl (fun w' hw' => by (unfold execOp; simp [go_sem, Act.put, Act.eval])) ?_
    simp only [Act.put, List.setIfInBounds_toArray, List.set_cons_zero, List.set_cons_succ]
    refine s_take 5 (.agg (nums .u8 TG).toArray) hS rfl (by kernel_rfl) (by kernel_rfl) (by kernel_rfl) (fun _ _ _ h => h) rfl (fun w' hw' => by (unfold execOp; simp [go_sem, Act.put, Act.eval])) ?_
    simp only [Act.put, List.setIfInBounds_toArray, List.set_cons_zero, List.set_cons_succ]
    refine s_take 6 (.int .i64 0) hS rfl (by kernel_rfl) (by kernel_rfl) (by kernel_rfl) (fun _ _ _ h => h) rfl (fun w' hw' => by (unfold execOp; simp [go_sem, Act.put, Act.eval])) ?_
    simp only [Act.put, List.setIfInBounds_toArray, List.set_cons_zero, List.set_cons_succ]
    refine s_take 8 (_) hS rfl (by kernel_rfl) (by kernel_rfl) (by kernel_rfl) (fun _ _ _ h => h) rfl (fun w' hw' => BigFrame.run_assign _ rfl w') ?_
    simp only [Act.put, List.setIfInBounds_toArray, List.set_cons_zero, List.set_cons_succ]
    refine s_store_arr 9 rfl (by kernel_rfl) rfl 27 _ _ rfl (w4d.heap.size) .u8 TG rfl rfl 27 (List.replicate 32 0) HAx (by rw [HTL.out]; rfl) (by rw [HTL.out]; kernel_rfl) (below_setRow hS _ hgx _) (fun hA9 => ?_)
    simp only [Act.put, List.setIfInBounds_toArray, List.set_cons_zero, List.set_cons_succ]
    have hR9 := Kd.R_grown2 HRx rfl (grown_row (g := w4d.heap.size) (w := Wx) (W := Wx) ⟨rfl, rfl, rfl, Nat.le_refl _, fun _ _ _ => rfl⟩ (nums .u8 TG).toArray) hne
    have hB9 := below_setRow HSx (w4d.heap.size) hgx (nums .u8 TG).toArray
    obtain ⟨W9, hW9⟩ : ∃ W9, W9 = Wx.setRow (w4d.heap.size) (nums .u8 TG).toArray := ⟨_, rfl⟩
    rw [← hW9] at hA9 hR9 hB9 ⊢
    have hS := hB9
    refine s_take 10 (_) hS rfl (by kernel_rfl) (by kernel_rfl) (by kernel_rfl) (fun _ _ _ h => h) rfl (fun w' hw' => BigFrame.run_assign _ rfl w') ?_
    simp only [Act.put, List.setIfInBounds_toArray, List.set_cons_zero, List.set_cons_succ]
    refine s_done (by kernel_rfl) ?_
    have HA9 := Lib.hid hA9
    have HR9 := Lib.hid (Kd.R_reads' hR9)
    have HB9 := Lib.hid hB9
    obtain ⟨g3, hg3⟩ : ∃ g3, g3 = w4d.heap.size := ⟨_, rfl⟩
    have HG3 := Lib.hid hg3
  rotate_left
  refine g_event (.slice (some ⟨w4d.heap.size, 0, none⟩) 64 64) (w4d.alloc (.cells (nums .u8 z64).toArray 5)) rfl (by (have hk : (Instr.makeSlice 22 (.int .i64 64) (.int .i64 64)).run Try.prog (w4d) = .ok (.slice (some ⟨w4d.heap.size, 0, none⟩) 64 64) (w4d.alloc (.cells (nums .u8 z64).toArray 5)) := by kernel_rfl); unfold execOp; simp only [Act.eval]; simp [go_sem, Act.put, Act.eval, hk]) (below_alloc (hS) _) (fun hS_ => ?_)
  simp only [Act.put, List.setIfInBounds_toArray, List.set_cons_zero, List.set_cons_succ]
  obtain ⟨Wz, hWz⟩ : ∃ W, W = w4d.alloc (.cells (nums .u8 z64).toArray 5) := ⟨_, rfl⟩
  have HZ := Arr.new w4d .u8 5 z64
  have hbWz := below_alloc (Below.refl w4d.heap.size w4d) (.cells (nums .u8 z64).toArray 5)
  rw [← hWz] at HZ hbWz hS_ ⊢
  have hSWz := hS_
  refine s_two 2 7 rfl rfl (by kernel_rfl) ?_ ?_
  rotate_left
  focus
    refine g_event (.pointer (some ⟨Wz.heap.size, 0, none⟩)) (Wz.alloc (.cells (nums .u8 (List.replicate 32 0)).toArray 27)) rfl (by (unfold execOp; simp [go_sem, Act.put, Act.eval]; first | done | rfl)) (below_alloc (hSWz) _) (fun hS_ => ?_)
    simp only [Act.put, List.setIfInBounds_toArray, List.set_cons_zero, List.set_cons_succ]
    obtain ⟨Wt, hWt⟩ : ∃ W, W = Wz.alloc (.cells (nums .u8 (List.replicate 32 0)).toArray 27) := ⟨_, rfl⟩
    have HT := Arr.new Wz .u8 27 (List.replicate 32 0)
    have hbWt := below_alloc (Below.refl Wz.heap.size Wz) (.cells (nums .u8 (List.replicate 32 0)).toArray 27)
    rw [← hWt] at HT hbWt hS_ ⊢
    have hSWt := hS_
    refine s_one 2 rfl (by kernel_rfl) ?_
    refine g_call rfl 53 _ _ Try.func53 (by kernel_rfl) rfl _ _ #[.agg (nums .u8 K).toArray, .int .i64 3, .int .u64 5, .slice (some ⟨w4d.heap.size, 0, none⟩) 64 64] rfl (by simp [Act.put, Act.eval]) (HCL.out Wt (some ⟨w4d.heap.size, 0, none⟩) ((HZ.next hbWt).reads 64 rfl (by decide))) ?_
    rintro e W2 ⟨A2, c2, rfl, hl2, hR2, hB2⟩
    rw [HSL.out] at hl2 hR2 ⊢
    have hb2 := below_next (hSWt) hB2
    refine ⟨_, rfl, hb2, ?_⟩
    simp only [Act.put, List.setIfInBounds_toArray, List.set_cons_zero, List.set_cons_succ]
    obtain ⟨Wx, hWx⟩ : ∃ Wx, Wx = W2 := ⟨_, rfl⟩
    have HSx : Below w4d.heap.size w4d Wx := by rw [hWx]; exact hb2
    have HAx : Arr .u8 27 Wx (Wz.heap.size) (List.replicate 32 0) := by rw [hWx]; exact HT.next hB2
    have HRx : Kd.R (Kd.int .u8) 5 Wx w4d.heap.size (fun _ => True) (.slice A2 72 c2) S := by rw [hWx]; exact Kd.R_lower hR2 hSWt.size
    have hne : ∀ k, some (Wz.heap.size) = some k → some k ≠ (Value.slice A2 72 c2).ownBlock := fun k hk he => by injection hk with hk; have h1 := ((Kd.R_bound hR2).1 k he.symm).2.1; have h2 := HT.lt; omega
    have hgx : w4d.heap.size ≤ Wz.heap.size := hSWz.size
    have hS := HSx
    rw [← hWx]
    refine s_take 3 (_) hS rfl (by kernel_rfl) (by kernel_rfl) (by kernel_rfl) (fun _ _ _ h => h) rfl (fun w' hw' => run_move_at _ rfl w') ?_
    simp only [Act.put, List.setIfInBounds_toArray, List.set_cons_zero, List.set_cons_succ]
    refine s_take 4 (.slice A2 72 c2) hS rfl (by kernel_rfl) (by kernel_rfl) (by kernel_rfl) (fun _ _ _ h => h) rfl (fun w' hw' => by (unfold execOp; simp [go_sem, Act.put, Act.eval])) ?_
    simp only [Act.put, List.setIfInBounds_toArray, List.set_cons_zero, List.set_cons_succ]
    refine s_take 5 (.agg (nums .u8 TG).toArray) hS rfl (by kernel_rfl) (by kernel_rfl) (by kernel_rfl) (fun _ _ _ h => h) rfl (fun w' hw' => by (unfold execOp; simp [go_sem, Act.put, Act.eval])) ?_
    simp only [Act.put, List.setIfInBounds_toArray, List.set_cons_zero, List.set_cons_succ]
    refine s_take 6 (.int .i64 0) hS rfl (by kernel_rfl) (by kernel_rfl) (by kernel_rfl) (fun _ _ _ h => h) rfl (fun w' hw' => by (unfold execOp; simp [go_sem, Act.put, Act.eval])) ?_
    simp only [Act.put, List.setIfInBounds_toArray, List.set_cons_zero, List.set_cons_succ]
    refine s_take 8 (_) hS rfl (by kernel_rfl) (by kernel_rfl) (by kernel_rfl) (fun _ _ _ h => h) rfl (fun w' hw' => BigFrame.run_assign _ rfl w') ?_
    simp only [Act.put, List.setIfInBounds_toArray, List.set_cons_zero, List.set_cons_succ]
    refine s_store_arr 9 rfl (by kernel_rfl) rfl 27 _ _ rfl (Wz.heap.size) .u8 TG rfl rfl 27 (List.replicate 32 0) HAx (by rw [HTL.out]; rfl) (by rw [HTL.out]; kernel_rfl) (below_setRow hS _ hgx _) (fun hA9 => ?_)
    simp only [Act.put, List.setIfInBounds_toArray, List.set_cons_zero, List.set_cons_succ]
    have hR9 := Kd.R_grown2 HRx rfl (grown_row (g := Wz.heap.size) (w := Wx) (W := Wx) ⟨rfl, rfl, rfl, Nat.le_refl _, fun _ _ _ => rfl⟩ (nums .u8 TG).toArray) hne
    have hB9 := below_setRow HSx (Wz.heap.size) hgx (nums .u8 TG).toArray
    obtain ⟨W9, hW9⟩ : ∃ W9, W9 = Wx.setRow (Wz.heap.size) (nums .u8 TG).toArray := ⟨_, rfl⟩
    rw [← hW9] at hA9 hR9 hB9 ⊢
    have hS := hB9
    refine s_take 10 (_) hS rfl (by kernel_rfl) (by kernel_rfl) (by kernel_rfl) (fun _ _ _ h => h) rfl (fun w' hw' => BigFrame.run_assign _ rfl w') ?_
    simp only [Act.put, List.setIfInBounds_toArray, List.set_cons_zero, List.set_cons_succ]
    refine s_done (by kernel_rfl) ?_
    have HA9 := Lib.hid hA9
    have HR9 := Lib.hid (Kd.R_reads' hR9)
    have HB9 := Lib.hid hB9
    obtain ⟨g3, hg3⟩ : ∃ g3, g3 = Wz.heap.size := ⟨_, rfl⟩
    have HG3 := Lib.hid hg3
  rotate_left 2
  focus
    refine g_call rfl 53 _ _ Try.func53 (by kernel_rfl) rfl _ _ #[.agg (nums .u8 K).toArray, .int .i64 3, .int .u64 5, .slice (some ⟨w4d.heap.size, 0, none⟩) 64 64] rfl (by simp [Act.put, Act.eval]) (HCL.out Wz (some ⟨w4d.heap.size, 0, none⟩) (HZ.reads 64 rfl (by decide))) ?_
    rintro e W2 ⟨A2, c2, rfl, hl2, hR2, hB2⟩
    rw [HSL.out] at hl2 hR2 ⊢
    have hb2 := below_next (hSWz) hB2
    refine ⟨_, rfl, hb2, ?_⟩
    simp only [Act.put, List.setIfInBounds_toArray, List.set_cons_zero, List.set_cons_succ]
    have hS := hb2
    refine s_take 3 (_) hS rfl (by kernel_rfl) (by kernel_rfl) (by kernel_rfl) (fun _ _ _ h => h) rfl (fun w' hw' => run_move_at _ rfl w') ?_
    simp only [Act.put, List.setIfInBounds_toArray, List.set_cons_zero, List.set_cons_succ]
    refine s_take 4 (.slice A2 72 c2) hS rfl (by kernel_rfl) (by kernel_rfl) (by kernel_rfl) (fun _ _ _ h => h) rfl (fun w' hw' => by (unfold execOp; simp [go_sem, Act.put, Act.eval])) ?_
    simp only [Act.put, List.setIfInBounds_toArray, List.set_cons_zero, List.set_cons_succ]
    refine s_take 5 (.agg (nums .u8 TG).toArray) hS rfl (by kernel_rfl) (by kernel_rfl) (by kernel_rfl) (fun _ _ _ h => h) rfl (fun w' hw' => by (unfold execOp; simp [go_sem, Act.put, Act.eval])) ?_
    simp only [Act.put, List.setIfInBounds_toArray, List.set_cons_zero, List.set_cons_succ]
    refine s_take 6 (.int .i64 0) hS rfl (by kernel_rfl) (by kernel_rfl) (by kernel_rfl) (fun _ _ _ h => h) rfl (fun w' hw' => by (unfold execOp; simp [go_sem, Act.put, Act.eval])) ?_
    simp only [Act.put, List.setIfInBounds_toArray, List.set_cons_zero, List.set_cons_succ]
    refine s_one 7 rfl (by kernel_rfl) ?_
    refine g_event (.pointer (some ⟨W2.heap.size, 0, none⟩)) (W2.alloc (.cells (nums .u8 (List.replicate 32 0)).toArray 27)) rfl (by (unfold execOp; simp [go_sem, Act.put, Act.eval]; first | done | rfl)) (below_alloc (hb2) _) (fun hS_ => ?_)
    simp only [Act.put, List.setIfInBounds_toArray, List.set_cons_zero, List.set_cons_succ]
    obtain ⟨Wt, hWt⟩ : ∃ W, W = W2.alloc (.cells (nums .u8 (List.replicate 32 0)).toArray 27) := ⟨_, rfl⟩
    have HT := Arr.new W2 .u8 27 (List.replicate 32 0)
    have hbWt := below_alloc (Below.refl W2.heap.size W2) (.cells (nums .u8 (List.replicate 32 0)).toArray 27)
    rw [← hWt] at HT hbWt hS_ ⊢
    have hSWt := hS_
    obtain ⟨Wx, hWx⟩ : ∃ Wx, Wx = Wt := ⟨_, rfl⟩
    have HSx : Below w4d.heap.size w4d Wx := by rw [hWx]; exact hSWt
    have HAx : Arr .u8 27 Wx (W2.heap.size) (List.replicate 32 0) := by rw [hWx]; exact HT
    have HRx : Kd.R (Kd.int .u8) 5 Wx w4d.heap.size (fun _ => True) (.slice A2 72 c2) S := by rw [hWx]; exact Kd.R_lower (Kd.R_below hR2 hbWt) hSWz.size
    have hne : ∀ k, some (W2.heap.size) = some k → some k ≠ (Value.slice A2 72 c2).ownBlock := fun k hk he => by injection hk with hk; have h1 := ((Kd.R_bound hR2).1 k he.symm).2.2.1; omega
    have hgx : w4d.heap.size ≤ W2.heap.size := hb2.size
    have hS := HSx
    rw [← hWx]
    refine s_take 8 (_) hS rfl (by kernel_rfl) (by kernel_rfl) (by kernel_rfl) (fun _ _ _ h => h) rfl (fun w' hw' => BigFrame.run_assign _ rfl w') ?_
    simp only [Act.put, List.setIfInBounds_toArray, List.set_cons_zero, List.set_cons_succ]
    refine s_store_arr 9 rfl (by kernel_rfl) rfl 27 _ _ rfl (W2.heap.size) .u8 TG rfl rfl 27 (List.replicate 32 0) HAx (by rw [HTL.out]; rfl) (by rw [HTL.out]; kernel_rfl) (below_setRow hS _ hgx _) (fun hA9 => ?_)
    simp only [Act.put, List.setIfInBounds_toArray, List.set_cons_zero, List.set_cons_succ]
    have hR9 := Kd.R_grown2 HRx rfl (grown_row (g := W2.heap.size) (w := Wx) (W := Wx) ⟨rfl, rfl, rfl, Nat.le_refl _, fun _ _ _ => rfl⟩ (nums .u8 TG).toArray) hne
    have hB9 := below_setRow HSx (W2.heap.size) hgx (nums .u8 TG).toArray
    obtain ⟨W9, hW9⟩ : ∃ W9, W9 = Wx.setRow (W2.heap.size) (nums .u8 TG).toArray := ⟨_, rfl⟩
    rw [← hW9] at hA9 hR9 hB9 ⊢
    have hS := hB9
    refine s_take 10 (_) hS rfl (by kernel_rfl) (by kernel_rfl) (by kernel_rfl) (fun _ _ _ h => h) rfl (fun w' hw' => BigFrame.run_assign _ rfl w') ?_
    simp only [Act.put, List.setIfInBounds_toArray, List.set_cons_zero, List.set_cons_succ]
    refine s_done (by kernel_rfl) ?_
    have HA9 := Lib.hid hA9
    have HR9 := Lib.hid (Kd.R_reads' hR9)
    have HB9 := Lib.hid hB9
    obtain ⟨g3, hg3⟩ : ∃ g3, g3 = W2.heap.size := ⟨_, rfl⟩
    have HG3 := Lib.hid hg3
  all_goals
    clear hWz hWt hWx hW9 hne HAx HRx hS hgx hA9 hR9 hB9 HSx HT HZ hR2 hB2
    have HK9 := Lib.hid (HAK.out.next HB9.out)
    have HW9 := Lib.hid (below_next HBd.out HB9.out)
    have HC9 : Hid (Kd.C (Kd.int .u8) W9 A2 72 S) := Lib.hid (by have h := HR9.out.2.2; rw [HSL.out] at h; exact h)
    have HL9 : Hid (72 ≤ c2) := Lib.hid HR9.out.2.1
    have HOP := Lib.hid (open_any K TG 3 3 (by decide) A2 c2 S W9 HKL.out HKB.out HTL.out HC9.out HSB.out HL9.out)
    rw [← HG3.out] at HA9 ⊢
    clear hg3 HAK HBd HB9 HR9
    go_wp2_with (first
      | ((with_reducible refine gate_dst (N := 25) rfl ?_); refine load_row rfl 87 _ rfl g1 rfl .u8 _ _ K HK9.out Try.underlying87 rfl (by rw [HKL.out]; kernel_rfl) ?_)
      | ((with_reducible refine gate_dst (N := 27) rfl ?_); refine load_row rfl 27 _ rfl g3 rfl .u8 _ _ TG HA9.out Try.underlying27 rfl (by rw [HTL.out]; kernel_rfl) ?_)
      | fail)
    refine HOP.out.mono ?_
    rintro e w10 ⟨hp, -⟩
    obtain ⟨Ax, cx, rfl, hlx, hCx, hB10⟩ := hp HTT.out
    rw [plainF_length K 3 S HSL.out, HVR.out]
    have HK10 := Lib.hid (HK9.out.next hB10)
    have HC10 := Lib.hid (Kd.C_below HC9.out hB10)
    have HW10 := Lib.hid (below_next HW9.out hB10)
    have HOZ := Lib.hid (open_any K (List.replicate 32 0) 3 3 (by decide) A2 c2 S w10 HKL.out HKB.out (by decide) HC10.out HSB.out HL9.out)
    clear hp hlx hCx hB10 HOP HK9 HC9 HW9 HA9
    go_wp2_with (first
      | ((with_reducible refine gate_dst (N := 33) rfl ?_); refine load_row rfl 87 _ rfl g1 rfl .u8 _ _ K HK10.out Try.underlying87 rfl (by rw [HKL.out]; kernel_rfl) ?_)
      | fail)
    refine HOZ.out.mono ?_
    rintro e w11 ⟨-, hp⟩
    obtain ⟨Ay, cy, rfl, hly, hCy, hB11⟩ := hp HTN.out
    have HK11 := Lib.hid (HK10.out.next hB11)
    have HC11 := Lib.hid (Kd.C_below HC10.out hB11)
    have HW11 := Lib.hid (below_next HW10.out hB11)
    have HCB := Lib.hid (close_bad K 3 5 3 none 0 0 w11 HKL.out (by decide))
    clear hp hly hCy hB11 HOZ HK10 HC10 HW10
    go_wp2_with (first
      | ((with_reducible refine gate_dst (N := 41) rfl ?_); refine load_row rfl 87 _ rfl g1 rfl .u8 _ _ K HK11.out Try.underlying87 rfl (by rw [HKL.out]; kernel_rfl) ?_)
      | fail)
    refine HCB.out.mono ?_
    rintro e w12 ⟨Aq, cq, rfl, hlq, hRq, hB12⟩
    have HC12 := Lib.hid (Kd.C_below HC11.out hB12)
    have HW12 := Lib.hid (below_next HW11.out hB12)
    clear hlq hRq hB12 HCB HK11 HC11 HW11
    go_wp2_with (first
      | ((with_reducible refine gate_dst (N := 12) rfl ?_); refine alloc_arr rfl 27 rfl .u8 (List.replicate 32 0) (fun w => Try.zeroValue27 w) (by first | (go_simp; done) | (go_simp; rfl)) ?_; intro w13 hA13 hB13)
      | ((with_reducible refine gate_store (t := 27) (p := 12) rfl ?_); refine store_arr rfl 27 _ _ rfl w12.heap.size .u8 (List.replicate 32 0) rfl (by rfl) 27 _ hA13 rfl (by kernel_rfl) ?_; intro w14 hA14 hw14; have hB14 := below_setRow hB13 w12.heap.size (Nat.le_refl _) (nums .u8 (List.replicate 32 0)).toArray; rw [← hw14] at hB14; have HC14 := Lib.hid (Kd.C_below HC12.out hB14); have HW14 := Lib.hid (below_next HW12.out hB14); obtain ⟨bs, os, es, hcs⟩ := C_cells HC14.out (by decide); have h7 := hcs 7 (by decide); rw [HS7.out] at h7; subst es; clear hw14 hA14 hB14 hA13 hB13 hcs)
      | fail)
    go_ret
    exact ⟨rfl, HW14.out⟩
end Go.Proofs.Ytljmjeaocojnmaa.HEa
end
section
set_option linter.unusedVariables false
set_option linter.unusedSimpArgs false
namespace Go.Proofs.Ytljmjeaocojnmaa.HEa
open Go.RowKit Go.Proofs.YtljmjeaocojnmaaW.PrintWords Go.Proofs.YtljmjeaocojnmaaW.PrintLast Go.Proofs.YtljmjeaocojnmaaW.PrintMore Go.Proofs.Ytljmjeaocojnmaa.Kit Go.Proofs.Ytljmjeaocojnmaa.HHa Go.Proofs.Ytljmjeaocojnmaa.HSa Go.Proofs.Ytljmjeaocojnmaa.HAa Go.Proofs.Ytljmjeaocojnmaa.HCa Go.Proofs.Ytljmjeaocojnmaa.Cb
attribute [local go_sem ↓] Go.wp_at_zero Go.wp_at_succ
theorem dEnc_length (s : List Int) : (dEnc s).length = 32 := by unfold dEnc; exact hmF_length _ _
theorem dMac_length (s : List Int) : (dMac s).length = 32 := by unfold dMac; exact hmF_length _ _
theorem dEnc_bytes (s : List Int) : Bytes (dEnc s) := by unfold dEnc; exact hmF_bytes _ _
theorem dMac_bytes (s : List Int) : Bytes (dMac s) := by unfold dMac; exact hmF_bytes _ _
theorem tagF_eq (kk mac raw : List Int) (f : Int) (h : kk.drop 16 = mac) : tagF kk f raw = hmF mac (jF [tLeaf, b4 f, raw]) := by unfold tagF; rw [h]
theorem sealF_eq (kk ek plain : List Int) (f c : Int) (h : kk.take 16 = ek) (hp : plain.length = 64) : sealF kk f c plain = (nN f c 12).drop 4 ++ xN ek (nN f c 12) plain 64 := by unfold sealF; rw [h, hp]
theorem sealF_bytes (kk plain : List Int) (f c : Int) (hk : Bytes kk) (hp : Bytes plain) (hf : 0 ≤ f ∧ f < 4294967296) (hc : 0 ≤ c ∧ c < 18446744073709551616) : Bytes (sealF kk f c plain) := by
  unfold sealF
  intro y hy
  rcases List.mem_append.1 hy with h | h
  · exact nN_bytes f c hf hc y (List.mem_of_mem_drop h)
  · exact xN_bytes _ _ _ (nN_length _ _ _) (fun z hz => hk z (List.mem_of_mem_take hz)) (nN_bytes f c hf hc) hp y h
attribute [local irreducible] tagF sealF xN nN encF verN plainF sumF padX inF hmF jN jF padK boxT Wl keyN bigL b4 dEnc dMac kkF
set_option maxHeartbeats 4000000 in
set_option maxRecDepth 100000 in
theorem scloses_few (A0 : Option Addr) (c0 : Nat) (s : List Int) (b c : Int) (A3 : Option Addr) (n3 c3 : Nat) (plain : List Int) (A4 : Option Addr) (n4 c4 : Nat) (raw : List Int) (w : World)
    (hr0 : Kd.C (Kd.int .u8) w A0 s.length s) (hc0 : s.length ≤ c0) (hl0 : s.length ≤ 200) (hb0 : Bytes s) (hb : -9223372036854775808 ≤ b ∧ b < 9223372036854775808) (hc : 0 ≤ c ∧ c < 18446744073709551616)
    (hr3 : Kd.C (Kd.int .u8) w A3 n3 plain) (hc3 : n3 ≤ c3) (hl3 : n3 ≤ 200) (hb3 : Bytes plain) (hr4 : Kd.C (Kd.int .u8) w A4 n4 raw) (hc4 : n4 ≤ c4) (hl4 : n4 ≤ 200) (hb4 : Bytes raw) :
    Calls Try.prog 13 #[.slice A0 s.length c0, .int .i64 b, .int .u64 c, .slice A3 n3 c3, .slice A4 n4 c4] w (Tells7 w) := by
  obtain ⟨f, hf⟩ : ∃ f, f = b % 4294967296 := ⟨_, rfl⟩
  have hfb : 0 ≤ f ∧ f < 4294967296 := by omega
  obtain ⟨ek, hek⟩ : ∃ e, e = (dEnc s).take 16 := ⟨_, rfl⟩
  obtain ⟨mk, hmk⟩ : ∃ m, m = dMac s := ⟨_, rfl⟩
  obtain ⟨K, hK⟩ : ∃ K, K = kkF s := ⟨_, rfl⟩
  have hek16 : ek.length = 16 := by rw [hek, List.length_take, dEnc_length]; rfl
  have hmk32 : mk.length = 32 := by rw [hmk]; exact dMac_length s
  have hKK : K = ek ++ mk := by rw [hK, hek, hmk]; unfold kkF; rfl
  have hKt : K.take 16 = ek := by rw [hKK, List.take_left' hek16]
  have hKd : K.drop 16 = mk := by rw [hKK, List.drop_left' hek16]
  have HKL : Hid (K.length = 48) := Lib.hid (by rw [hKK, List.length_append, hek16, hmk32])
  have hekb : Bytes ek := by rw [hek]; intro y hy; exact dEnc_bytes s y (List.mem_of_mem_take hy)
  have hmkb : Bytes mk := by rw [hmk]; exact dMac_bytes s
  have hKb : Bytes K := by rw [hKK]; intro y hy; rcases List.mem_append.1 hy with h | h; exact hekb y h; exact hmkb y h
  obtain ⟨T1, hT1⟩ : ∃ T, T = tagF K f raw := ⟨_, rfl⟩
  have HTL : Hid (T1.length = 32) := Lib.hid (by rw [hT1]; exact tagF_length _ _ _)
  have HDR : Hid (Calls Try.prog 50 #[.slice A0 s.length c0] w (GivesArr .u8 K w)) := Lib.hid (by rw [hK]; exact derive_any A0 c0 s w hr0 hc0 (by omega))
  have HRD : Hid (∀ W, Below w.heap.size w W → Calls Try.prog 51 #[.slice A0 s.length c0] W (OfOut W ek mk)) := Lib.hid (fun W h => by rw [hek, hmk]; exact rderive_any A0 c0 s W (Kd.C_below hr0 h) hc0 (by omega) hb0)
  have HTG : Hid (∀ W, Kd.C (Kd.int .u8) W A4 n4 raw → Calls Try.prog 52 #[.agg (nums .u8 K).toArray, .int .i64 b, .slice A4 n4 c4] W (GivesArr .u8 T1 W)) := Lib.hid (fun W h => by rw [hT1]; exact tag_any K b f hf.symm A4 n4 c4 raw W HKL.out h hc4 (by omega))
  have HRT : Hid (∀ (g : Nat) (Ae : Option Addr) (ce : Nat) (Am : Option Addr) (cm ge gm : Nat) (W : World), KeyR W g ek mk Ae ce Am cm ge gm → Kd.C (Kd.int .u8) W A4 n4 raw → Calls Try.prog 54 #[.pointer (some ⟨g, 0, none⟩), .int .i64 b, .slice A4 n4 c4] W (fun e w' => e = .returned (.string (strOfNums T1)) ∧ Below W.heap.size W w')) := Lib.hid (fun g Ae ce Am cm ge gm W hKW h => by
    have h := rtag_any g ek mk Ae ce Am cm ge gm b f hf.symm A4 n4 c4 raw W hKW hmkb h hc4 (by omega) hb4
    rw [hT1, tagF_eq K mk raw f hKd]
    exact h)
  have HEK : Hid (∀ (W : World) (g : Nat), Arr .u8 87 W g K → Kd.C (Kd.int .u8) W (some ⟨g, 0, none⟩) 16 ek) := Lib.hid (fun W g h => by
    have h := h.reads_part 0 16 (by rw [HKL.out]; decide) (by decide)
    rw [List.drop_zero, hKt] at h
    exact h)
  have HMK : Hid (∀ (W : World) (g : Nat), Arr .u8 87 W g K → Kd.C (Kd.int .u8) W (some ⟨g, 16, none⟩) 32 mk) := Lib.hid (fun W g h => by
    have h := h.reads_part 16 32 (by rw [HKL.out]; decide) (by decide)
    rw [hKd, List.take_of_length_le (by rw [hmk32]; decide)] at h
    exact h)
  have HCB : Hid (n3 ≠ 64 → ∀ W, Calls Try.prog 53 #[.agg (nums .u8 K).toArray, .int .i64 b, .int .u64 c, .slice A3 n3 c3] W (CloseOut K f [] (List.replicate 32 0) 1 W)) := Lib.hid (fun h W => close_bad K b c f A3 n3 c3 W HKL.out h)
  obtain ⟨OUT, hO⟩ : ∃ O, O = sealF K f c plain := ⟨_, rfl⟩
  obtain ⟨T2, hT2⟩ : ∃ T, T = tagF K f OUT := ⟨_, rfl⟩
  have HUL : Hid (T2.length = 32) := Lib.hid (by rw [hT2]; exact tagF_length _ _ _)
  have hpl : plain.length = n3 := hr3.1
  have HOL : Hid (n3 = 64 → OUT.length = 72) := Lib.hid (fun h => by rw [hO, sealF_length, hpl, h])
  have hOB : Bytes OUT := by rw [hO]; exact sealF_bytes K plain f c hKb hb3 hfb hc
  have HCC : Hid (n3 = 64 → ∀ W, Kd.C (Kd.int .u8) W A3 n3 plain → Calls Try.prog 53 #[.agg (nums .u8 K).toArray, .int .i64 b, .int .u64 c, .slice A3 n3 c3] W (CloseOut K f OUT T2 0 W)) := Lib.hid (fun h W hC => by
    subst h
    rw [hT2, hO]
    exact close_any K b f c hf.symm hc A3 c3 plain W HKL.out hKb hC hc3)
  have HRC : Hid (n3 = 64 → ∀ (g : Nat) (Ae : Option Addr) (ce : Nat) (Am : Option Addr) (cm ge gm : Nat) (W : World), KeyR W g ek mk Ae ce Am cm ge gm → Kd.C (Kd.int .u8) W A3 n3 plain → Calls Try.prog 55 #[.pointer (some ⟨g, 0, none⟩), .int .i64 b, .int .u64 c, .slice A3 n3 c3] W (OutB W OUT)) := Lib.hid (fun h g Ae ce Am cm ge gm W hKW hC => by
    subst h
    have h := rclose_any g ek mk Ae ce Am cm ge gm b c hb hc A3 c3 plain W hKW hek16 hekb hC hc3
    rw [hO, sealF_eq K ek plain f c hKt hpl, hf]
    exact h)
  have HRU : Hid (n3 = 64 → ∀ (g : Nat) (Ae : Option Addr) (ce : Nat) (Am : Option Addr) (cm ge gm : Nat) (W : World) (Ar : Option Addr) (cr : Nat), 72 ≤ cr → KeyR W g ek mk Ae ce Am cm ge gm → Kd.C (Kd.int .u8) W Ar 72 OUT → Calls Try.prog 54 #[.pointer (some ⟨g, 0, none⟩), .int .i64 b, .slice Ar 72 cr] W (fun e w' => e = .returned (.string (strOfNums T2)) ∧ Below W.heap.size W w')) := Lib.hid (fun h3 g Ae ce Am cm ge gm W Ar cr hcr hKW h => by
    have h := rtag_any g ek mk Ae ce Am cm ge gm b f hf.symm Ar 72 cr OUT W hKW hmkb h hcr (by decide) hOB
    rw [hT2, tagF_eq K mk OUT f hKd]
    exact h)
  have HR3 := Lib.hid hr3
  have HR4 := Lib.hid hr4
  have hn0 : (s.length : Int) ≤ 200 := by omega
  obtain ⟨n0, hn0e⟩ : ∃ n, n = s.length := ⟨_, rfl⟩
  rw [← hn0e] at HDR HRD hn0 ⊢
  clear hr0 hc0 hl0 hb0 hb hc hr3 hc3 hb3 hr4 hc4 hb4 hf hfb hek hmk hK hek16 hmk32 hKK hKt hKd hekb hmkb hKb hT1 hO hT2 hpl hOB hn0e
  go_enter Try.func13, Try.ntmps13
  go_wp2_with fail
  refine HDR.out.mono ?_
  rintro e w1 ⟨rfl, hB1⟩
  have HB1 := Lib.hid hB1
  clear hB1 HDR
  go_wp2_with (first
    | ((with_reducible refine gate_dst (N := 11) rfl ?_); refine alloc_arr rfl 87 rfl .u8 (List.replicate 48 0) (fun w => Try.zeroValue87 w) (by first | (go_simp; done) | (go_simp; rfl)) ?_; intro w3 hA3 hB3)
    | ((with_reducible refine gate_store (t := 87) (p := 11) rfl ?_); refine store_arr rfl 87 _ _ rfl w1.heap.size .u8 K rfl rfl 87 _ hA3 (by rw [HKL.out]; rfl) (by rw [HKL.out]; kernel_rfl) ?_; intro w4 hA4 hw4; have hB4 := below_setRow (below_next HB1.out hB3) w1.heap.size HB1.out.size (nums .u8 K).toArray; rw [← hw4] at hB4; have HA4 := Lib.hid hA4; have HB4 := Lib.hid hB4; clear hw4 hA4 hB4 hA3 hB3)
    | fail)
  generalize w1.heap.size = g11 at *
  refine (HRD.out w4 HB4.out).mono ?_
  rintro e w5 ⟨gr, Ae, ce, Am, cm, ge, gm, rfl, hKR, hB5⟩
  have HKR := Lib.hid hKR
  have HA5 := Lib.hid (HA4.out.next hB5)
  have HB5 := Lib.hid (below_next HB4.out hB5)
  clear hKR hB5 HA4 HB4 HB1 HRD
  go_wp2_with fail
  refine chain_region (by kernel_rfl) 20 (by kernel_rfl) ?_
  refine chain_take 0 (.pointer (some ⟨g11, 0, none⟩)) rfl (by kernel_rfl) (by kernel_rfl) (by kernel_rfl) (fun _ _ _ h => h) rfl (fun w' hw' => by (unfold execOp; simp [go_sem, Act.put, Act.eval])) ?_
  simp only [Act.put, List.setIfInBounds_toArray, List.set_cons_zero, List.set_cons_succ]
  refine chain_take 1 (.slice (some ⟨g11, 0, none⟩) 16 16) rfl (by kernel_rfl) (by kernel_rfl) (by kernel_rfl) (fun _ _ _ h => h) rfl (fun w' hw' => by (unfold execOp; simp [go_sem, Act.put, Act.eval])) ?_
  simp only [Act.put, List.setIfInBounds_toArray, List.set_cons_zero, List.set_cons_succ]
  refine chain_take 2 (.string (strOfNums ek)) rfl (by kernel_rfl) (by kernel_rfl) (by kernel_rfl) (fun _ _ _ h => h) rfl (fun w' hw' => by (have hc0 := Kd.C_string (P := Try.prog) (dst := 9) (c := 16) Try.underlying22 Try.underlying5 Try.underlying9 (HEK.out _ _ (HA5.out.drew.next hw')); unfold execOp; simp [go_sem, Act.put, Act.eval, hc0])) ?_
  simp only [Act.put, List.setIfInBounds_toArray, List.set_cons_zero, List.set_cons_succ]
  refine chain_take 3 (_) rfl (by kernel_rfl) (by kernel_rfl) (by kernel_rfl) (fun _ _ _ h => h) rfl (fun w' hw' => run_move_at _ rfl w') ?_
  simp only [Act.put, List.setIfInBounds_toArray, List.set_cons_zero, List.set_cons_succ]
  refine chain_take 4 (.pointer (some ⟨gr, 0, none⟩)) rfl (by kernel_rfl) (by kernel_rfl) (by kernel_rfl) (fun _ _ _ h => h) rfl (fun w' hw' => by (unfold execOp; simp [go_sem, Act.put, Act.eval])) ?_
  simp only [Act.put, List.setIfInBounds_toArray, List.set_cons_zero, List.set_cons_succ]
  refine chain_take 5 (.pointer (some ⟨gr, 0, none⟩)) rfl (by kernel_rfl) (by kernel_rfl) (by kernel_rfl) (fun _ _ _ h => h) rfl (fun w' hw' => by (unfold execOp; simp [go_sem, Act.put, Act.eval])) ?_
  simp only [Act.put, List.setIfInBounds_toArray, List.set_cons_zero, List.set_cons_succ]
  refine chain_take 6 (.slice Ae 16 ce) rfl (by kernel_rfl) (by kernel_rfl) (by kernel_rfl) (fun _ _ _ h => h) rfl (fun w' hw' => by (have hc0 := (HKR.out.drew.next hw').cell.1; unfold execOp; simp [go_sem, Act.put, Act.eval, hc0])) ?_
  simp only [Act.put, List.setIfInBounds_toArray, List.set_cons_zero, List.set_cons_succ]
  refine chain_take 7 (.string (strOfNums ek)) rfl (by kernel_rfl) (by kernel_rfl) (by kernel_rfl) (fun _ _ _ h => h) rfl (fun w' hw' => by (have hc0 := Kd.C_string (P := Try.prog) (dst := 9) (c := ce) Try.underlying22 Try.underlying5 Try.underlying9 ((HKR.out.drew.next hw').e); unfold execOp; simp [go_sem, Act.put, Act.eval, hc0])) ?_
  simp only [Act.put, List.setIfInBounds_toArray, List.set_cons_zero, List.set_cons_succ]
  refine chain_take 8 (.bool false) rfl (by kernel_rfl) (by kernel_rfl) (by kernel_rfl) (fun _ _ _ h => h) rfl (fun w' hw' => by (unfold execOp; simp [go_sem, Act.put, Act.eval])) ?_
  simp only [Act.put, List.setIfInBounds_toArray, List.set_cons_zero, List.set_cons_succ]
  refine chain_take 9 (_) rfl (by kernel_rfl) (by kernel_rfl) (by kernel_rfl) (fun _ _ _ h => h) rfl (fun w' hw' => run_move_at _ rfl w') ?_
  simp only [Act.put, List.setIfInBounds_toArray, List.set_cons_zero, List.set_cons_succ]
  refine chain_take 10 (.pointer (some ⟨g11, 16, none⟩)) rfl (by kernel_rfl) (by kernel_rfl) (by kernel_rfl) (fun _ _ _ h => h) rfl (fun w' hw' => by (unfold execOp; simp [go_sem, Act.put, Act.eval])) ?_
  simp only [Act.put, List.setIfInBounds_toArray, List.set_cons_zero, List.set_cons_succ]
  refine chain_take 11 (.slice (some ⟨g11, 16, none⟩) 32 32) rfl (by kernel_rfl) (by kernel_rfl) (by kernel_rfl) (fun _ _ _ h => h) rfl (fun w' hw' => by (unfold execOp; simp [go_sem, Act.put, Act.eval])) ?_
  simp only [Act.put, List.setIfInBounds_toArray, List.set_cons_zero, List.set_cons_succ]
  refine chain_take 12 (.string (strOfNums mk)) rfl (by kernel_rfl) (by kernel_rfl) (by kernel_rfl) (fun _ _ _ h => h) rfl (fun w' hw' => by (have hc0 := Kd.C_string (P := Try.prog) (dst := 9) (c := 32) Try.underlying22 Try.underlying5 Try.underlying9 (HMK.out _ _ (HA5.out.drew.next hw')); unfold execOp; simp [go_sem, Act.put, Act.eval, hc0])) ?_
  simp only [Act.put, List.setIfInBounds_toArray, List.set_cons_zero, List.set_cons_succ]
  refine chain_take 13 (_) rfl (by kernel_rfl) (by kernel_rfl) (by kernel_rfl) (fun _ _ _ h => h) rfl (fun w' hw' => run_move_at _ rfl w') ?_
  simp only [Act.put, List.setIfInBounds_toArray, List.set_cons_zero, List.set_cons_succ]
  refine chain_take 14 (.pointer (some ⟨gr, 0, none⟩)) rfl (by kernel_rfl) (by kernel_rfl) (by kernel_rfl) (fun _ _ _ h => h) rfl (fun w' hw' => by (unfold execOp; simp [go_sem, Act.put, Act.eval])) ?_
  simp only [Act.put, List.setIfInBounds_toArray, List.set_cons_zero, List.set_cons_succ]
  refine chain_take 15 (.pointer (some ⟨gr, 1, none⟩)) rfl (by kernel_rfl) (by kernel_rfl) (by kernel_rfl) (fun _ _ _ h => h) rfl (fun w' hw' => by (unfold execOp; simp [go_sem, Act.put, Act.eval])) ?_
  simp only [Act.put, List.setIfInBounds_toArray, List.set_cons_zero, List.set_cons_succ]
  refine chain_take 16 (.slice Am 32 cm) rfl (by kernel_rfl) (by kernel_rfl) (by kernel_rfl) (fun _ _ _ h => h) rfl (fun w' hw' => by (have hc0 := (HKR.out.drew.next hw').cell.2.1; unfold execOp; simp [go_sem, Act.put, Act.eval, hc0])) ?_
  simp only [Act.put, List.setIfInBounds_toArray, List.set_cons_zero, List.set_cons_succ]
  refine chain_take 17 (.string (strOfNums mk)) rfl (by kernel_rfl) (by kernel_rfl) (by kernel_rfl) (fun _ _ _ h => h) rfl (fun w' hw' => by (have hc0 := Kd.C_string (P := Try.prog) (dst := 9) (c := cm) Try.underlying22 Try.underlying5 Try.underlying9 ((HKR.out.drew.next hw').m); unfold execOp; simp [go_sem, Act.put, Act.eval, hc0])) ?_
  simp only [Act.put, List.setIfInBounds_toArray, List.set_cons_zero, List.set_cons_succ]
  refine chain_take 18 (.bool false) rfl (by kernel_rfl) (by kernel_rfl) (by kernel_rfl) (fun _ _ _ h => h) rfl (fun w' hw' => by (unfold execOp; simp [go_sem, Act.put, Act.eval])) ?_
  simp only [Act.put, List.setIfInBounds_toArray, List.set_cons_zero, List.set_cons_succ]
  refine chain_take 19 (.bool false) rfl (by kernel_rfl) (by kernel_rfl) (by kernel_rfl) (fun _ _ _ h => h) rfl (fun w' hw' => by (unfold execOp; simp [go_sem, Act.put, Act.eval])) ?_
  simp only [Act.put, List.setIfInBounds_toArray, List.set_cons_zero, List.set_cons_succ]
  refine chain_done (by kernel_rfl) ?_
  have HA6 := Lib.hid HA5.out.drew
  have HK6 := Lib.hid HKR.out.drew
  have HB6 := Lib.hid (below_drew HB5.out)
  have HTGw := Lib.hid (HTG.out w5.drew (Kd.C_below HR4.out HB6.out))
  clear HA5 HKR HB5 HTG
  go_wp2_with (first
    | ((with_reducible refine gate_dst (N := 56) rfl ?_); refine load_row rfl 87 _ rfl g11 rfl .u8 _ _ K HA6.out Try.underlying87 rfl (by rw [HKL.out]; kernel_rfl) ?_)
    | fail)
  refine HTGw.out.mono ?_
  rintro e w7 ⟨rfl, hB7⟩
  have HA7 := Lib.hid (HA6.out.next hB7)
  have HK7 := Lib.hid (HK6.out.next hB7)
  have HB7 := Lib.hid (below_next HB6.out hB7)
  clear hB7 HA6 HK6 HB6 HTGw
  go_wp2_with (first
    | ((with_reducible refine gate_dst (N := 13) rfl ?_); refine alloc_arr rfl 27 rfl .u8 (List.replicate 32 0) (fun w => Try.zeroValue27 w) (by first | (go_simp; done) | (go_simp; rfl)) ?_; intro w8 hA8 hB8)
    | ((with_reducible refine gate_store (t := 27) (p := 13) rfl ?_); refine store_arr rfl 27 _ _ rfl w7.heap.size .u8 T1 rfl rfl 27 _ hA8 (by rw [HTL.out]; rfl) (by rw [HTL.out]; kernel_rfl) ?_; intro w9 hA9 hw9; have hB9 := below_setRow hB8 w7.heap.size (Nat.le_refl _) (nums .u8 T1).toArray; rw [← hw9] at hB9; have HT9 := Lib.hid hA9; have HA9 := Lib.hid (HA7.out.next hB9); have HK9 := Lib.hid (HK7.out.next hB9); have HB9 := Lib.hid (below_next HB7.out hB9); clear hw9 hA9 hB9 hA8 hB8)
    | ((with_reducible refine gate_dst (N := 61) rfl ?_); refine load_row rfl 87 _ rfl g11 rfl .u8 _ _ K HA9.out Try.underlying87 rfl (by rw [HKL.out]; kernel_rfl) ?_)
    | fail)
  generalize w7.heap.size = g13 at *
  clear HA7 HK7 HB7
  by_cases h64 : n3 = 64
  rotate_left
  · have h64' : (n3 : Int) ≠ 64 := by omega
    refine (HCB.out h64 w9).mono ?_
    rintro e w10 ⟨Ao, co, rfl, hlo, hRo, hB10⟩
    have HT10 := Lib.hid (HT9.out.next hB10)
    have HK10 := Lib.hid (HK9.out.next hB10)
    have HB10 := Lib.hid (below_next HB9.out hB10)
    clear hlo hRo hB10 HT9 HA9 HK9 HB9
    go_wp2_with (first
      | ((with_reducible refine gate_dst (N := 15) rfl ?_); refine alloc_arr rfl 27 rfl .u8 (List.replicate 32 0) (fun w => Try.zeroValue27 w) (by first | (go_simp; done) | (go_simp; rfl)) ?_; intro w11 hA11 hB11)
      | ((with_reducible refine gate_store (t := 27) (p := 15) rfl ?_); refine store_arr rfl 27 _ _ rfl w10.heap.size .u8 (List.replicate 32 0) rfl (by rfl) 27 _ hA11 rfl (by kernel_rfl) ?_; intro w12 hA12 hw12; have hB12 := below_setRow hB11 w10.heap.size (Nat.le_refl _) (nums .u8 (List.replicate 32 0)).toArray; rw [← hw12] at hB12; have HU9 := Lib.hid hA12; have HT9 := Lib.hid (HT10.out.next hB12); have HK9 := Lib.hid (HK10.out.next hB12); have HB9 := Lib.hid (below_next HB10.out hB12); clear hw12 hA12 hB12 hA11 hB11)
      | fail)
    generalize w10.heap.size = g15 at *
    obtain ⟨w9, hw9⟩ : ∃ W : World, W = w12 := ⟨_, rfl⟩
    subst hw9
    have HR49 := Lib.hid (Kd.C_below HR4.out HB9.out)
    refine chain_region (by kernel_rfl) 7 (by kernel_rfl) ?_
    refine chain_take 0 (.slice (some ⟨g13, 0, none⟩) 32 32) rfl (by kernel_rfl) (by kernel_rfl) (by kernel_rfl) (fun _ _ _ h => h) rfl (fun w' hw' => by (unfold execOp; simp [go_sem, Act.put, Act.eval])) ?_
    simp only [Act.put, List.setIfInBounds_toArray, List.set_cons_zero, List.set_cons_succ]
    refine chain_take 1 (.string (strOfNums T1)) rfl (by kernel_rfl) (by kernel_rfl) (by kernel_rfl) (fun _ _ _ h => h) rfl (fun w' hw' => by (have hc0 := Kd.C_string (P := Try.prog) (dst := 9) (c := 32) Try.underlying22 Try.underlying5 Try.underlying9 ((HT9.out.drew.next hw').reads 32 HTL.out (by decide)); unfold execOp; simp [go_sem, Act.put, Act.eval, hc0])) ?_
    simp only [Act.put, List.setIfInBounds_toArray, List.set_cons_zero, List.set_cons_succ]
    refine chain_take 2 (_) rfl (by kernel_rfl) (by kernel_rfl) (by kernel_rfl) (fun _ _ _ h => h) rfl (fun w' hw' => run_move_at _ rfl w') ?_
    simp only [Act.put, List.setIfInBounds_toArray, List.set_cons_zero, List.set_cons_succ]
    refine chain_take 3 (_) rfl (by kernel_rfl) (by kernel_rfl) (by kernel_rfl) (fun _ _ _ h => h) rfl (fun w' hw' => run_move_at _ rfl w') ?_
    simp only [Act.put, List.setIfInBounds_toArray, List.set_cons_zero, List.set_cons_succ]
    refine chain_take 4 (_) rfl (by kernel_rfl) (by kernel_rfl) (by kernel_rfl) (fun _ _ _ h => h) rfl (fun w' hw' => run_move_at _ rfl w') ?_
    simp only [Act.put, List.setIfInBounds_toArray, List.set_cons_zero, List.set_cons_succ]
    refine chain_call 5 rfl (by kernel_rfl) rfl 54 _ _ Try.func54 (by kernel_rfl) rfl _ _ #[.pointer (some ⟨gr, 0, none⟩), .int .i64 b, .slice A4 n4 c4] rfl (by simp [Act.put, Act.eval]) (HRT.out _ _ _ _ _ _ _ _ HK9.out.drew (Kd.C_drew HR49.out)) ?_
    rintro e W1 ⟨rfl, hB1⟩
    refine ⟨_, rfl, hB1, ?_⟩
    simp only [Act.put, List.setIfInBounds_toArray, List.set_cons_zero, List.set_cons_succ]
    refine chain_take 6 (.bool false) rfl (by kernel_rfl) (by kernel_rfl) (by kernel_rfl) (fun _ _ _ h => h) rfl (fun w' hw' => by (unfold execOp; simp [go_sem, Act.put, Act.eval])) ?_
    simp only [Act.put, List.setIfInBounds_toArray, List.set_cons_zero, List.set_cons_succ]
    refine chain_done (by kernel_rfl) ?_
    have HU13 := Lib.hid (HU9.out.drew.next hB1)
    have HW13 := Lib.hid (below_next (below_drew HB9.out) hB1)
    clear hB1 HT9 HK9 HB9 HU9 HR49
    go_wp2_with (first
      | ((with_reducible refine gate_dst (N := 83) rfl ?_); refine list_run_g (by rfl) _ (run_load_row 27 _ rfl g15 rfl .u8 _ _ (List.replicate 32 0) HU13.out Try.underlying27 rfl (by kernel_rfl)) ?_)
      | ((with_reducible refine gate_dst (N := 85) rfl ?_); refine list_run_g (by rfl) _ (run_eql_arrs 27 _ _ _ rfl .u8 (List.replicate 32 0) (List.replicate 32 0) rfl rfl (by kernel_rfl) 32 5 Try.underlying27 Try.underlying5 (by kernel_rfl) rfl rfl _) ?_)
      | fail)
    refine (knows7_any W1).mono ?_
    rintro e w15 ⟨rfl, hB15⟩
    have HB15 := Lib.hid (below_next HW13.out hB15)
    clear hB15
    go_wp2_with fail
    go_ret
    exact ⟨rfl, HB15.out⟩
  · subst h64
    have HOx := Lib.hid (HOL.out rfl)
    have HRx := Lib.hid (HRC.out rfl)
    have HUx := Lib.hid (HRU.out rfl)
    have HCx := Lib.hid (HCC.out rfl)
    clear HOL HRC HRU HCC HCB
    refine (HCx.out w9 (Kd.C_below HR3.out HB9.out)).mono ?_
    rintro e w10 ⟨Ao, co, rfl, hlo, hRo, hB10⟩
    rw [HOx.out] at hlo hRo ⊢
    have HT10 := Lib.hid (HT9.out.next hB10)
    have HK10 := Lib.hid (HK9.out.next hB10)
    have HB10 := Lib.hid (below_next HB9.out hB10)
    have HO10 := Lib.hid (by have h := (Kd.R_reads' hRo).2.2; rw [HOx.out] at h; exact h : Kd.C (Kd.int .u8) w10 Ao 72 OUT)
    clear hlo hRo hB10 HT9 HA9 HK9 HB9 HCx
    go_wp2_with (first
      | ((with_reducible refine gate_dst (N := 15) rfl ?_); refine alloc_arr rfl 27 rfl .u8 (List.replicate 32 0) (fun w => Try.zeroValue27 w) (by first | (go_simp; done) | (go_simp; rfl)) ?_; intro w11 hA11 hB11)
      | ((with_reducible refine gate_store (t := 27) (p := 15) rfl ?_); refine store_arr rfl 27 _ _ rfl w10.heap.size .u8 T2 rfl (by rfl) 27 _ hA11 (by rw [HUL.out]; rfl) (by rw [HUL.out]; kernel_rfl) ?_; intro w12 hA12 hw12; have hB12 := below_setRow hB11 w10.heap.size (Nat.le_refl _) (nums .u8 T2).toArray; rw [← hw12] at hB12; have HU9 := Lib.hid hA12; have HT9 := Lib.hid (HT10.out.next hB12); have HK9 := Lib.hid (HK10.out.next hB12); have HB9 := Lib.hid (below_next HB10.out hB12); have HO9 := Lib.hid (Kd.C_below HO10.out hB12); clear hw12 hA12 hB12 hA11 hB11)
      | fail)
    generalize w10.heap.size = g15 at *
    obtain ⟨w9, hw9⟩ : ∃ W : World, W = w12 := ⟨_, rfl⟩
    subst hw9
    have HR49 := Lib.hid (Kd.C_below HR4.out HB9.out)
    refine chain_region (by kernel_rfl) 7 (by kernel_rfl) ?_
    refine chain_take 0 (.slice (some ⟨g13, 0, none⟩) 32 32) rfl (by kernel_rfl) (by kernel_rfl) (by kernel_rfl) (fun _ _ _ h => h) rfl (fun w' hw' => by (unfold execOp; simp [go_sem, Act.put, Act.eval])) ?_
    simp only [Act.put, List.setIfInBounds_toArray, List.set_cons_zero, List.set_cons_succ]
    refine chain_take 1 (.string (strOfNums T1)) rfl (by kernel_rfl) (by kernel_rfl) (by kernel_rfl) (fun _ _ _ h => h) rfl (fun w' hw' => by (have hc0 := Kd.C_string (P := Try.prog) (dst := 9) (c := 32) Try.underlying22 Try.underlying5 Try.underlying9 ((HT9.out.drew.next hw').reads 32 HTL.out (by decide)); unfold execOp; simp [go_sem, Act.put, Act.eval, hc0])) ?_
    simp only [Act.put, List.setIfInBounds_toArray, List.set_cons_zero, List.set_cons_succ]
    refine chain_take 2 (_) rfl (by kernel_rfl) (by kernel_rfl) (by kernel_rfl) (fun _ _ _ h => h) rfl (fun w' hw' => run_move_at _ rfl w') ?_
    simp only [Act.put, List.setIfInBounds_toArray, List.set_cons_zero, List.set_cons_succ]
    refine chain_take 3 (_) rfl (by kernel_rfl) (by kernel_rfl) (by kernel_rfl) (fun _ _ _ h => h) rfl (fun w' hw' => run_move_at _ rfl w') ?_
    simp only [Act.put, List.setIfInBounds_toArray, List.set_cons_zero, List.set_cons_succ]
    refine chain_take 4 (_) rfl (by kernel_rfl) (by kernel_rfl) (by kernel_rfl) (fun _ _ _ h => h) rfl (fun w' hw' => run_move_at _ rfl w') ?_
    simp only [Act.put, List.setIfInBounds_toArray, List.set_cons_zero, List.set_cons_succ]
    refine chain_call 5 rfl (by kernel_rfl) rfl 54 _ _ Try.func54 (by kernel_rfl) rfl _ _ #[.pointer (some ⟨gr, 0, none⟩), .int .i64 b, .slice A4 n4 c4] rfl (by simp [Act.put, Act.eval]) (HRT.out _ _ _ _ _ _ _ _ HK9.out.drew (Kd.C_drew HR49.out)) ?_
    rintro e W1 ⟨rfl, hB1⟩
    refine ⟨_, rfl, hB1, ?_⟩
    simp only [Act.put, List.setIfInBounds_toArray, List.set_cons_zero, List.set_cons_succ]
    refine chain_take 6 (.bool false) rfl (by kernel_rfl) (by kernel_rfl) (by kernel_rfl) (fun _ _ _ h => h) rfl (fun w' hw' => by (unfold execOp; simp [go_sem, Act.put, Act.eval])) ?_
    simp only [Act.put, List.setIfInBounds_toArray, List.set_cons_zero, List.set_cons_succ]
    refine chain_done (by kernel_rfl) ?_
    have HU13 := Lib.hid (HU9.out.drew.next hB1)
    have HK13 := Lib.hid (HK9.out.drew.next hB1)
    have HO13 := Lib.hid (Kd.C_below (Kd.C_drew HO9.out) hB1)
    have HW13 := Lib.hid (below_next (below_drew HB9.out) hB1)
    have HRCw := Lib.hid (HRx.out gr Ae ce Am cm ge gm W1 HK13.out (Kd.C_below HR3.out HW13.out))
    clear hB1 HT9 HK9 HB9 HU9 HR49 HO9 HT10 HK10 HB10 HO10
    go_wp2_with fail
    refine HRCw.out.mono ?_
    rintro e w14 ⟨v14, rfl, hQ14, hB14⟩
    obtain ⟨Ar, cr, er, hlr, hrr⟩ := Kd.R_reads hQ14
    rw [HOx.out] at er hlr hrr
    subst er
    have HQ14 := Lib.hid hrr
    have HLR := Lib.hid hlr
    have HU14 := Lib.hid (HU13.out.next hB14)
    have HK14 := Lib.hid (HK13.out.next hB14)
    have HO14 := Lib.hid (Kd.C_below HO13.out hB14)
    have HW14 := Lib.hid (below_next HW13.out hB14)
    obtain ⟨wy, hwy⟩ : ∃ W : World, W = W1 := ⟨_, rfl⟩
    subst hwy
    clear hQ14 hB14 hrr hlr HRCw HU13 HK13 HO13 HRx
    go_wp2_with fail
    refine chain_region (by kernel_rfl) 22 (by kernel_rfl) ?_
    refine chain_take 0 (_) rfl (by kernel_rfl) (by kernel_rfl) (by kernel_rfl) (fun _ _ _ h => h) rfl (fun w' hw' => run_move_at _ rfl w') ?_
    simp only [Act.put, List.setIfInBounds_toArray, List.set_cons_zero, List.set_cons_succ]
    refine chain_take 1 (.string (strOfNums OUT)) rfl (by kernel_rfl) (by kernel_rfl) (by kernel_rfl) (fun _ _ _ h => h) rfl (fun w' hw' => by (have hc0 := Kd.C_string (P := Try.prog) (dst := 9) (c := co) Try.underlying22 Try.underlying5 Try.underlying9 (Kd.C_below (Kd.C_drew HO14.out) hw'); unfold execOp; simp [go_sem, Act.put, Act.eval, hc0])) ?_
    simp only [Act.put, List.setIfInBounds_toArray, List.set_cons_zero, List.set_cons_succ]
    refine chain_take 2 (_) rfl (by kernel_rfl) (by kernel_rfl) (by kernel_rfl) (fun _ _ _ h => h) rfl (fun w' hw' => run_move_at _ rfl w') ?_
    simp only [Act.put, List.setIfInBounds_toArray, List.set_cons_zero, List.set_cons_succ]
    refine chain_take 3 (.string (strOfNums OUT)) rfl (by kernel_rfl) (by kernel_rfl) (by kernel_rfl) (fun _ _ _ h => h) rfl (fun w' hw' => by (have hc0 := Kd.C_string (P := Try.prog) (dst := 9) (c := cr) Try.underlying22 Try.underlying5 Try.underlying9 (Kd.C_below (Kd.C_drew HQ14.out) hw'); unfold execOp; simp [go_sem, Act.put, Act.eval, hc0])) ?_
    simp only [Act.put, List.setIfInBounds_toArray, List.set_cons_zero, List.set_cons_succ]
    refine chain_take 4 (.bool true) rfl (by kernel_rfl) (by kernel_rfl) (by kernel_rfl) (fun _ _ _ h => h) rfl (fun w' hw' => by (unfold execOp; simp [go_sem, Act.put, Act.eval])) ?_
    simp only [Act.put, List.setIfInBounds_toArray, List.set_cons_zero, List.set_cons_succ]
    refine chain_take 5 (_) rfl (by kernel_rfl) (by kernel_rfl) (by kernel_rfl) (fun _ _ _ h => h) rfl (fun w' hw' => run_move_at _ rfl w') ?_
    simp only [Act.put, List.setIfInBounds_toArray, List.set_cons_zero, List.set_cons_succ]
    refine chain_take 6 (.slice (some ⟨g15, 0, none⟩) 32 32) rfl (by kernel_rfl) (by kernel_rfl) (by kernel_rfl) (fun _ _ _ h => h) rfl (fun w' hw' => by (unfold execOp; simp [go_sem, Act.put, Act.eval])) ?_
    simp only [Act.put, List.setIfInBounds_toArray, List.set_cons_zero, List.set_cons_succ]
    refine chain_take 7 (.string (strOfNums T2)) rfl (by kernel_rfl) (by kernel_rfl) (by kernel_rfl) (fun _ _ _ h => h) rfl (fun w' hw' => by (have hc0 := Kd.C_string (P := Try.prog) (dst := 9) (c := 32) Try.underlying22 Try.underlying5 Try.underlying9 ((HU14.out.drew.next hw').reads 32 HUL.out (by decide)); unfold execOp; simp [go_sem, Act.put, Act.eval, hc0])) ?_
    simp only [Act.put, List.setIfInBounds_toArray, List.set_cons_zero, List.set_cons_succ]
    refine chain_take 8 (_) rfl (by kernel_rfl) (by kernel_rfl) (by kernel_rfl) (fun _ _ _ h => h) rfl (fun w' hw' => run_move_at _ rfl w') ?_
    simp only [Act.put, List.setIfInBounds_toArray, List.set_cons_zero, List.set_cons_succ]
    refine chain_take 9 (_) rfl (by kernel_rfl) (by kernel_rfl) (by kernel_rfl) (fun _ _ _ h => h) rfl (fun w' hw' => run_move_at _ rfl w') ?_
    simp only [Act.put, List.setIfInBounds_toArray, List.set_cons_zero, List.set_cons_succ]
    refine chain_take 10 (_) rfl (by kernel_rfl) (by kernel_rfl) (by kernel_rfl) (fun _ _ _ h => h) rfl (fun w' hw' => run_move_at _ rfl w') ?_
    simp only [Act.put, List.setIfInBounds_toArray, List.set_cons_zero, List.set_cons_succ]
    refine chain_call 11 rfl (by kernel_rfl) rfl 54 _ _ Try.func54 (by kernel_rfl) rfl _ _ #[.pointer (some ⟨gr, 0, none⟩), .int .i64 b, .slice Ar 72 cr] rfl (by simp [Act.put, Act.eval]) (HUx.out _ _ _ _ _ _ _ _ _ _ HLR.out HK14.out.drew (Kd.C_drew HQ14.out)) ?_
    rintro e W1 ⟨rfl, hB1⟩
    refine ⟨_, rfl, hB1, ?_⟩
    simp only [Act.put, List.setIfInBounds_toArray, List.set_cons_zero, List.set_cons_succ]
    refine chain_take 12 (.bool true) rfl (by kernel_rfl) (by kernel_rfl) (by kernel_rfl) (fun _ _ _ h => h) rfl (fun w' hw' => by (unfold execOp; simp [go_sem, Act.put, Act.eval])) ?_
    simp only [Act.put, List.setIfInBounds_toArray, List.set_cons_zero, List.set_cons_succ]
    refine chain_take 13 (.bool true) rfl (by kernel_rfl) (by kernel_rfl) (by kernel_rfl) (fun _ _ _ h => h) rfl (fun w' hw' => by (unfold execOp; simp [go_sem, Act.put, Act.eval])) ?_
    simp only [Act.put, List.setIfInBounds_toArray, List.set_cons_zero, List.set_cons_succ]
    refine chain_take 14 (_) rfl (by kernel_rfl) (by kernel_rfl) (by kernel_rfl) (fun _ _ _ h => h) rfl (fun w' hw' => run_move_at _ rfl w') ?_
    simp only [Act.put, List.setIfInBounds_toArray, List.set_cons_zero, List.set_cons_succ]
    refine chain_take 15 (_) rfl (by kernel_rfl) (by kernel_rfl) (by kernel_rfl) (fun _ _ _ h => h) rfl (fun w' hw' => run_move_at _ rfl w') ?_
    simp only [Act.put, List.setIfInBounds_toArray, List.set_cons_zero, List.set_cons_succ]
    refine chain_take 16 (.bool true) rfl (by kernel_rfl) (by kernel_rfl) (by kernel_rfl) (fun _ _ _ h => h) rfl (fun w' hw' => by (unfold execOp; simp [go_sem, Act.put, Act.eval])) ?_
    simp only [Act.put, List.setIfInBounds_toArray, List.set_cons_zero, List.set_cons_succ]
    refine chain_take 17 (.bool true) rfl (by kernel_rfl) (by kernel_rfl) (by kernel_rfl) (fun _ _ _ h => h) rfl (fun w' hw' => by (unfold execOp; simp [go_sem, Act.put, Act.eval])) ?_
    simp only [Act.put, List.setIfInBounds_toArray, List.set_cons_zero, List.set_cons_succ]
    refine chain_take 18 (_) rfl (by kernel_rfl) (by kernel_rfl) (by kernel_rfl) (fun _ _ _ h => h) rfl (fun w' hw' => run_move_at _ rfl w') ?_
    simp only [Act.put, List.setIfInBounds_toArray, List.set_cons_zero, List.set_cons_succ]
    refine chain_call 19 rfl (by kernel_rfl) rfl 49 _ _ Try.func49 (by kernel_rfl) rfl _ _ #[] rfl (by simp [Act.put, Act.eval]) (knows7_any W1) ?_
    rintro e W3 ⟨rfl, hB3⟩
    refine ⟨_, rfl, hB3, ?_⟩
    simp only [Act.put, List.setIfInBounds_toArray, List.set_cons_zero, List.set_cons_succ]
    refine chain_take 20 (.bool true) rfl (by kernel_rfl) (by kernel_rfl) (by kernel_rfl) (fun _ _ _ h => h) rfl (fun w' hw' => by (unfold execOp; simp [go_sem, Act.put, Act.eval])) ?_
    simp only [Act.put, List.setIfInBounds_toArray, List.set_cons_zero, List.set_cons_succ]
    refine chain_take 21 (_) rfl (by kernel_rfl) (by kernel_rfl) (by kernel_rfl) (fun _ _ _ h => h) rfl (fun w' hw' => BigFrame.run_assign _ rfl w') ?_
    simp only [Act.put, List.setIfInBounds_toArray, List.set_cons_zero, List.set_cons_succ]
    refine chain_done (by kernel_rfl) ?_
    have HB15 := Lib.hid (below_next (below_drew HW14.out) (below_next hB1 hB3))
    clear hB1 hB3
    go_wp2_with fail
    go_ret
    exact ⟨rfl, HB15.out⟩
set_option maxHeartbeats 1000000 in
theorem scloses_big (A0 : Option Addr) (n0 c0 : Nat) (b c : Int) (A3 : Option Addr) (n3 c3 : Nat) (A4 : Option Addr) (n4 c4 : Nat) (w : World) (h : 200 < n0 ∨ 200 < n3 ∨ 200 < n4) :
    Calls Try.prog 13 #[.slice A0 n0 c0, .int .i64 b, .int .u64 c, .slice A3 n3 c3, .slice A4 n4 c4] w (Tells7 w) := by
  by_cases h0 : 200 < n0
  rotate_left
  by_cases h1 : 200 < n3
  rotate_left
  have h2 : 200 < n4 := by omega
  all_goals
    go_enter Try.func13, Try.ntmps13
    go_wp2_with fail
    refine (knows7_any w).mono ?_
    rintro e w1 ⟨rfl, hB⟩
    have HB := Lib.hid hB
    clear hB
    go_wp2_with fail
    go_ret
    exact ⟨rfl, HB.out⟩
theorem sealCloses_walk (a0 : Option Addr) (len0 cap0 : Nat) (z0 : List Int) (a1 a2 : Int) (a3 : Option Addr) (len3 cap3 : Nat) (z3 : List Int) (a4 : Option Addr) (len4 cap4 : Nat) (z4 : List Int) (w : World)
    (w0 : (a0 = none ∧ len0 = 0 ∧ cap0 = 0 ∧ z0 = []) ∨ ∃ x, a0 = some x ∧ len0 ≤ cap0 ∧ cap0 ≤ maxLen ∧ z0.length = cap0 ∧ (∀ i, i < z0.length → w.cell? (x.add i) = some (.int .u8 (z0.getD i 0))) ∧ ∀ n ∈ z0, (Lit.int .u8 n).wf = true) (y0 : len0 * 1 ≤ 140737488351232) (w1 : (Lit.int .i64 a1).wf = true) (w2 : (Lit.int .u64 a2).wf = true)
    (w3 : (a3 = none ∧ len3 = 0 ∧ cap3 = 0 ∧ z3 = []) ∨ ∃ x, a3 = some x ∧ len3 ≤ cap3 ∧ cap3 ≤ maxLen ∧ z3.length = cap3 ∧ (∀ i, i < z3.length → w.cell? (x.add i) = some (.int .u8 (z3.getD i 0))) ∧ ∀ n ∈ z3, (Lit.int .u8 n).wf = true) (y3 : len3 * 1 ≤ 140737488351232)
    (w4 : (a4 = none ∧ len4 = 0 ∧ cap4 = 0 ∧ z4 = []) ∨ ∃ x, a4 = some x ∧ len4 ≤ cap4 ∧ cap4 ≤ maxLen ∧ z4.length = cap4 ∧ (∀ i, i < z4.length → w.cell? (x.add i) = some (.int .u8 (z4.getD i 0))) ∧ ∀ n ∈ z4, (Lit.int .u8 n).wf = true) (y4 : len4 * 1 ≤ 140737488351232) :
    Calls Try.prog 13 #[.slice a0 len0 cap0, .int .i64 a1, .int .u64 a2, .slice a3 len3 cap3, .slice a4 len4 cap4] w fun e w' => e = .returned (.bool true) ∧ Below w.heap.size w w' := by
  obtain ⟨l0, hlen0, hr0, hc0, hb0⟩ := Go.Proofs.Ytljmjeaocojnmaa.Com.reads_of_row w0
  obtain ⟨l3, hlen3, hr3, hc3, hb3⟩ := Go.Proofs.Ytljmjeaocojnmaa.Com.reads_of_row w3
  obtain ⟨l4, hlen4, hr4, hc4, hb4⟩ := Go.Proofs.Ytljmjeaocojnmaa.Com.reads_of_row w4
  clear w0 w3 w4
  subst hlen0 hlen3 hlen4
  by_cases hbig : 200 < l0.length ∨ 200 < l3.length ∨ 200 < l4.length
  · exact scloses_big a0 l0.length cap0 a1 a2 a3 l3.length cap3 a4 l4.length cap4 w hbig
  · exact scloses_few a0 cap0 l0 a1 a2 a3 l3.length cap3 l3 a4 l4.length cap4 l4 w hr0 hc0 (by omega) hb0 (Com.range64 w1) (Com.rangeu64 w2) hr3 hc3 (by omega) hb3 hr4 hc4 (by omega) hb4
end Go.Proofs.Ytljmjeaocojnmaa.HEa
end
