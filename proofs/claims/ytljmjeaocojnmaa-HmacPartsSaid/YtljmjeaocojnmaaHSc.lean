/- The contract of sha256.Sum, by hand. -/
import Derived.Test.YtljmjeaocojnmaaHSb
set_option linter.unusedVariables false
set_option linter.unusedSimpArgs false
namespace Go.Proofs.Ytljmjeaocojnmaa.HSa
open Go.RowKit Go.Proofs.YtljmjeaocojnmaaW.PrintWords Go.Proofs.YtljmjeaocojnmaaW.PrintLast Go.Proofs.YtljmjeaocojnmaaW.PrintMore Go.Proofs.Ytljmjeaocojnmaa.Kit Go.Proofs.Ytljmjeaocojnmaa.Sr

theorem info5 : (Try.prog.info? 5).map (fun i => (i.zero, i.size, i.bytes)) = some (some (.int .u8 0), 1, 1) := by kernel_rfl
def iv : List Int := [0x6A09E667, 0xBB67AE85, 0x3C6EF372, 0xA54FF53A, 0x510E527F, 0x9B05688C, 0x1F83D9AB, 0x5BE0CD19]
/-- so many blocks have come -/
def comeN (s l : List Int) : Nat → List Int
  | 0 => s
  | k + 1 => comeF (comeN s l k) ((l.drop (64 * k)).take 64)
theorem comeN_length (s l : List Int) : ∀ n, (comeN s l n).length = s.length
  | 0 => rfl
  | n + 1 => by simp [comeN, comeF_length, comeN_length s l n]
/-- a slice's first 64, and what is behind them -/
theorem cut64 (A : Option Addr) (n c : Nat) (hn : 64 ≤ n) (hc : n ≤ c) :
    (∀ W : World, (Instr.slice 22 (.slice A n c) none (some (.int .i64 64)) none).run Try.prog W = .ok (.slice A 64 c) W) ∧
    (∀ (w : World) (l : List Int), Kd.C (Kd.int .u8) w A n l → Kd.C (Kd.int .u8) w A 64 (l.take 64)) ∧
    ∃ A', (∀ W : World, (Instr.slice 22 (.slice A n c) (some (.int .i64 64)) none none).run Try.prog W = .ok (.slice A' (n - 64) (c - 64)) W) ∧
      (∀ (w : World) (l : List Int), Kd.C (Kd.int .u8) w A n l → Kd.C (Kd.int .u8) w A' (n - 64) (l.drop 64)) := by
  obtain ⟨i0, hi, hz0, hz1, hz2⟩ := info_parts info5
  obtain ⟨A', h1, h2⟩ := print_cut (P := Try.prog) 22 5 .i64 Try.underlying22 hi hz1 A n c 64 hn
  refine ⟨?_, ?_, A', h1, ?_⟩
  · intro W
    have hx : (List.replicate n (0 : Int)).length = n := by simp
    have h3 := (print_take_int (P := Try.prog) (k := .u8) 22 5 Try.underlying22 hi hz1 A c (List.replicate n 0) 64 (by omega) (by simp; omega) (by simp; omega)).1 W
    simpa [Nat.min_eq_left hn] using h3
  · intro w l hr
    have hl : l.length = n := hr.1
    have h3 := (print_take_int (P := Try.prog) (k := .u8) 22 5 Try.underlying22 hi hz1 A c l 64 (by omega) (by omega) (by omega)).2.1 w (by rw [hl]; exact Kd.reads_of_C (enc := Value.int .u8) (d := (0 : Int)) (h1 := fun _ => rfl) hr)
    have h4 := Kd.C_of_reads (enc := Value.int .u8) (d := (0 : Int)) (h1 := fun _ => rfl) h3
    have e : (l.take (64 : Int).toNat).length = 64 := by simp; omega
    rw [e] at h4
    exact h4
  · intro w l hr
    have h3 := h2 w .u8 l hc (Kd.reads_of_C (enc := Value.int .u8) (d := (0 : Int)) (h1 := fun _ => rfl) hr)
    exact Kd.C_of_reads (enc := Value.int .u8) (d := (0 : Int)) (h1 := fun _ => rfl) h3
theorem new_arr {P : Program} {ops : Array Oper} {rest : List Oper} {o : Oper} {a : Act} {Q : Exit → Act → World → Prop} {W : World} (hgd : o.guard = none) (T : TypeId) (k : IntKind) (xs : List Int)
    (hrun : (execOp a.eval o).run P W = .ok (.value (.pointer (some ⟨W.heap.size, 0, none⟩))) (W.alloc (.cells (nums k xs).toArray T)))
    (h : ∀ w1, Arr k T w1 W.heap.size xs → Below W.heap.size W w1 → wpList P ops Q rest (a.put o.dst (.pointer (some ⟨W.heap.size, 0, none⟩))) w1) : wpList P ops Q (o :: rest) a W :=
  Kd.event_run hgd hrun (h _ (Arr.new W k T xs) (below_alloc (Below.refl _ _) _))
/-- a length's byte -/
def lenB (n j : Nat) : Int := (n : Int) * 8 / 2 ^ (56 - 8 * j) % 256
/-- a byte of the sum -/
def outB (st : List Int) (j : Nat) : Int := st.getD (j / 4) 0 / 2 ^ (24 - j % 4 * 8) % 256
def outN (st : List Int) (j : Nat) : List Int := (List.range j).map (outB st) ++ List.replicate (32 - j) 0
theorem outN_length (st : List Int) (j : Nat) (hj : j ≤ 32) : (outN st j).length = 32 := by simp [outN]; omega
theorem outN_step (st : List Int) (j : Nat) (hj : j < 32) : (outN st j).set j (outB st j) = outN st (j + 1) := by
  unfold outN
  have e : List.replicate (32 - j) (0 : Int) = 0 :: List.replicate (32 - (j + 1)) 0 := by rw [show 32 - j = (32 - (j + 1)) + 1 from by omega, List.replicate_succ]
  rw [e, List.set_append_right _ _ (by simp)]
  simp [List.range_succ]
/-- what is filled up behind the whole blocks -/
def tailF (l : List Int) : List Int :=
  l.drop (64 * (l.length / 64)) ++ [128] ++ List.replicate ((119 - l.length % 64) % 64) 0 ++ (List.range 8).map (lenB l.length)
def sumF (l : List Int) : List Int := outN (comeN (comeN iv l (l.length / 64)) (tailF l) ((tailF l).length / 64)) 32
theorem grown_trans {w W W1 : World} {r : Option Nat} (h : w.grownBy W r) (h' : W.grownBy W1 r) : w.grownBy W1 r :=
  ⟨h'.os.trans h.os, h'.tape.trans h.tape, h'.output.trans h.output, Nat.le_trans h.size h'.size, fun i hi hne => (h'.block i (Nat.lt_of_lt_of_le hi h.size) hne).trans (h.block i hi hne)⟩
theorem Arr.grown {k : IntKind} {T : TypeId} {w w1 : World} {g gs : Nat} {xs : List Int} (h : Arr k T w g xs) (hg : w.grownBy w1 (some gs)) (hne : g ≠ gs) : Arr k T w1 g xs := ⟨(hg.block g h.lt (fun e => hne (by injection e))).trans h.out⟩
attribute [local irreducible] comeN comeF iv
set_option maxHeartbeats 2000000 in
set_option maxRecDepth 100000 in
theorem sum_any (A : Option Addr) (c : Nat) (l : List Int) (w : World) (hr : Kd.C (Kd.int .u8) w A l.length l) (hc : l.length ≤ c) (hl : l.length ≤ 1000000) :
    Calls Try.prog 61 #[.slice A l.length c] w (GivesArr .u8 (sumF l) w) := by
  have HR := Lib.hid hr
  obtain ⟨n, hn⟩ : ∃ n, n = l.length := ⟨_, rfl⟩
  have HN := Lib.hid hn
  rw [← hn] at hc hl ⊢
  clear hr hn
  have hmf : ∀ (fn : Fn) (first cap : Array Value) (w : World), (Instr.makeFunc fn first cap).run Try.prog w = .ok (.func fn first cap) w := fun _ _ _ _ => rfl
  go_enter Try.func61, Try.ntmps61
  go_wp2_with (first
    | ((with_reducible refine gate_dst (N := 2) rfl ?_); refine alloc_arr rfl 26 rfl .u8 (List.replicate 32 0) (fun w => Try.zeroValue26 w) (by first | (go_simp; done) | (go_simp; rfl)) ?_; intro w1 hA1 hB1)
    | ((with_reducible refine gate_dst (N := 11) rfl ?_); refine new_arr rfl 136 .u32 iv (by first | (go_simp; done) | (go_simp; unfold iv; rfl)) ?_; intro w2 hA2 hB2)
    | fail)
  have hg12 := hA1.lt
  have hA1' := hA1.next hB2
  have hBw2 := below_next hB1 hB2
  generalize w1.heap.size = gs at *
  have HS0 : Hid (Arr .u32 136 w2 gs (comeN iv l 0)) := Lib.hid (by unfold comeN; exact hA2)
  have HR0 : Hid (Kd.C (Kd.int .u8) w A n (l.drop (64 * 0))) := Lib.hid (by simpa [HN.out] using HR.out)
  clear hA2 hB2 hB1 hA1
  have hnn := hc
  go_loopw [0] (fun v wr => ∃ (k : Nat) (A' : Option Addr) (n' c' : Nat), v = .slice A' n' c' ∧ n' + 64 * k = n ∧ n' ≤ c' ∧ Hid (Kd.C (Kd.int .u8) w A' n' (l.drop (64 * k))) ∧ Hid (Arr .u32 136 wr gs (comeN iv l k)) ∧ Hid (w2.grownBy wr (some gs))) (fun v _ => match v with | .slice _ n _ => n | _ => 0)
  case atStart => exact ⟨0, A, n, c, rfl, by omega, hc, HR0, HS0, Lib.hid (grown_of_below (Below.refl _ _) _)⟩
  case round =>
    clear HS0 HR0
    obtain ⟨k, A', n', c', rfl, hk, hc', hR, hS, hG⟩ := hrel
    have hbw : Below w.heap.size w wr := pw_below_grown hBw2 (some gs) hBw2.size hG.out (fun k hk => by cases hk; omega)
    by_cases h64 : 64 ≤ n'
    · obtain ⟨hsl1, hC1, A'', hsl2, hC2⟩ := cut64 A' n' c' h64 hc'
      have hcl := comeN_length iv l k
      have HC1 := Lib.hid (hC1 wr _ (Kd.C_below hR.out hbw))
      have HC2 := Lib.hid (hC2 w _ hR.out)
      clear hC1 hC2
      have HCL : Hid ((comeN iv l k).length = 8) := Lib.hid (by rw [hcl]; unfold iv; rfl)
      clear hcl
      go_wp2_with fail
      have hlen : ((l.drop (64 * k)).take 64).length = 64 := HC1.out.1
      refine (come_any gs (comeN iv l k) A' c' ((l.drop (64 * k)).take 64) wr hS.out HCL.out (by rw [hlen]; exact HC1.out) hlen).mono ?_
      rintro e w' ⟨rfl, hS', hG'⟩
      have HS2 : Hid (Arr .u32 136 w' gs (comeN iv l (k + 1))) := Lib.hid (by rw [comeN]; exact hS')
      have HG2 := Lib.hid (grown_trans hG.out hG')
      clear hS' hG' hlen
      go_wp2
      go_roundw
      case rel =>
        refine ⟨k + 1, A'', n' - 64, c' - 64, rfl, by omega, by omega, ?_, HS2, HG2⟩
        have h := HC2.out
        rw [List.drop_drop, show 64 * k + 64 = 64 * (k + 1) from by omega] at h
        exact Lib.hid h
      case measure => simp; omega
    · have hlt : n' < 64 := by omega
      obtain ⟨wa, hwa⟩ : ∃ wa : World, wa = wr := ⟨_, rfl⟩
      subst hwa
      have hge : ¬ (64 : Int) ≤ (n' : Int) := by omega
      have HRw := Lib.hid (Kd.C_below hR.out hbw)
      go_wp2_with (first
        | ((with_reducible refine gate_dst (N := 27) rfl ?_); refine Kd.R_lit (Kd.int .u8) (w0 := wa) wa.heap.size 5 ?hg (N := 27) ?hd (xs := ([] : List Int)) (inner := []) (ok := fun _ => True) (okp := fun _ => True) ?hr ?hp (fun _ hk => hk) trivial (Below.refl _ _) (Nat.le_refl _) (by simp) ?_; (case hd => rfl); (case hg => rfl); (case hr => first | (go_simp; done) | (go_simp; rfl)); (case hp => exact (Reps.none _ _)); intro v3 w3 ho3 hb3 hg_ hnew_; clear hg_ hnew_; have HO3 := Aside0.mk ho3; have HB3 := Aside0.mk hb3; clear ho3 hb3)
        | ((with_reducible refine gate_builtin (b := .append) (xs := #[.tmp 27, .tmp 28]) rfl ?_); at_builtin; refine Kd.R_append_rows (Kd.int .u8) (w0 := wa) wa.heap.size rfl (.tmp 27) (.tmp 28) 22 5 (.int .u8 0) 1 rfl Try.underlying22 info5 rfl (by decide) (by omega) v3 [] (l.drop (64 * k)) A' n' c' (fun _ => True) (fun _ => False) rfl rfl HO3.out (by exact Kd.C_below HRw.out HB3.out) (fun _ _ h => h) (fun _ h => h.elim) (fun _ _ => trivial) HB3.out HB3.out.size ?aL ?_; (case aL => simp; omega); intro v4 w4 ho4 hb4 hg4 hat4; have HO4 := Aside0.mk ho4; have HB4 := Aside0.mk hb4; clear ho4 hb4 hg4 hat4)
        | ((with_reducible refine gate_builtin (b := .append) (xs := #[.tmp 29, .tmp 30]) rfl ?_); at_builtin; refine Kd.R_append (Kd.int .u8) (w0 := wa) wa.heap.size rfl (.tmp 29) (.tmp 30) 22 5 (.int .u8 0) 1 rfl Try.underlying22 info5 rfl (by decide) (by omega) v4 ([] ++ l.drop (64 * k)) 128 [.int .u8 128] (fun _ => True) (fun _ => False) rfl rfl ?aP (fun _ hk => hk.elim) (fun _ _ => trivial) HO4.out HB4.out HB4.out.size ?aL2 ?_; (case aP => exact rfl); (case aL2 => have := HRw.out.1; simp at this; simp; omega); intro v5 w5 ho5 hb5 hg5 hat5; have HO5 := Aside0.mk ho5; have HB5 := Aside0.mk hb5; clear ho5 hb5 hg5 hat5)
        | fail)
      obtain ⟨rest, hrest⟩ : ∃ r : List Int, r = ([] ++ l.drop (64 * k)) ++ [128] := ⟨_, rfl⟩
      rw [← hrest] at HO5
      have hrl : rest.length = n' + 1 := by rw [hrest]; have := HRw.out.1; simp at this ⊢; omega
      have HRL := Lib.hid hrl
      have HRE := Lib.hid hrest
      clear hrl hrest HO3 HB3 HO4 HB4
      obtain ⟨A5, c5, hv5, hc5, _⟩ := Kd.R_reads HO5.out
      rw [HRL.out] at hv5
      subst hv5
      have H50 : Hid (Kd.R (Kd.int .u8) 5 w5 wa.heap.size (fun _ => True) (.slice A5 (n' + 1) c5) (rest ++ List.replicate 0 0)) := Lib.hid (by simpa using HO5.out)
      have HB50 := Lib.hid HB5.out
      clear HO5 HB5
      have hz64 : (119 - n') % 64 < 64 := Nat.mod_lt _ (by omega)
      go_loopw [6] (fun v wx => ∃ (m q : Nat) (A6 : Option Addr) (c6 : Nat), v = .slice A6 q c6 ∧ q = n' + 1 + m ∧ m ≤ (119 - n') % 64 ∧ Hid (Kd.R (Kd.int .u8) 5 wx wa.heap.size (fun _ => True) (.slice A6 q c6) (rest ++ List.replicate m 0)) ∧ Hid (Below wa.heap.size wa wx)) (fun v _ => match v with | .slice _ n _ => 200 - n | _ => 0)
      case atStart => exact ⟨0, n' + 1, A5, c5, rfl, by omega, by omega, H50, HB50⟩
      case round =>
        clear H50 HB50
        obtain ⟨m, q, A6, c6, rfl, hq, hm, hO, hB⟩ := hrel
        have HQ := Lib.hid hq
        have hq200 : q ≤ 128 := by omega
        by_cases hz : m < (119 - n') % 64
        · have hmod : ¬ (q : Int) % 64 = 56 := by omega
          have hq1 : ((q : Int) % 64 == 56) = false := by simpa using hmod
          have hq2 : ((q : Int) % 64 != 56) = true := by simpa using hmod
          clear hq hmod
          go_wp2_with (first
            | ((with_reducible refine gate_builtin (b := .append) (xs := #[.tmp 36, .tmp 37]) rfl ?_); at_builtin; refine Kd.R_append (Kd.int .u8) (w0 := wa) wa.heap.size rfl (.tmp 36) (.tmp 37) 22 5 (.int .u8 0) 1 rfl Try.underlying22 info5 rfl (by decide) (by omega) (.slice A6 q c6) (rest ++ List.replicate m 0) 0 [.int .u8 0] (fun _ => True) (fun _ => False) rfl rfl ?aP (fun _ hk => hk.elim) (fun _ _ => trivial) hO.out hB.out hB.out.size ?aL2 ?_; (case aP => exact rfl); (case aL2 => have := HRL.out; have := HQ.out; simp; omega); intro v7 w7 ho7 hb7 hg7 hat7; have HO7 := Aside0.mk ho7; have HB7 := Aside0.mk hb7; clear ho7 hb7 hg7 hat7)
            | fail)
          obtain ⟨A7, c7, hv7, hc7, _⟩ := Kd.R_reads HO7.out
          have hl7 : (rest ++ List.replicate m 0 ++ [0]).length = q + 1 := by have := HRL.out; have := HQ.out; simp; omega
          rw [hl7] at hv7
          subst hv7
          have he : rest ++ List.replicate m (0 : Int) ++ [0] = rest ++ List.replicate (m + 1) 0 := by rw [List.append_assoc, ← List.replicate_succ']
          rw [he] at HO7
          have HO7' := Lib.hid HO7.out
          have HB7' := Lib.hid HB7.out
          clear he hl7 HO7 HB7
          go_roundw
          case rel => exact ⟨m + 1, q + 1, A7, c7, rfl, by have := HQ.out; omega, by omega, HO7', HB7'⟩
          case measure => simp; omega
        · have hmod : (q : Int) % 64 = 56 := by omega
          have hq1 : ((q : Int) % 64 == 56) = true := by simpa using hmod
          have hq2 : ((q : Int) % 64 != 56) = false := by simpa using hmod
          clear hq hmod
          go_wp2
          obtain ⟨wb, hwb⟩ : ∃ wb : World, wb = wr := ⟨_, rfl⟩
          subst hwb
          have HZ : Hid (m = (119 - n') % 64) := Lib.hid (by omega)
          obtain ⟨fil, hfil⟩ : ∃ f : List Int, f = rest ++ List.replicate m 0 := ⟨_, rfl⟩
          rw [← hfil] at hO
          have HFE := Lib.hid hfil
          have HFL : Hid (fil.length = q) := Lib.hid (by rw [hfil]; have := HRL.out; have := HQ.out; simp; omega)
          clear hfil hq1 hq2
          have H70 : Hid (Kd.R (Kd.int .u8) 5 wb wa.heap.size (fun _ => True) (.slice A6 q c6) (fil ++ (List.range 0).map (lenB n))) := Lib.hid (by simpa using hO.out)
          have HB70 := Lib.hid hB.out
          clear hO hB
          go_loopw [39, 6] (fun i v wx => ∃ (j p : Nat) (A6 : Option Addr) (c6 : Nat), i = .int .i64 j ∧ v = .slice A6 p c6 ∧ p = q + j ∧ j ≤ 8 ∧ Hid (Kd.R (Kd.int .u8) 5 wx wa.heap.size (fun _ => True) (.slice A6 p c6) (fil ++ (List.range j).map (lenB n))) ∧ Hid (Below wa.heap.size wa wx)) (fun i _ _ => 8 - (intOf i).toNat)
          case atStart => exact ⟨0, q, A6, c6, rfl, rfl, by omega, by omega, H70, HB70⟩
          case round =>
            clear H70 HB70
            obtain ⟨j, p, A6, c6, rfl, rfl, hp, hj, hO, hB⟩ := hrel
            have HP := Lib.hid hp
            have hp200 : p ≤ 136 := by omega
            clear hp
            by_cases hj8 : j < 8
            · have hs1 : 0 ≤ 56 - 8 * (j : Int) := by omega
              have hs2 : 8 * (j : Int) ≤ 56 := by omega
              have hs3 : (56 - 8 * (j : Int)).toNat = 56 - 8 * j := by omega
              go_wp2_with (first
                | ((with_reducible refine gate_builtin (b := .append) (xs := #[.tmp 42, .tmp 49]) rfl ?_); at_builtin; refine Kd.R_append (Kd.int .u8) (w0 := wa) wa.heap.size rfl (.tmp 42) (.tmp 49) 22 5 (.int .u8 0) 1 rfl Try.underlying22 info5 rfl (by decide) (by omega) (.slice A6 p c6) (fil ++ (List.range j).map (lenB n)) (lenB n j) [.int .u8 (lenB n j)] (fun _ => True) (fun _ => False) rfl rfl ?aP (fun _ hk => hk.elim) (fun _ _ => trivial) hO.out hB.out hB.out.size ?aL2 ?_; (case aP => exact rfl); (case aL2 => have := HFL.out; have := HP.out; simp; omega); intro v7 w7 ho7 hb7 hg7 hat7; have HO7 := Aside0.mk ho7; have HB7 := Aside0.mk hb7; clear ho7 hb7 hg7 hat7)
                | fail)
              obtain ⟨A7, c7, hv7, hc7, _⟩ := Kd.R_reads HO7.out
              have hl7 : (fil ++ (List.range j).map (lenB n) ++ [lenB n j]).length = p + 1 := by have := HFL.out; have := HP.out; simp; omega
              rw [hl7] at hv7
              subst hv7
              have he : fil ++ (List.range j).map (lenB n) ++ [lenB n j] = fil ++ (List.range (j + 1)).map (lenB n) := by rw [List.append_assoc, List.range_succ, List.map_append]; rfl
              rw [he] at HO7
              have HO7' := Lib.hid HO7.out
              have HB7' := Lib.hid HB7.out
              clear he hl7 HO7 HB7 hs3
              go_wp2
              go_roundw
              case rel => exact ⟨j + 1, p + 1, A7, c7, by go_num, rfl, by have := HP.out; omega, by omega, HO7', HB7'⟩
              case measure => simp [intOf]; omega
            · have hj8' : j = 8 := by omega
              subst hj8'
              obtain ⟨wc, hwc⟩ : ∃ wc : World, wc = wr := ⟨_, rfl⟩
              subst hwc
              obtain ⟨F, hF⟩ : ∃ F : List Int, F = fil ++ (List.range 8).map (lenB n) := ⟨_, rfl⟩
              rw [← hF] at hO
              have HFF := Lib.hid hF
              have HFl : Hid (F.length = p) := Lib.hid (by rw [hF]; have := HFL.out; have := HP.out; simp; omega)
              have hp64 : p % 64 = 0 := by have := HP.out; have := HQ.out; have := HZ.out; omega
              clear hF
              rw [show ((8 : Nat) : Int) = 8 from rfl]
              have hgsa : gs < wa.heap.size := hS.out.lt
              have hpc : p ≤ c6 := (Kd.R_reads' hO.out).2.1
              obtain ⟨S0, hS0⟩ : ∃ S0, S0 = comeN iv l k := ⟨_, rfl⟩
              rw [← hS0] at hS
              have HS0 := Lib.hid hS0
              have HS08 : Hid (S0.length = 8) := Lib.hid (by rw [hS0, comeN_length]; unfold iv; rfl)
              clear hS0
              have HA0 : Hid (Arr .u32 136 wc gs (comeN S0 F 0)) := Lib.hid (by unfold comeN; exact hS.out.next hB.out)
              go_wp2
              go_loopw [6] (fun v wx => ∃ (i p' : Nat) (A'' : Option Addr) (c'' : Nat), v = .slice A'' p' c'' ∧ p' + 64 * i = p ∧ p' ≤ c'' ∧ Hid (∀ W, Kd.C (Kd.int .u8) W A6 p F → Kd.C (Kd.int .u8) W A'' p' (F.drop (64 * i))) ∧ Hid (Arr .u32 136 wx gs (comeN S0 F i)) ∧ Hid (wc.grownBy wx (some gs))) (fun v _ => match v with | .slice _ n _ => n | _ => 0)
              case atStart => exact ⟨0, p, A6, c6, rfl, by omega, hpc, Lib.hid (fun W h => by simpa using h), HA0, Lib.hid (grown_of_below (Below.refl _ _) _)⟩
              case round =>
                clear HA0
                obtain ⟨i, p', A'', c'', rfl, hpi, hpc', hT, hSS, hGG⟩ := hrel
                have hRx := Kd.R_grown (ok := fun k => k ≠ gs) (Kd.R_mono (Kd.R_bound hO.out) (fun k hk => by have := hk.2.1; omega)) hGG.out (fun k hk e => hk (by injection e))
                have HCx := Lib.hid (hT.out wr (by have := (Kd.R_reads' hRx).2.2; rw [HFl.out] at this; exact this))
                clear hRx
                by_cases hp0 : 64 ≤ p'
                · obtain ⟨hsl1, hC1, A3, hsl2, hC2⟩ := cut64 A'' p' c'' hp0 hpc'
                  have HC1 := Lib.hid (hC1 wr _ HCx.out)
                  have HT2 : Hid (∀ W, Kd.C (Kd.int .u8) W A6 p F → Kd.C (Kd.int .u8) W A3 (p' - 64) (F.drop (64 * (i + 1)))) := Lib.hid (fun W h => by
                    have h2 := hC2 W _ (hT.out W h)
                    rw [List.drop_drop, show 64 * i + 64 = 64 * (i + 1) from by omega] at h2
                    exact h2)
                  clear hC1 hC2
                  have HCL : Hid ((comeN S0 F i).length = 8) := Lib.hid (by rw [comeN_length]; exact HS08.out)
                  have hpp : (0 : Int) < (p' : Int) := by omega
                  go_wp2_with fail
                  have hlen : ((F.drop (64 * i)).take 64).length = 64 := HC1.out.1
                  refine (come_any gs (comeN S0 F i) A'' c'' ((F.drop (64 * i)).take 64) wr hSS.out HCL.out (by rw [hlen]; exact HC1.out) hlen).mono ?_
                  rintro e w' ⟨rfl, hS', hG'⟩
                  have HS2 : Hid (Arr .u32 136 w' gs (comeN S0 F (i + 1))) := Lib.hid (by rw [comeN]; exact hS')
                  have HG2 := Lib.hid (grown_trans hGG.out hG')
                  clear hS' hG' hlen
                  go_wp2
                  go_roundw
                  case rel => exact ⟨i + 1, p' - 64, A3, c'' - 64, rfl, by omega, by omega, HT2, HS2, HG2⟩
                  case measure => simp; omega
                · have hp00 : p' = 0 := by omega
                  subst hp00
                  have hlt32 : w.heap.size < wr.heap.size := by have := hSS.out.lt; omega
                  have hbwc : Below w.heap.size w wc := below_next hbw hB.out
                  have hbwr : Below w.heap.size w wr := pw_below_grown hbwc (some gs) hbwc.size hGG.out (fun k hk => by cases hk; omega)
                  have hA32 : Arr .u8 26 wr w.heap.size (List.replicate 32 0) := Arr.grown ((Arr.grown hA1' hG.out (by omega)).below hB.out (by omega)) hGG.out (by omega)
                  go_wp2_with (first
                    | ((with_reducible refine gate_dst (N := 8) rfl ?_); refine alloc_arr rfl 26 rfl .u8 (List.replicate 32 0) (fun w => Try.zeroValue26 w) (by first | (go_simp; done) | (go_simp; rfl)) ?_; intro wd hAd hBd; have hSd := hSS.out.next hBd; have hA32d := hA32.next hBd; have hbd := below_next hbwr hBd)
                    | fail)
                  obtain ⟨st, hst⟩ : ∃ st, st = comeN S0 F i := ⟨_, rfl⟩
                  rw [← hst] at hSd
                  have HST := Lib.hid hst
                  have HST8 : Hid (st.length = 8) := Lib.hid (by rw [hst, comeN_length]; exact HS08.out)
                  have HII : Hid (i = p / 64) := Lib.hid (by omega)
                  clear hst
                  have hgd : wr.heap.size < wd.heap.size := hAd.lt
                  have hgsd : gs < wr.heap.size := hSS.out.lt
                  generalize wr.heap.size = gd at *
                  have HO0 : Hid (Arr .u8 26 wd gd (outN st 0)) := Lib.hid hAd
                  have HSD := Lib.hid hSd
                  have HA32D := Lib.hid hA32d
                  have HBDD := Lib.hid hbd
                  clear hAd hBd hSd hA32d hbd hA32 hbwr hbwc
                  obtain ⟨we, hwe⟩ : ∃ we : World, we = wr := ⟨_, rfl⟩
                  subst hwe
                  go_loopw [61] (fun i wx => ∃ j : Nat, i = .int .i64 j ∧ j ≤ 32 ∧ Hid (Arr .u8 26 wx gd (outN st j)) ∧ Hid (Below gd wd wx)) (fun i _ => 32 - (intOf i).toNat)
                  case atStart => exact ⟨0, rfl, by omega, HO0, Lib.hid (Below.refl _ _)⟩
                  case round =>
                    clear HO0
                    obtain ⟨j, rfl, hj, hO5, hB5⟩ := hrel
                    have hlen5 := outN_length st j hj
                    by_cases hj32 : j < 32
                    · have hcs := (HSD.out.below hB5.out (by omega)).cellN (j / 4) (by rw [HST8.out]; omega)
                      have hcd := hO5.out.cellN j (by omega)
                      have hfd := hO5.out.free j
                      have hm1 : 0 ≤ 24 - (j : Int) % 4 * 8 := by omega
                      have hm2 : (j : Int) % 4 * 8 ≤ 24 := by omega
                      have hm3 : (24 - (j : Int) % 4 * 8).toNat = 24 - j % 4 * 8 := by omega
                      have hd1 : (j : Int) / 4 < 8 := by omega
                      have HL5 := Lib.hid hlen5
                      clear hlen5
                      go_wp2
                      go_roundw
                      case rel =>
                        refine ⟨j + 1, by go_num, by omega, Lib.hid ?_, Lib.hid (below_setCell hB5.out _ _ (Nat.le_refl _) _)⟩
                        rw [← outN_step st j hj32]
                        exact hO5.out.put j _
                      case measure => simp [intOf]; omega
                    · have hj32' : j = 32 := by omega
                      subst hj32'
                      have HLL := Lib.hid hlen5
                      clear hlen5
                      go_wp2_with (first
                        | ((with_reducible refine gate_dst (N := 79) rfl ?_); refine load_arr rfl 26 _ rfl gd rfl .u8 _ _ _ _ hO5.out Try.underlying26 (by rw [HLL.out]; kernel_rfl) ?_)
                        | ((with_reducible refine gate_store (t := 26) (p := 2) rfl ?_); refine store_arr rfl 26 _ _ rfl w.heap.size .u8 (outN st 32) rfl rfl 26 _ (HA32D.out.below hB5.out hlt32) (by rw [HLL.out]; rfl) (by rw [HLL.out]; kernel_rfl) ?_; intro wz hAz hwz; subst hwz)
                        | fail)
                      have HSF : sumF l = outN st 32 := by
                        have ek : l.length / 64 = k := by have := HN.out; omega
                        have en : l.length % 64 = n' := by have := HN.out; omega
                        have eF : tailF l = F := by
                          rw [HFF.out, HFE.out, HRE.out, HZ.out]
                          unfold tailF
                          rw [ek, en, ← HN.out, List.nil_append]
                        unfold sumF
                        rw [eF, HFl.out, ek, ← HII.out, ← HS0.out, ← HST.out]
                      exact bodyPost_ret (results_arr rfl _ _ w.heap.size .u8 _ _ _ (outN st 32) rfl hAz Try.underlying26 (by rw [HLL.out]; kernel_rfl)) rfl ⟨by rw [HSF], below_setRow (HBDD.out.trans (hB5.out.mono (by omega))) _ (Nat.le_refl _) _⟩
end Go.Proofs.Ytljmjeaocojnmaa.HSa
