/- Contracts of aes's functions, by hand: the rounds' keys. -/
import Derived.Test.YtljmjeaocojnmaaHAb
import Derived.BigRegion
import Derived.Laws.Cover3
set_option linter.unusedVariables false
set_option linter.unusedSimpArgs false
namespace Go.Proofs.Ytljmjeaocojnmaa.HAa
open Go.RowKit Go.Proofs.YtljmjeaocojnmaaW.PrintWords Go.Proofs.YtljmjeaocojnmaaW.PrintLast Go.Proofs.YtljmjeaocojnmaaW.PrintMore Go.Proofs.Ytljmjeaocojnmaa.Kit
attribute [local go_sem ↓] Go.wp_at_zero Go.wp_at_succ
theorem sliceAt_arr {P : Program} (T e N : Nat) (hu : P.underlying T = some (.array N e)) (hi : (P.info? e).map (·.size) = some 1) (g : Nat) (l h : Int) (p q : Nat) (hl : l = p) (hh : h = q) (hpq : p ≤ q) (hqN : q ≤ N) (hpN : p < N) (w : World) :
    (Instr.sliceAt T (.pointer (some ⟨g, 0, none⟩)) (some (.int .i64 l)) (some (.int .i64 h)) none).run P w = .ok (.slice (some ⟨g, p, none⟩) (q - p) (N - p)) w := by
  have e1 : P.arrayLen T = N := by simp [Program.arrayLen, hu]
  have e2 : P.elem T = e := by simp [Program.elem, hu]
  have hq := run_sliceAt_array_lh w T ⟨g, 0, none⟩ (by rw [e1, e2]; exact hu) .i64 .i64 l h (by omega) (by omega) (by rw [e1]; omega)
  rw [hq, e1, e2]
  cases hz : P.info? e with
  | none => simp [hz] at hi
  | some i =>
    have h1 : i.size = 1 := by simpa [hz] using hi
    subst hl hh
    simp [sizeOf, typeInfo, hz, h1, slicedAt, show ¬ N = p from by omega, Addr.add]
    intro h0; omega
def conN : Nat → Int
  | 0 => 1
  | n + 1 => twiceF (conN n)
theorem conN_b : ∀ n, Byte (conN n)
  | 0 => ⟨by decide, by decide⟩
  | n + 1 => twice_b _
/-- the word ahead, turned where a round begins -/
def kT (box o : List Int) (i : Nat) (con : Int) : List Int :=
  if i % 4 = 0 then [Go.bits .xor .u8 (box.getD (o.getD (4 * i - 4 + 1) 0).toNat 0) con, box.getD (o.getD (4 * i - 4 + 2) 0).toNat 0, box.getD (o.getD (4 * i - 4 + 3) 0).toNat 0, box.getD (o.getD (4 * i - 4) 0).toNat 0]
  else four o (4 * i - 4)
def kI (t o : List Int) (i : Nat) : Nat → List Int
  | 0 => o
  | k + 1 => (kI t o i k).set (4 * i + k) (Go.bits .xor .u8 ((kI t o i k).getD (4 * i - 16 + k) 0) (t.getD k 0))
def keyN (key box : List Int) : Nat → List Int
  | 0 => key ++ List.replicate 160 0
  | n + 1 => kI (kT box (keyN key box n) (n + 4) (conN ((n + 3) / 4))) (keyN key box n) (n + 4) 4
theorem kI_length (t o : List Int) (i : Nat) : ∀ n, (kI t o i n).length = o.length
  | 0 => rfl
  | n + 1 => by simp [kI, kI_length t o i n]
theorem keyN_length (key box : List Int) (h : key.length = 16) : ∀ n, (keyN key box n).length = 176
  | 0 => by simp [keyN, h]
  | n + 1 => by simp [keyN, kI_length, keyN_length key box h n]
theorem kT_b (box o : List Int) (i : Nat) (con : Int) (hb : Bytes box) (ho : Bytes o) (hc : Byte con) : Bytes (kT box o i con) := by
  unfold kT
  split
  · intro x hx
    simp only [List.mem_cons, List.not_mem_nil, or_false] at hx
    rcases hx with h | h | h | h
    · rw [h]; exact bxor_b _ _ (byte_at hb _) hc
    · rw [h]; exact byte_at hb _
    · rw [h]; exact byte_at hb _
    · rw [h]; exact byte_at hb _
  · intro x hx
    simp only [four, List.mem_cons, List.not_mem_nil, or_false] at hx
    rcases hx with h | h | h | h <;> (rw [h]; exact byte_at ho _)
theorem kT_length (box o : List Int) (i : Nat) (con : Int) : (kT box o i con).length = 4 := by
  unfold kT
  split <;> rfl
theorem kI_b (t o : List Int) (i : Nat) (ht : Bytes t) (ho : Bytes o) : ∀ k, Bytes (kI t o i k)
  | 0 => ho
  | k + 1 => bytes_set (kI_b t o i ht ho k) _ _ (bxor_b _ _ (byte_at (kI_b t o i ht ho k) _) (byte_at ht _))
theorem keyN_b (key box : List Int) (hk : Bytes key) (hb : Bytes box) : ∀ n, Bytes (keyN key box n)
  | 0 => fun x hx => by
    rcases List.mem_append.1 hx with h | h
    · exact hk x h
    · rw [(List.mem_replicate.1 h).2]; exact ⟨by decide, by decide⟩
  | n + 1 => kI_b _ _ _ (kT_b _ _ _ _ hb (keyN_b key box hk hb n) (conN_b _)) (keyN_b key box hk hb n) 4
attribute [local irreducible] keyN kI kT conN
set_option maxHeartbeats 2000000 in
set_option maxRecDepth 100000 in
theorem keys_any (key box : List Int) (w : World) (h16 : key.length = 16) (h256 : box.length = 256) (hkb : Bytes key) (hbb : Bytes box) :
    Calls Try.prog 86 #[.agg (nums .u8 key).toArray, .agg (nums .u8 box).toArray] w (GivesA .u8 (keyN key box 40) w) := by
  have HL := Lib.hid h16
  have HLB := Lib.hid h256
  have HKB := Lib.hid hkb
  have HBB := Lib.hid hbb
  clear h16 h256 hkb hbb
  go_enter Try.func86, Try.ntmps86
  go_wp2_with (first
    | ((with_reducible refine gate_dst (N := 2) rfl ?_); go_loud (refine arr_new rfl 39 .u8 key (by first | (go_simp; done) | (go_simp; rfl)) ?_); intro w1 hA1 hB1)
    | ((with_reducible refine gate_dst (N := 3) rfl ?_); refine arr_new rfl 138 .u8 box (by first | (go_simp; done) | (go_simp; rfl)) ?_; intro w2 hA2 hB2)
    | ((with_reducible refine gate_dst (N := 4) rfl ?_); refine alloc_arr rfl 140 rfl .u8 (List.replicate 176 0) (fun w => Try.zeroValue140 w) (by first | (go_simp; done) | (go_simp; rfl)) ?_; intro w3 hA3 hB3)
    | ((with_reducible refine gate_dst (N := 5) rfl ?_); refine alloc_arr rfl 140 rfl .u8 (List.replicate 176 0) (fun w => Try.zeroValue140 w) (by first | (go_simp; done) | (go_simp; rfl)) ?_; intro w4 hA4 hB4)
    | fail)
  have hg12 : w.heap.size < w1.heap.size := hA1.lt
  have hg23 : w1.heap.size < w2.heap.size := hA2.lt
  have hg34 : w2.heap.size < w3.heap.size := hA3.lt
  have hA14 := ((hA1.next hB2).next hB3).next hB4
  have HA24 := Lib.hid ((hA2.next hB3).next hB4)
  have HA34 := Lib.hid (hA3.next hB4)
  have HB04 := Lib.hid (below_next (below_next (below_next hB1 hB2) hB3) hB4)
  have HA44 := Lib.hid hA4
  have HA1 := Lib.hid hA14
  have hcp := fun ty => copy_arr (P := Try.prog) w4.drew 22 22 ty 5 w3.heap.size 0 176 176 w.heap.size 0 16 16 16 _ _ hA4.drew hA14.drew Try.underlying22 (by kernel_rfl) rfl (by simp) (by rw [HL.out]; omega)
  clear hA1 hA2 hA3 hA4 hB1 hB2 hB3 hB4 hA14
  generalize w3.heap.size = g5 at *
  generalize w2.heap.size = g4 at *
  generalize w1.heap.size = g3 at *
  generalize hg2 : w.heap.size = g2 at *
  have HG2 := Lib.hid hg2
  clear hg2
  go_region
  go_wp2_with fail
  clear hcp
  have HA5 : Hid (Arr .u8 140 (w4.drew.setCells g5 0 (nums .u8 (key.take 16))) g5 (keyN key box 0)) := Lib.hid (by
    have h := HA44.out.drew.cells (key.take 16) 0 (by simp; omega)
    have e : (List.replicate 176 (0 : Int)).take 0 ++ key.take 16 ++ (List.replicate 176 0).drop (0 + (key.take 16).length) = keyN key box 0 := by
      unfold keyN
      rw [show key.take 16 = key from List.take_of_length_le (by rw [HL.out]; omega), HL.out]
      rfl
    rw [e] at h
    exact h)
  have HA3 : Hid (Arr .u8 138 (w4.drew.setCells g5 0 (nums .u8 (key.take 16))) g3 box) := Lib.hid (Arr.sets_far (w := w4) (by omega) _ _ HA24.out.drew)
  have HA4 : Hid (Arr .u8 140 (w4.drew.setCells g5 0 (nums .u8 (key.take 16))) g4 (List.replicate 176 0)) := Lib.hid (Arr.sets_far (w := w4) (by omega) _ _ HA34.out.drew)
  have HB5 : Hid (Below g2 w (w4.drew.setCells g5 0 (nums .u8 (key.take 16)))) := Lib.hid (below_sets (by omega) _ _ (below_drew HB04.out))
  clear HA44 HA24 HA34 HB04 HA1
  generalize w4.drew.setCells g5 0 (nums .u8 (key.take 16)) = w5 at *
  have HC0 : Hid ((1 : Int) = conN 0) := Lib.hid (by unfold conN; rfl)
  go_loopw [6, 7] (fun cv iv wr => ∃ (n m : Nat) (con : Int), cv = .int .u8 con ∧ iv = .int .i64 m ∧ m = 16 + 4 * n ∧ n ≤ 40 ∧ 0 ≤ con ∧ con < 256 ∧ Hid (con = conN ((n + 3) / 4)) ∧ Hid (Arr .u8 140 wr g5 (keyN key box n)) ∧ Hid (w5.grownBy wr (some g5))) (fun _ iv _ => 176 - (intOf iv).toNat)
  case atStart => exact ⟨0, 16, 1, rfl, rfl, rfl, by omega, by omega, by omega, HC0, HA5, Lib.hid (grown_of_below (Below.refl _ _) _)⟩
  case round =>
    clear HA5 HC0
    obtain ⟨n, m, con, rfl, rfl, hm, hn, hc0, hc1, hcon, hA, hB⟩ := hrel
    have HM := Lib.hid hm
    by_cases hn40 : n < 40
    · have hm1 : 16 ≤ m := by omega
      have hm2 : m ≤ 172 := by omega
      clear hm
      have hsl : ∀ W : World, (Instr.sliceAt 140 (.pointer (some ⟨g5, 0, none⟩)) (some (.int .i64 ((m : Int) - 4))) (some (.int .i64 (m : Int))) none).run Try.prog W = .ok (.slice (some ⟨g5, m - 4, none⟩) 4 (180 - m)) W := fun W => by
        have h := sliceAt_arr (P := Try.prog) 140 5 176 Try.underlying140 (by kernel_rfl) g5 ((m : Int) - 4) (m : Int) (m - 4) m (by omega) rfl (by omega) (by omega) (by omega) W
        rwa [show m - (m - 4) = 4 from by omega, show 176 - (m - 4) = 180 - m from by omega] at h
      have har : ∀ W : World, (Instr.arrayAt 164 (.slice (some ⟨g5, m - 4, none⟩) 4 (180 - m))).run Try.prog W = .ok (.pointer (some ⟨g5, m - 4, none⟩)) W := fun W => run_arrayAt W 164 5 4 _ 4 _ Try.underlying164 (by omega)
      have hlen := keyN_length key box HL.out n
      have hmid := hA.out.mid (m - 4) 4 (by omega)
      rw [four_eq _ _ (by omega)] at hmid
      obtain ⟨O, hO⟩ : ∃ O, O = keyN key box n := ⟨_, rfl⟩
      rw [← hO] at hmid hA
      have HO := Lib.hid hO
      have HOL : Hid (O.length = 176) := Lib.hid (by rw [hO]; exact hlen)
      have HOB : Hid (Bytes O) := Lib.hid (by rw [hO]; exact keyN_b key box HKB.out HBB.out n)
      have HMID := Lib.hid hmid
      have hg5 : g5 < wr.heap.size := hA.out.lt
      have HBX := Lib.hid (HA3.out.grown_ hB.out (by omega))
      clear hO hlen hmid
      by_cases h16 : m % 16 = 0
      focus
        have he16 : ((m : Int) % 16 == 0) = true := by simp; omega
        have H16 := Lib.hid h16
        clear h16
        obtain ⟨t0, ht0⟩ : ∃ x, x = O.getD (m - 4) 0 := ⟨_, rfl⟩
        obtain ⟨t1, ht1⟩ : ∃ x, x = O.getD (m - 4 + 1) 0 := ⟨_, rfl⟩
        obtain ⟨t2, ht2⟩ : ∃ x, x = O.getD (m - 4 + 2) 0 := ⟨_, rfl⟩
        obtain ⟨t3, ht3⟩ : ∃ x, x = O.getD (m - 4 + 3) 0 := ⟨_, rfl⟩
        have hF : four O (m - 4) = [t0, t1, t2, t3] := by rw [ht0, ht1, ht2, ht3]; rfl
        obtain ⟨hl0, hu0⟩ : 0 ≤ t0 ∧ t0 < 256 := by rw [ht0]; exact byte_at HOB.out _
        obtain ⟨hl1, hu1⟩ : 0 ≤ t1 ∧ t1 < 256 := by rw [ht1]; exact byte_at HOB.out _
        obtain ⟨hl2, hu2⟩ : 0 ≤ t2 ∧ t2 < 256 := by rw [ht2]; exact byte_at HOB.out _
        obtain ⟨hl3, hu3⟩ : 0 ≤ t3 ∧ t3 < 256 := by rw [ht3]; exact byte_at HOB.out _
        obtain ⟨b0, hb0⟩ : ∃ x, x = box.getD t0.toNat 0 := ⟨_, rfl⟩
        obtain ⟨b1, hb1⟩ : ∃ x, x = box.getD t1.toNat 0 := ⟨_, rfl⟩
        obtain ⟨b2, hb2⟩ : ∃ x, x = box.getD t2.toNat 0 := ⟨_, rfl⟩
        obtain ⟨b3, hb3⟩ : ∃ x, x = box.getD t3.toNat 0 := ⟨_, rfl⟩
        have HTK : Hid (kT box O (n + 4) con = [Go.bits .xor .u8 b1 con, b2, b3, b0]) := Lib.hid (by
          unfold kT
          rw [if_pos (by have := HM.out; have := H16.out; omega), show 4 * (n + 4) - 4 = m - 4 from by have := HM.out; omega, ← ht0, ← ht1, ← ht2, ← ht3, ← hb0, ← hb1, ← hb2, ← hb3])
        rw [hF] at HMID
        have hbx := fun (W : World) (hW : Arr .u8 138 W g3 box) => show W.cell? ⟨g3, t0.toNat, none⟩ = some (.int .u8 b0) ∧ W.cell? ⟨g3, t1.toNat, none⟩ = some (.int .u8 b1) ∧ W.cell? ⟨g3, t2.toNat, none⟩ = some (.int .u8 b2) ∧ W.cell? ⟨g3, t3.toNat, none⟩ = some (.int .u8 b3) from
          ⟨by rw [hb0]; exact hW.cellN _ (by rw [HLB.out]; omega), by rw [hb1]; exact hW.cellN _ (by rw [HLB.out]; omega), by rw [hb2]; exact hW.cellN _ (by rw [HLB.out]; omega), by rw [hb3]; exact hW.cellN _ (by rw [HLB.out]; omega)⟩
        have HBXF := Lib.hid hbx
        clear hbx hb0 hb1 hb2 hb3 ht0 ht1 ht2 ht3 hF
        go_wp2_with (first
          | ((with_reducible refine gate_dst (N := 23) rfl ?_); refine wpList_load_mid rfl 164 _ rfl g5 (m - 4) rfl (nums .u8 [t0, t1, t2, t3]) _ HMID.out Try.underlying164 rfl (by kernel_rfl) ?_)
          | ((with_reducible refine gate_dst (N := 8) rfl ?_); refine alloc_arr rfl 164 rfl .u8 (List.replicate 4 0) (fun w => Try.zeroValue164 w) (by first | (go_simp; done) | (go_simp; rfl)) ?_; intro w6 hA6 hB6)
          | ((with_reducible refine gate_store (t := 164) (p := 8) rfl ?_); refine store_arr rfl 164 _ _ rfl wr.heap.size .u8 [t0, t1, t2, t3] rfl rfl 164 _ hA6 rfl (by kernel_rfl) ?_; intro w7 hA7 hw7; have hB7 := below_setRow hB6 wr.heap.size (Nat.le_refl _) (nums .u8 [t0, t1, t2, t3]).toArray; rw [← hw7] at hB7; obtain ⟨hx0, hx1, hx2, hx3⟩ := HBXF.out w7 (HBX.out.next hB7); have hy0 := hA7.cellN 0 (by simp); have hy1 := hA7.cellN 1 (by simp); have hy2 := hA7.cellN 2 (by simp); have hy3 := hA7.cellN 3 (by simp); have hz0 := hA7.free 0; have hz1 := hA7.free 1; have hz2 := hA7.free 2; have hz3 := hA7.free 3; simp only [List.getD_cons_zero, List.getD_cons_succ] at hy0 hy1 hy2 hy3; have HA7 := Lib.hid hA7; have HB7 := Lib.hid hB7; clear hw7 hA7 hB7 hA6 hB6)
          | fail)

        go_still_tail 19, (by kernel_rfl)
        obtain ⟨T, hT⟩ : ∃ T : List Int, T = [Go.bits .xor .u8 b1 con, b2, b3, b0] := ⟨_, rfl⟩
        have HT := Lib.hid hT
        refine store_arr (W := w7.drew) rfl 164 _ _ rfl wr.heap.size .u8 T rfl (by rw [hT]; rfl) 164 _ HA7.out.drew (by rw [hT]; rfl) (by rw [hT]; kernel_rfl) ?_
        clear hT
        intro wx hAx hwx
        have hBx : Below wr.heap.size wr wx := by rw [hwx]; exact below_setRow (below_drew HB7.out) _ (Nat.le_refl _) _
        clear hwx
        have HTE : Hid (T = kT box O (n + 4) (conN ((n + 3) / 4))) := Lib.hid (by rw [← hcon.out, HTK.out]; exact HT.out)
        have HTL : Hid (T.length = 4) := Lib.hid (by rw [HT.out]; rfl)
        have HAX := Lib.hid hAx
        have HBX2 := Lib.hid hBx
        clear hAx hBx HTK HT HA7 HB7 hx0 hx1 hx2 hx3 hy0 hy1 hy2 hy3 hz0 hz1 hz2 hz3
        go_wp2_with fail
        refine (twice_any con _ hc0 hc1).mono ?_
        rintro e w' ⟨rfl, rfl⟩
        have HCN : Hid (twiceF con = conN ((n + 1 + 3) / 4)) := Lib.hid (by
          rw [hcon.out, show (n + 1 + 3) / 4 = (n + 3) / 4 + 1 from by have := HM.out; have := H16.out; omega]
          show _ = conN _
          rw [conN])
        have hcb := twice_b con
        generalize twiceF con = con' at *
        go_wp2_with (first
          | ((with_reducible refine gate_dst (N := 48) rfl ?_); refine load_arr rfl 164 _ rfl wr.heap.size rfl .u8 _ _ _ _ HAX.out Try.underlying164 (by rw [HTL.out]; kernel_rfl) ?_)
          | fail)
        clear hcon hc0 hc1
      rotate_left
      focus
        have he16 : ((m : Int) % 16 == 0) = false := by simp; omega
        have H16 := Lib.hid h16
        have HCN : Hid (con = conN ((n + 1 + 3) / 4)) := Lib.hid (by rw [hcon.out, show (n + 1 + 3) / 4 = (n + 3) / 4 from by have := HM.out; omega])
        have hcb : Byte con := ⟨hc0, hc1⟩
        clear h16
        obtain ⟨T, hT⟩ : ∃ T : List Int, T = four O (m - 4) := ⟨_, rfl⟩
        rw [← hT] at HMID
        have HTE : Hid (T = kT box O (n + 4) (conN ((n + 3) / 4))) := Lib.hid (by
          rw [← hcon.out]
          unfold kT
          rw [if_neg (by have := HM.out; have := H16.out; omega), hT, show 4 * (n + 4) - 4 = m - 4 from by have := HM.out; omega])
        have HTL : Hid (T.length = 4) := Lib.hid (by rw [hT]; rfl)
        have HNL : Hid ((nums .u8 T).length = 4) := Lib.hid (by rw [hT]; rfl)
        clear hT
        go_wp2_with (first
          | ((with_reducible refine gate_dst (N := 23) rfl ?_); refine wpList_load_mid rfl 164 _ rfl g5 (m - 4) rfl (nums .u8 T) _ HMID.out Try.underlying164 rfl (by rw [HNL.out]; kernel_rfl) ?_)
          | ((with_reducible refine gate_dst (N := 8) rfl ?_); refine alloc_arr rfl 164 rfl .u8 (List.replicate 4 0) (fun w => Try.zeroValue164 w) (by first | (go_simp; done) | (go_simp; rfl)) ?_; intro w6 hA6 hB6)
          | ((with_reducible refine gate_store (t := 164) (p := 8) rfl ?_); refine store_arr rfl 164 _ _ rfl wr.heap.size .u8 T rfl rfl 164 _ hA6 (by rw [HTL.out]; rfl) (by rw [HTL.out]; kernel_rfl) ?_; intro w' hA7 hw7; have hB7 := below_setRow hB6 wr.heap.size (Nat.le_refl _) (nums .u8 T).toArray; rw [← hw7] at hB7; have HAX := Lib.hid hA7; have HBX2 := Lib.hid hB7; clear hw7 hA7 hB7 hA6 hB6)
          | ((with_reducible refine gate_dst (N := 48) rfl ?_); refine load_arr rfl 164 _ rfl wr.heap.size rfl .u8 _ _ _ _ HAX.out Try.underlying164 (by rw [HTL.out]; kernel_rfl) ?_)
          | fail)
        clear hcon hc0 hc1
        generalize con = con' at *
      all_goals
        have HAk : Hid (Arr .u8 140 w' g5 (kI T O (n + 4) 0)) := Lib.hid (by unfold kI; exact hA.out.next HBX2.out)
        have HBk : Hid (w5.grownBy w' (some g5)) := Lib.hid (grown_below hB.out HBX2.out)
        have HTB : Hid (Bytes T) := Lib.hid (by rw [HTE.out]; exact kT_b _ _ _ _ HBB.out HOB.out (conN_b _))
        have HIL := Lib.hid (fun k => kI_length T O (n + 4) k)
        clear hsl har
        obtain ⟨hcb0, hcb1⟩ := hcb
        go_loopw [49] (fun i wq => ∃ k : Nat, i = .int .i64 k ∧ k ≤ 4 ∧ Hid (Arr .u8 140 wq g5 (kI T O (n + 4) k)) ∧ Hid (w5.grownBy wq (some g5))) (fun i _ => 4 - (intOf i).toNat)
        case atStart => exact ⟨0, rfl, by omega, HAk, HBk⟩
        case round =>
          clear HAk HBk
          rename_i wq _
          obtain ⟨k, rfl, hk, hAk, hBk⟩ := hrel
          by_cases hk4 : k < 4
          · have hix := index_nums (P := Try.prog) 164 5 4 .u8 T k Try.underlying164 Try.underlying5 (by kernel_rfl) HTL.out hk4
            have hc1 := hAk.out.cellN (m - 16 + k) (by rw [HIL.out, HOL.out]; omega)
            have hc2 := hAk.out.cellN (m + k) (by rw [HIL.out, HOL.out]; omega)
            have hf2 := hAk.out.free (m + k)
            have HS : Hid (kI T O (n + 4) (k + 1) = (kI T O (n + 4) k).set (m + k) (Go.bits .xor .u8 ((kI T O (n + 4) k).getD (m - 16 + k) 0) (T.getD k 0))) := Lib.hid (by
              rw [kI, show 4 * (n + 4) + k = m + k from by have := HM.out; omega, show 4 * (n + 4) - 16 + k = m - 16 + k from by have := HM.out; omega])
            have hb1 : (0 : Int) ≤ (m : Int) - 16 + (k : Int) := by omega
            have hb2 : (m : Int) - 16 + (k : Int) < 176 := by omega
            have hb3 : ((m : Int) - 16 + (k : Int)).toNat = m - 16 + k := by omega
            go_wp2
            go_roundw
            case rel => exact ⟨k + 1, by go_num, by omega, Lib.hid (by rw [HS.out]; exact hAk.out.put (m + k) _), Lib.hid (grown_set hBk.out _ _)⟩
            case measure => simp [intOf]; omega
          · have hk' : k = 4 := by omega
            subst hk'
            go_wp2
            go_roundw
            case rel => exact ⟨n + 1, m + 4, con', rfl, by go_num, by have := HM.out; omega, by omega, hcb0, hcb1, HCN, Lib.hid (by rw [keyN, ← HO.out, ← HTE.out]; exact hAk.out), hBk⟩
            case measure => simp [intOf]; omega
    · have hn' : n = 40 := by omega
      subst hn'
      have hm176 : m = 176 := by omega
      subst hm176
      have hlen := keyN_length key box HL.out 40
      obtain ⟨O, hO⟩ : ∃ O, O = keyN key box 40 := ⟨_, rfl⟩
      rw [← hO] at hA hlen ⊢
      have HOL := Lib.hid hlen
      have HO40 := Lib.hid hO
      clear hlen hO
      have HA4r := Lib.hid (HA4.out.grown_ hB.out (by omega))
      have HBr := Lib.hid (below_grown HB5.out (by have := HB5.out.size; have := HG2.out; omega) (by omega) hB.out)
      go_wp2_with (first
        | ((with_reducible refine gate_dst (N := 66) rfl ?_); refine load_arr rfl 140 _ rfl g5 rfl .u8 _ _ _ _ hA.out Try.underlying140 (by rw [HOL.out]; kernel_rfl) ?_)
        | ((with_reducible refine gate_store (t := 140) (p := 4) rfl ?_); refine store_arr rfl 140 _ _ rfl g4 .u8 O rfl rfl 140 _ HA4r.out (by rw [HOL.out]; rfl) (by rw [HOL.out]; kernel_rfl) ?_; intro w8 hA8 hw8; subst hw8)
        | fail)
      exact bodyPost_ret (results_arr rfl _ _ g4 .u8 _ _ _ O rfl hA8 Try.underlying140 (by rw [HOL.out]; kernel_rfl)) rfl ⟨by rw [HO40.out], by rw [HG2.out]; exact below_setRow HBr.out _ (by omega) _⟩
end Go.Proofs.Ytljmjeaocojnmaa.HAa
