/- Texts of this claim, laid together by a program of this session (wip/tools/pack.py); the print's own words among them are those that print.sh OWN=1 lays for the claim, as far as they are named. -/
import Derived.Deep.RegionHeld3
import Derived.IntWalk
import Derived.Laws.IdiomCopy
import Derived.Laws.Bits64
import Derived.Laws.BitsAllLaws
import Derived.Test.YtoiiacbbfhlocaaQB
import Derived.Test.YtoiiacbbfhlocaaQC
import Derived.Test.YtoiiacbbfhlocaaQR
section
section
set_option linter.unusedVariables false
set_option linter.unusedSimpArgs false
namespace Go.Proofs.Ytoiiacbbfhlocaa.HSa
open Go.RowKit Go.Proofs.YtoiiacbbfhlocaaW.PrintWords Go.Proofs.YtoiiacbbfhlocaaW.PrintLast Go.Proofs.YtoiiacbbfhlocaaW.PrintMore Go.Proofs.Ytoiiacbbfhlocaa.Kit Go.Proofs.Ytoiiacbbfhlocaa.Sr
def Tells32 (x : Int) (w : World) (e : Ending) (w' : World) : Prop := e = .returned (.int .u32 x) ∧ w' = w
set_option maxHeartbeats 400000 in
theorem rot_any (x n : Int) (k : Int) (w : World) (hk : Go.bits .and .u64 (IntKind.u64.wrap n) 31 = k) (h0 : 0 ≤ k) (h1 : k ≤ 31) :
    Calls Try.prog 152 #[.int .u32 x, .int .i64 n] w (Tells32 (Go.bits .or .u32 (x * 2 ^ k.toNat % 4294967296) (x / 2 ^ (32 - k).toNat)) w) := by
  go_enter Try.func152, Try.ntmps152
  go_wp2
  go_ret
  exact ⟨rfl, rfl⟩
theorem rot_count (n : Int) (h : n = 6 ∨ n = 11 ∨ n = 25 ∨ n = 2 ∨ n = 13 ∨ n = 22 ∨ n = 7 ∨ n = 18 ∨ n = 17 ∨ n = 19) : Go.bits .and .u64 (IntKind.u64.wrap (-n)) 31 = 32 - n := by
  rcases h with rfl | rfl | rfl | rfl | rfl | rfl | rfl | rfl | rfl | rfl <;> decide +kernel
def rotr (x n : Int) : Int := Go.bits .or .u32 (x * 2 ^ (32 - n).toNat % 4294967296) (x / 2 ^ n.toNat)
set_option maxHeartbeats 400000 in
theorem right_any (x n : Int) (w : World) (h : n = 6 ∨ n = 11 ∨ n = 25 ∨ n = 2 ∨ n = 13 ∨ n = 22 ∨ n = 7 ∨ n = 18 ∨ n = 17 ∨ n = 19) :
    Calls Try.prog 151 #[.int .u32 x, .int .i64 n] w (Tells32 (rotr x n) w) := by
  have h4 := rot_any x (-n) (32 - n) w (rot_count n h) (by omega) (by omega)
  rw [show 32 - (32 - n) = n from by omega] at h4
  have H := Lib.hid h4
  clear h4
  have h2 : 0 ≤ n := by omega
  have h3 : n ≤ 25 := by omega
  clear h
  go_enter Try.func151, Try.ntmps151
  go_wp2_with fail
  refine H.out.mono ?_
  rintro e w' ⟨rfl, rfl⟩
  go_wp2
  go_ret
  exact ⟨rfl, rfl⟩
def consts : List Int := [0x428A2F98, 0x71374491, 0xB5C0FBCF, 0xE9B5DBA5, 0x3956C25B, 0x59F111F1, 0x923F82A4, 0xAB1C5ED5,
  0xD807AA98, 0x12835B01, 0x243185BE, 0x550C7DC3, 0x72BE5D74, 0x80DEB1FE, 0x9BDC06A7, 0xC19BF174,
  0xE49B69C1, 0xEFBE4786, 0x0FC19DC6, 0x240CA1CC, 0x2DE92C6F, 0x4A7484AA, 0x5CB0A9DC, 0x76F988DA,
  0x983E5152, 0xA831C66D, 0xB00327C8, 0xBF597FC7, 0xC6E00BF3, 0xD5A79147, 0x06CA6351, 0x14292967,
  0x27B70A85, 0x2E1B2138, 0x4D2C6DFC, 0x53380D13, 0x650A7354, 0x766A0ABB, 0x81C2C92E, 0x92722C85,
  0xA2BFE8A1, 0xA81A664B, 0xC24B8B70, 0xC76C51A3, 0xD192E819, 0xD6990624, 0xF40E3585, 0x106AA070,
  0x19A4C116, 0x1E376C08, 0x2748774C, 0x34B0BCB5, 0x391C0CB3, 0x4ED8AA4A, 0x5B9CCA4F, 0x682E6FF3,
  0x748F82EE, 0x78A5636F, 0x84C87814, 0x8CC70208, 0x90BEFFFA, 0xA4506CEB, 0xBEF9A3F7, 0xC67178F2]
def GivesArr (k : IntKind) (xs : List Int) (w : World) (e : Ending) (w' : World) : Prop := e = .returned (.agg (nums k xs).toArray) ∧ Below w.heap.size w w'
set_option maxHeartbeats 1000000 in
set_option maxRecDepth 100000 in
theorem constants_any (w : World) : Calls Try.prog 150 #[] w (GivesArr .u32 consts w) := by
  go_enter Try.func150, Try.ntmps150
  go_wp2_with (first
    | ((with_reducible refine gate_dst (N := 0) rfl ?_); refine alloc_arr rfl 214 rfl .u32 (List.replicate 64 0) (fun w => Try.zeroValue214 w) (by first | (go_simp; done) | (go_simp; rfl)) ?_; intro w1 hA hB)
    | ((with_reducible refine gate_store (t := 214) (p := 0) rfl ?_); refine store_arr rfl 214 _ _ rfl w.heap.size .u32 consts rfl rfl 214 _ hA rfl (by kernel_rfl) ?_; intro w2 hA2 hw2; subst hw2)
    | fail)
  exact bodyPost_ret (results_arr rfl _ _ w.heap.size .u32 _ _ _ consts rfl hA2 Try.underlying214 (by kernel_rfl)) rfl ⟨rfl, below_setRow hB _ (Nat.le_refl _) _⟩
def word4 (l : List Int) (i : Nat) : Int :=
  Go.bits .or .u32 (Go.bits .or .u32 (Go.bits .or .u32 (l.getD (4 * i) 0 % 4294967296 * 16777216 % 4294967296) (l.getD (4 * i + 1) 0 % 4294967296 * 65536 % 4294967296)) (l.getD (4 * i + 2) 0 % 4294967296 * 256 % 4294967296)) (l.getD (4 * i + 3) 0 % 4294967296)
def s0 (x : Int) : Int := Go.bits .xor .u32 (Go.bits .xor .u32 (rotr x 7) (rotr x 18)) (x / 8)
def s1 (x : Int) : Int := Go.bits .xor .u32 (Go.bits .xor .u32 (rotr x 17) (rotr x 19)) (x / 1024)
def wordN (m : List Int) (i : Nat) : Int := IntKind.u32.wrap (IntKind.u32.wrap (IntKind.u32.wrap (m.getD (i - 16) 0 + m.getD (i - 7) 0) + s0 (m.getD (i - 15) 0)) + s1 (m.getD (i - 2) 0))
def mstep (l m : List Int) (i : Nat) : List Int := m.set i (if i < 16 then word4 l i else wordN m i)
def msg (l : List Int) : Nat → List Int
  | 0 => List.replicate 64 0
  | i + 1 => mstep l (msg l i) i
theorem msg_length (l : List Int) : ∀ n, (msg l n).length = 64
  | 0 => by simp [msg]
  | n + 1 => by simp [msg, mstep, msg_length l n]
set_option maxHeartbeats 1000000 in
set_option maxRecDepth 100000 in
theorem message_any (A : Option Addr) (c : Nat) (l : List Int) (w : World) (hr : Kd.C (Kd.int .u8) w A l.length l) (hl : l.length = 64) :
    Calls Try.prog 149 #[.slice A 64 c] w (GivesArr .u32 (msg l 64) w) := by
  have HR := Lib.hid hr
  have HL := Lib.hid hl
  clear hr hl
  go_enter Try.func149, Try.ntmps149
  go_wp2_with (first
    | ((with_reducible refine gate_dst (N := 2) rfl ?_); refine alloc_arr rfl 214 rfl .u32 (List.replicate 64 0) (fun w => Try.zeroValue214 w) (by first | (go_simp; done) | (go_simp; rfl)) ?_; intro w1 hA1 hB1)
    | ((with_reducible refine gate_dst (N := 3) rfl ?_); refine alloc_arr rfl 214 rfl .u32 (List.replicate 64 0) (fun w => Try.zeroValue214 w) (by first | (go_simp; done) | (go_simp; rfl)) ?_; intro w2 hA2 hB2)
    | fail)
  have hg1 : w.heap.size ≤ w1.heap.size := hB1.size
  have hlt1 := hA1.lt
  generalize hgg : w1.heap.size = g at *
  have HG := Lib.hid hgg
  clear hgg
  have HA0 : Hid (Arr .u32 214 w2 g (msg l 0)) := Lib.hid hA2
  have HB0 := Lib.hid hB2
  clear hA2 hB2
  go_loopw [7] (fun i wr => ∃ k : Nat, k ≤ 64 ∧ i = .int .i64 k ∧ Hid (Arr .u32 214 wr g (msg l k)) ∧ Hid (Below g w1 wr)) (fun i _ => 64 - (intOf i).toNat)
  case atStart => exact ⟨0, by omega, rfl, HA0, HB0⟩
  case round =>
    clear HA0 HB0
    obtain ⟨k, hk, rfl, hA, hB⟩ := hrel
    by_cases h16 : k < 16
    · obtain ⟨b, off, rfl, hc⟩ := C_cells HR.out (by have := HL.out; omega)
      have hbb : Below w.heap.size w wr := below_next hB1 (by rw [HG.out]; exact hB.out)
      have hq : ∀ j, j < 64 → wr.cell? ⟨b, off + j, none⟩ = some (.int .u8 (l.getD j 0)) := fun j hj => by
        have h := hc j (by have := HL.out; omega)
        exact (hbb.cell (World.block_lt_of_cell? w _ h)).trans h
      have hd0 := hq (4 * k) (by omega)
      have hd1 := hq (4 * k + 1) (by omega)
      have hd2 := hq (4 * k + 2) (by omega)
      have hd3 := hq (4 * k + 3) (by omega)
      clear hc hq
      have hcell := hA.out.cellN k (by rw [msg_length]; omega)
      have hfr := hA.out.free k
      go_wp2
      go_region
      have HM : Hid (msg l (k + 1) = (msg l k).set k (word4 l k)) := Lib.hid (by show mstep l (msg l k) k = _; unfold mstep; rw [if_pos h16])
      all_goals
        go_wp2
        go_roundw
        case rel => exact ⟨k + 1, by omega, by go_num, Lib.hid (by rw [HM.out]; exact (hA.out.put k _).drew), Lib.hid (below_drew (below_setCell hB.out _ _ (Nat.le_refl _) _))⟩
        case measure => simp [intOf]; omega
    · by_cases h64 : k < 64
      · have hlen := msg_length l k
        have hc15 := hA.out.cellN (k - 15) (by omega)
        have hc2 := hA.out.cellN (k - 2) (by omega)
        have hc16 := hA.out.cellN (k - 16) (by omega)
        have hc7 := hA.out.cellN (k - 7) (by omega)
        have hcell := hA.out.cellN k (by omega)
        have hfr := hA.out.free k
        have HL2 := Lib.hid hlen
        clear hlen
        go_wp2
        go_region
        all_goals
          go_wp2_with fail
        have hs16 : ∀ v, (wr.setCell ⟨g, k, none⟩ v).cell? ⟨g, k - 16, none⟩ = some (.int .u32 ((msg l k).getD (k - 16) 0)) := fun v => by
          rw [World.cell?_setCell_other]
          · exact hc16
          · intro e; injection e with _ e; omega
        have hs7 : ∀ v, (wr.setCell ⟨g, k, none⟩ v).cell? ⟨g, k - 7, none⟩ = some (.int .u32 ((msg l k).getD (k - 7) 0)) := fun v => by
          rw [World.cell?_setCell_other]
          · exact hc7
          · intro e; injection e with _ e; omega
        have hb16 : (0 : Int) ≤ (k : Int) - 16 := by omega
        have hb7 : (0 : Int) ≤ (k : Int) - 7 := by omega
        have hb16' : (16 : Int) ≤ (k : Int) := by omega
        have hb7' : (7 : Int) ≤ (k : Int) := by omega
        have hu16' : (k : Int) < 80 := by omega
        have hu7' : (k : Int) < 71 := by omega
        have hu16 : (k : Int) - 16 < 64 := by omega
        have hu7 : (k : Int) - 7 < 64 := by omega
        have ht16 : ((k : Int) - 16).toNat = k - 16 := by omega
        have ht7 : ((k : Int) - 7).toNat = k - 7 := by omega
        have hw16 : IntKind.i64.wrap ((k : Int) - 16) = (k : Int) - 16 := IntWalk.i64_in _ (by omega)
        have hw7 : IntKind.i64.wrap ((k : Int) - 7) = (k : Int) - 7 := IntWalk.i64_in _ (by omega)
        have HM : Hid (msg l (k + 1) = (msg l k).set k (wordN (msg l k) k)) := Lib.hid (by show mstep l (msg l k) k = _; unfold mstep; rw [if_neg h16])
        go_region_held3 (fun w' => w'.cell? ⟨g, k - 16, none⟩ = some (.int .u32 ((msg l k).getD (k - 16) 0)) ∧ w'.cell? ⟨g, k - 7, none⟩ = some (.int .u32 ((msg l k).getD (k - 7) 0)))
          (first | go_keep | exact ⟨hs16 _, hs7 _⟩)
          ((go_at_call 151; refine (right_any _ _ _ (by omega)).mono ?_; rintro e w' ⟨rfl, rfl⟩))
        clear hs16 hs7 hw16 hw7 ht16 ht7
        go_wp2
        go_roundw
        case rel => exact ⟨k + 1, by omega, by go_num, Lib.hid (by rw [HM.out]; exact (hA.out.put k _).drew.drew), Lib.hid (below_drew (below_drew (below_setCell hB.out _ _ (Nat.le_refl _) _)))⟩
        case measure => simp [intOf]; omega
      · have hk64 : k = 64 := by omega
        subst hk64
        go_wp2_with (first
          | ((with_reducible refine gate_dst (N := 85) rfl ?_); refine load_arr rfl 214 _ rfl g rfl .u32 _ _ _ _ hA.out Try.underlying214 (by rw [msg_length]; kernel_rfl) ?_)
          | ((with_reducible refine gate_store (t := 214) (p := 2) rfl ?_); refine store_arr rfl 214 _ _ rfl w.heap.size .u32 (msg l 64) rfl rfl 214 _ (hA1.below (by exact hB.out) hlt1) (by rw [msg_length]; rfl) (by rw [msg_length]; kernel_rfl) ?_; intro w3 hA3 hw3; subst hw3)
          | fail)
        exact bodyPost_ret (results_arr rfl _ _ w.heap.size .u32 _ _ _ (msg l 64) rfl hA3 Try.underlying214 (by rw [msg_length]; kernel_rfl)) rfl ⟨rfl, below_setRow (below_next hB1 (by rw [HG.out]; exact hB.out)) _ (Nat.le_refl _) _⟩
end Go.Proofs.Ytoiiacbbfhlocaa.HSa
end
section
set_option linter.unusedVariables false
set_option linter.unusedSimpArgs false
namespace Go.Proofs.Ytoiiacbbfhlocaa.HSa
open Go.RowKit Go.Proofs.YtoiiacbbfhlocaaW.PrintWords Go.Proofs.YtoiiacbbfhlocaaW.PrintLast Go.Proofs.YtoiiacbbfhlocaaW.PrintMore Go.Proofs.Ytoiiacbbfhlocaa.Kit Go.Proofs.Ytoiiacbbfhlocaa.Sr
def big1 (e : Int) : Int := Go.bits .xor .u32 (Go.bits .xor .u32 (rotr e 6) (rotr e 11)) (rotr e 25)
def big0 (a : Int) : Int := Go.bits .xor .u32 (Go.bits .xor .u32 (rotr a 2) (rotr a 13)) (rotr a 22)
def oneS (v : List Int) (c m : Int) : Int :=
  v.getD 7 0 + big1 (v.getD 4 0) + Go.bits .xor .u32 (Go.bits .and .u32 (v.getD 4 0) (v.getD 5 0)) (Go.bits .andNot .u32 (v.getD 6 0) (v.getD 4 0)) + c + m
def twoS (v : List Int) : Int :=
  big0 (v.getD 0 0) + Go.bits .xor .u32 (Go.bits .xor .u32 (Go.bits .and .u32 (v.getD 0 0) (v.getD 1 0)) (Go.bits .and .u32 (v.getD 0 0) (v.getD 2 0))) (Go.bits .and .u32 (v.getD 1 0) (v.getD 2 0))
def vstep (m v : List Int) (i : Nat) : List Int :=
  [(oneS v (consts.getD i 0) (m.getD i 0) + twoS v) % 4294967296, v.getD 0 0, v.getD 1 0, v.getD 2 0, (v.getD 3 0 + oneS v (consts.getD i 0) (m.getD i 0)) % 4294967296, v.getD 4 0, v.getD 5 0, v.getD 6 0]
def vloop (m s : List Int) : Nat → List Int
  | 0 => s
  | i + 1 => vstep m (vloop m s i) i
theorem vloop_length (m s : List Int) (hs : s.length = 8) : ∀ n, (vloop m s n).length = 8
  | 0 => hs
  | n + 1 => rfl
def adds (s v : List Int) : Nat → List Int
  | 0 => s
  | i + 1 => (adds s v i).set i (IntKind.u32.wrap ((adds s v i).getD i 0 + v.getD i 0))
theorem adds_length (s v : List Int) : ∀ n, (adds s v n).length = s.length
  | 0 => rfl
  | n + 1 => by simp [adds, adds_length s v n]
def comeF (s l : List Int) : List Int := adds s (vloop (msg l 64) s 64) 8
theorem comeF_length (s l : List Int) : (comeF s l).length = s.length := adds_length _ _ _
structure ComeEnd (w : World) (gs : Nat) (xs : List Int) (e : Ending) (w' : World) : Prop where
  he : e = .returned (.tuple #[])
  arr : Arr .u32 213 w' gs xs
  grown : w.grownBy w' (some gs)
theorem run_index_nums {P : Program} (T e n : Nat) (k : IntKind) (xs : List Int) (j : Nat) (hu : P.underlying T = some (.array n e)) (he : P.underlying e = some (.int k)) (hi : (P.info? e).map (·.size) = some 1) (hl : xs.length = n) (hj : j < n) (w : World) :
    (Instr.index T (.agg (nums k xs).toArray) (.int .i64 (j : Int))).run P w = .ok (.int k (xs.getD j 0)) w := by
  cases hq : P.info? e with
  | none => simp [hq] at hi
  | some i =>
    have h1 : i.size = 1 := by simpa [hq] using hi
    have hjx : j < xs.length := by omega
    simp [Instr.index, run_underlying hu, sizeOf, typeInfo, hq, h1, asIntOf, hj, part, isAgg, run_underlying he, nums, hjx]
theorem grown_setCell {w W : World} {g : Nat} (h : w.grownBy W (some g)) (j : Nat) (v : Value) : w.grownBy (W.setCell ⟨g, j, none⟩ v) (some g) :=
  ⟨h.os, h.tape, h.output, by simpa using h.size, fun i hi hne => (Go.heap_setCell_other W _ i v (fun e => hne (by rw [e]))).trans (h.block i hi hne)⟩
theorem grown_drew {w W : World} {r : Option Nat} (h : w.grownBy W r) : w.grownBy W.drew r := ⟨h.os, h.tape, h.output, h.size, h.block⟩
theorem below_setCells {B : Nat} {g : Nat} (hg : B ≤ g) : ∀ (cs : List Value) (o : Nat) {w W : World}, Below B w W → Below B w (W.setCells g o cs)
  | [], _, _, _, h => h
  | c :: cs, o, _, _, h => below_setCells hg cs (o + 1) (h.setCell hg c)
attribute [local irreducible] msg vloop adds comeF consts
set_option maxHeartbeats 2000000 in
set_option maxRecDepth 100000 in
theorem come_any (gs : Nat) (s : List Int) (A : Option Addr) (c : Nat) (l : List Int) (w : World) (hs : Arr .u32 213 w gs s) (hs8 : s.length = 8) (hr : Kd.C (Kd.int .u8) w A l.length l) (hl : l.length = 64) :
    Calls Try.prog 148 #[.pointer (some ⟨gs, 0, none⟩), .slice A 64 c] w (ComeEnd w gs (comeF s l)) := by
  have HM := Lib.hid (message_any A c l w hr hl)
  have HS8 := Lib.hid hs8
  clear hr hl hs8
  go_enter Try.func148, Try.ntmps148
  go_wp2_with fail
  refine HM.out.mono ?_
  rintro e w1 ⟨rfl, hB1⟩
  go_wp2_with fail
  refine (constants_any w1).mono ?_
  rintro e w2 ⟨rfl, hB2⟩
  have hB02 := below_next hB1 hB2
  have hs2 := hs.next hB02
  clear hB1 hB2
  have hgs := hs2.lt
  go_wp2_with (first
    | ((with_reducible refine gate_dst (N := 4) rfl ?_); refine alloc_arr rfl 214 rfl .u32 (List.replicate 64 0) (fun w => Try.zeroValue214 w) (by first | (go_simp; done) | (go_simp; rfl)) ?_; intro w3 hA3 hB3; have hs3 := hs2.next hB3)
    | ((with_reducible refine gate_dst (N := 5) rfl ?_); refine alloc_arr rfl 214 rfl .u32 (List.replicate 64 0) (fun w => Try.zeroValue214 w) (by first | (go_simp; done) | (go_simp; rfl)) ?_; intro w4 hA4 hB4; have hA34 := hA3.next hB4; have hs4 := hs3.next hB4; have hg24 := hA3.lt; have hsz4 := hA4.lt; have hB24 := below_next hB3 hB4)
    | ((with_reducible refine gate_store (t := 214) (p := 4) rfl ?_); refine store_arr rfl 214 _ _ rfl w2.heap.size .u32 (msg l 64) rfl rfl 214 _ hA34 (by rw [msg_length]; rfl) (by rw [msg_length]; kernel_rfl) ?_; intro w5 hA5 hw5; have hA45 : Arr .u32 214 w5 w3.heap.size (List.replicate 64 0) := (by rw [hw5]; exact hA4.setRow_far _ (by omega) _); have hs5 : Arr .u32 213 w5 gs s := (by rw [hw5]; exact hs4.setRow_far _ (by omega) _); have hB5 : Below w2.heap.size w2 w5 := (by rw [hw5]; exact below_setRow hB24 _ (Nat.le_refl _) _); have hz5 : w3.heap.size < w5.heap.size := hA45.lt; clear hw5)
    | ((with_reducible refine gate_store (t := 214) (p := 5) rfl ?_); refine store_arr rfl 214 _ _ rfl w3.heap.size .u32 consts rfl rfl 214 _ hA45 (by unfold consts; rfl) (by unfold consts; kernel_rfl) ?_; intro w6 hA6 hw6; have hm6 : Arr .u32 214 w6 w2.heap.size (msg l 64) := (by rw [hw6]; exact hA5.setRow_far _ (by omega) _); have hs6 : Arr .u32 213 w6 gs s := (by rw [hw6]; exact hs5.setRow_far _ (by omega) _); have hB6 : Below w2.heap.size w2 w6 := (by rw [hw6]; exact below_setRow hB5 _ (by omega) _); have hz6 : w3.heap.size < w6.heap.size := hA6.lt; clear hw6)
    | ((with_reducible refine gate_dst (N := 19) rfl ?_); refine load_arr rfl 213 _ rfl gs rfl .u32 _ _ _ _ hs6 Try.underlying213 (by rw [HS8.out]; kernel_rfl) ?_)
    | ((with_reducible refine gate_dst (N := 6) rfl ?_); refine alloc_arr rfl 213 rfl .u32 (List.replicate 8 0) (fun w => Try.zeroValue213 w) (by first | (go_simp; done) | (go_simp; rfl)) ?_; intro w7 hA7 hB7)
    | ((with_reducible refine gate_store (t := 213) (p := 6) rfl ?_); refine store_arr rfl 213 _ _ rfl w6.heap.size .u32 s rfl rfl 213 _ hA7 (by rw [HS8.out]; rfl) (by rw [HS8.out]; kernel_rfl) ?_; intro w8 hA8 hw8; have hm8 : Arr .u32 214 w8 w2.heap.size (msg l 64) := (by rw [hw8]; exact (hm6.next hB7).setRow_far _ (by omega) _); have hc8 : Arr .u32 214 w8 w3.heap.size consts := (by rw [hw8]; exact (hA6.next hB7).setRow_far _ (by omega) _); have hs8 : Arr .u32 213 w8 gs s := (by rw [hw8]; exact (hs6.next hB7).setRow_far _ (by omega) _); have hB8 : Below w2.heap.size w2 w8 := (by rw [hw8]; exact below_setRow (below_then hB6 hB6.size hB7) _ (by omega) _); clear hw8)
    | fail)
  have hw02 : w.heap.size ≤ w2.heap.size := hB02.size
  generalize hgmE : w2.heap.size = gm at *
  have HGM := Lib.hid hgmE
  clear hgmE
  generalize w3.heap.size = gc at *
  generalize w6.heap.size = gv at *
  obtain ⟨M, hM⟩ : ∃ M, M = msg l 64 := ⟨_, rfl⟩
  rw [← hM] at hm8
  have hM64 : M.length = 64 := by rw [hM, msg_length]
  have HMM := Lib.hid hM
  have HM64 := Lib.hid hM64
  clear hM hM64
  have HA0 : Hid (Arr .u32 213 w8 gv (vloop M s 0)) := Lib.hid (by unfold vloop; exact hA8)
  clear hA8
  go_loopw [20] (fun i wr => ∃ k : Nat, k ≤ 64 ∧ i = .int .i64 k ∧ Hid (Arr .u32 213 wr gv (vloop M s k)) ∧ Hid (Below gv w8 wr)) (fun i _ => 64 - (intOf i).toNat)
  case atStart => exact ⟨0, by omega, rfl, HA0, Lib.hid (Below.refl _ _)⟩
  case round =>
    clear HA0
    obtain ⟨k, hk, rfl, hA, hB⟩ := hrel
    have hVlen := vloop_length M s HS8.out k
    have HVS : Hid (vloop M s (k + 1) = vstep M (vloop M s k) k) := Lib.hid (by rw [vloop])
    have HCV : Hid (k = 64 → comeF s l = adds s (vloop M s k) 8) := Lib.hid (fun e => by rw [e, HMM.out]; unfold comeF; rfl)
    generalize vloop M s k = V at *
    have HV8 := Lib.hid hVlen
    clear hVlen
    by_cases h64 : k < 64
    · have hv0 := hA.out.cellN 0 (by rw [HV8.out]; omega)
      have hv1 := hA.out.cellN 1 (by rw [HV8.out]; omega)
      have hv2 := hA.out.cellN 2 (by rw [HV8.out]; omega)
      have hv4 := hA.out.cellN 4 (by rw [HV8.out]; omega)
      have hv5 := hA.out.cellN 5 (by rw [HV8.out]; omega)
      have hv6 := hA.out.cellN 6 (by rw [HV8.out]; omega)
      have hv7 := hA.out.cellN 7 (by rw [HV8.out]; omega)
      have hmk := (hm8.below hB.out (by omega)).cellN k (by rw [HM64.out]; omega)
      have hck := (hc8.below hB.out (by omega)).cellN k (by unfold consts; simp; omega)
      have hk0 : (0 : Int) ≤ (k : Int) := by omega
      go_wp2
      go_region
      go_wp2_with fail
      go_region_held3 (fun w' => w'.cell? ⟨gv, 7, none⟩ = some (.int .u32 (V.getD 7 0)) ∧ w'.cell? ⟨gv, 5, none⟩ = some (.int .u32 (V.getD 5 0)) ∧ w'.cell? ⟨gv, 6, none⟩ = some (.int .u32 (V.getD 6 0)) ∧ w'.cell? ⟨gm, k, none⟩ = some (.int .u32 (M.getD k 0)) ∧ w'.cell? ⟨gc, k, none⟩ = some (.int .u32 (consts.getD k 0)))
        (go_keep)
        ((go_at_call 151; refine (right_any _ _ _ (by omega)).mono ?_; rintro e w' ⟨rfl, rfl⟩))
      go_wp2_with fail
      go_region_held3 (fun w' => w'.cell? ⟨gv, 1, none⟩ = some (.int .u32 (V.getD 1 0)) ∧ w'.cell? ⟨gv, 2, none⟩ = some (.int .u32 (V.getD 2 0)))
        (go_keep)
        ((go_at_call 151; refine (right_any _ _ _ (by omega)).mono ?_; rintro e w' ⟨rfl, rfl⟩))
      go_wp2_with fail
      have hsh : ∃ V' : List Int, V' = [V.getD 0 0, V.getD 0 0, V.getD 1 0, V.getD 2 0, V.getD 3 0, V.getD 4 0, V.getD 5 0, V.getD 6 0] ∧ V.take 1 ++ V.take 7 ++ V.drop (1 + (V.take 7).length) = V' := by
        have hl := HV8.out
        match V, hl with
        | [a0, a1, a2, a3, a4, a5, a6, a7], _ => exact ⟨_, rfl, rfl⟩
      obtain ⟨V', hV', hV'2⟩ := hsh
      have hA9 := hA.out.drew.drew.drew.drew.cells (V.take 7) 1 (by rw [List.length_take, HV8.out]; omega)
      rw [hV'2] at hA9
      have hB9 : Below gv w8 (wr.drew.drew.drew.drew.setCells gv 1 (nums .u32 (V.take 7))) := below_setCells (Nat.le_refl _) _ _ (below_drew (below_drew (below_drew (below_drew hB.out))))
      have HA9 := Lib.hid hA9
      have HB9 := Lib.hid hB9
      have HVV := Lib.hid hV'
      clear hA9 hB9 hV'2 hV'
      have hcp := fun ty => run_copy_cells (P := Try.prog) wr.drew.drew.drew.drew 168 168 ty 179 gv 1 7 7 ⟨gv, 0, none⟩ 7 8 (nums .u32 (V.take 7)) Try.underlying168 (by kernel_rfl) (by simp [nums, HV8.out])
        (fun j v hj => by rw [add_plain]; have := hA.out.drew.drew.drew.drew.range j v (by
          have h7 : j < 7 := by have := (List.getElem?_eq_some_iff.1 hj).1; simp [nums] at this; omega
          rw [← hj]; simp [nums, List.getElem?_take, h7]); simpa using this)
        (fun j hj => by rw [hA.out.drew.drew.drew.drew.cellN (1 + j) (by simp [nums] at hj; rw [HV8.out]; omega)]; rfl) (fun j hj => hA.out.drew.drew.drew.drew.free _) (fun v hv => by simp only [nums, List.mem_map] at hv; obtain ⟨x, _, rfl⟩ := hv; rfl)
      clear hv0 hv1 hv2 hv4 hv5 hv6 hv7 hmk hck
      go_region
      clear hcp
      generalize wr.drew.drew.drew.drew.setCells gv 1 (nums .u32 (V.take 7)) = W9 at *
      rw [HVV.out] at HA9
      have h94 := HA9.out.cellN 4 (by simp)
      have h90 := HA9.out.cellN 0 (by simp)
      have hf4 := HA9.out.free 4
      have hf0 := HA9.out.free 0
      have hne : V'.length = V'.length := rfl
      clear hne
      go_wp2
      go_roundw
      case rel =>
        refine ⟨k + 1, by omega, by go_num, Lib.hid ?_, Lib.hid (below_setCell (below_setCell HB9.out _ _ (Nat.le_refl _) _) _ _ (Nat.le_refl _) _)⟩
        rw [HVS.out]
        exact (HA9.out.put 4 _).put 0 _
      case measure => simp [intOf]; omega
    · have hk64 : k = 64 := by omega
      subst hk64
      go_wp2_with (first
        | ((with_reducible refine gate_dst (N := 93) rfl ?_); refine load_arr rfl 213 _ rfl gv rfl .u32 _ _ _ _ hA.out Try.underlying213 (by rw [HV8.out]; kernel_rfl) ?_)
        | fail)
      have hgw : gs < w.heap.size := hs.lt
      have hS0 : Hid (Arr .u32 213 wr gs (adds s V 0)) := Lib.hid (by unfold adds; exact hs8.below hB.out (by omega))
      have hK0 : Hid (w.grownBy wr (some gs)) := Lib.hid (by
        have h8 : Below w.heap.size w w8 := below_next hB02 (by rw [HGM.out]; exact hB8)
        exact grown_of_below (h8.trans (hB.out.mono (by omega))) _)
      go_loopw [94] (fun i wx => ∃ j : Nat, j ≤ 8 ∧ i = .int .i64 j ∧ Hid (Arr .u32 213 wx gs (adds s V j)) ∧ Hid (w.grownBy wx (some gs))) (fun i _ => 8 - (intOf i).toNat)
      case atStart => exact ⟨0, by omega, rfl, hS0, hK0⟩
      case round =>
        clear hS0 hK0
        rename_i wx _
        obtain ⟨j, hj, rfl, hS, hK⟩ := hrel
        have hal := adds_length s V j
        have HAS : Hid (adds s V (j + 1) = (adds s V j).set j (IntKind.u32.wrap ((adds s V j).getD j 0 + V.getD j 0))) := Lib.hid (by rw [adds])
        have HC : Hid (j = 8 → comeF s l = adds s V j) := Lib.hid (fun e => by rw [e]; exact HCV.out (by first | trivial | rfl))
        generalize adds s V j = S at *
        have HAL := Lib.hid hal
        clear hal
        by_cases hj8 : j < 8
        · have hcj := hS.out.cellN j (by rw [HAL.out, HS8.out]; omega)
          have hfj := hS.out.free j
          have hix := run_index_nums (P := Try.prog) 213 179 8 .u32 V j Try.underlying213 Try.underlying179 (by kernel_rfl) HV8.out hj8
          go_wp2
          go_region
          go_wp2
          go_roundw
          case rel =>
            refine ⟨j + 1, by omega, by go_num, Lib.hid ?_, Lib.hid (grown_drew (grown_setCell hK.out _ _))⟩
            rw [HAS.out]
            exact (hS.out.put j _).drew
          case measure => simp [intOf]; omega
        · have hj8 : j = 8 := by omega
          subst hj8
          go_wp2
          go_end0
          exact ⟨rfl, by rw [HC.out (by first | trivial | rfl)]; exact hS.out, hK.out⟩
end Go.Proofs.Ytoiiacbbfhlocaa.HSa
end
end
section
set_option linter.unusedVariables false
set_option linter.unusedSimpArgs false
namespace Go.Proofs.Ytoiiacbbfhlocaa.HSa
open Go.RowKit Go.Proofs.YtoiiacbbfhlocaaW.PrintWords Go.Proofs.YtoiiacbbfhlocaaW.PrintLast Go.Proofs.YtoiiacbbfhlocaaW.PrintMore Go.Proofs.Ytoiiacbbfhlocaa.Kit Go.Proofs.Ytoiiacbbfhlocaa.Sr
theorem info5 : (Try.prog.info? 5).map (fun i => (i.zero, i.size, i.bytes)) = some (some (.int .u8 0), 1, 1) := by kernel_rfl
def iv : List Int := [0x6A09E667, 0xBB67AE85, 0x3C6EF372, 0xA54FF53A, 0x510E527F, 0x9B05688C, 0x1F83D9AB, 0x5BE0CD19]
def comeN (s l : List Int) : Nat → List Int
  | 0 => s
  | k + 1 => comeF (comeN s l k) ((l.drop (64 * k)).take 64)
theorem comeN_length (s l : List Int) : ∀ n, (comeN s l n).length = s.length
  | 0 => rfl
  | n + 1 => by simp [comeN, comeF_length, comeN_length s l n]
theorem cut64 (A : Option Addr) (n c : Nat) (hn : 64 ≤ n) (hc : n ≤ c) :
    (∀ W : World, (Instr.slice 29 (.slice A n c) none (some (.int .i64 64)) none).run Try.prog W = .ok (.slice A 64 c) W) ∧
    (∀ (w : World) (l : List Int), Kd.C (Kd.int .u8) w A n l → Kd.C (Kd.int .u8) w A 64 (l.take 64)) ∧
    ∃ A', (∀ W : World, (Instr.slice 29 (.slice A n c) (some (.int .i64 64)) none none).run Try.prog W = .ok (.slice A' (n - 64) (c - 64)) W) ∧
      (∀ (w : World) (l : List Int), Kd.C (Kd.int .u8) w A n l → Kd.C (Kd.int .u8) w A' (n - 64) (l.drop 64)) := by
  obtain ⟨i0, hi, hz0, hz1, hz2⟩ := info_parts info5
  obtain ⟨A', h1, h2⟩ := print_cut (P := Try.prog) 29 5 .i64 Try.underlying29 hi hz1 A n c 64 hn
  refine ⟨?_, ?_, A', h1, ?_⟩
  · intro W
    have hx : (List.replicate n (0 : Int)).length = n := by simp
    have h3 := (print_take_int (P := Try.prog) (k := .u8) 29 5 Try.underlying29 hi hz1 A c (List.replicate n 0) 64 (by omega) (by simp; omega) (by simp; omega)).1 W
    simpa [Nat.min_eq_left hn] using h3
  · intro w l hr
    have hl : l.length = n := hr.1
    have h3 := (print_take_int (P := Try.prog) (k := .u8) 29 5 Try.underlying29 hi hz1 A c l 64 (by omega) (by omega) (by omega)).2.1 w (by rw [hl]; exact Kd.reads_of_C (enc := Value.int .u8) (d := (0 : Int)) (h1 := fun _ => rfl) hr)
    have h4 := Kd.C_of_reads (enc := Value.int .u8) (d := (0 : Int)) (h1 := fun _ => rfl) h3
    have e : (l.take (64 : Int).toNat).length = 64 := by simp; omega
    rw [e] at h4
    exact h4
  · intro w l hr
    have h3 := h2 w .u8 l hc (Kd.reads_of_C (enc := Value.int .u8) (d := (0 : Int)) (h1 := fun _ => rfl) hr)
    exact Kd.C_of_reads (enc := Value.int .u8) (d := (0 : Int)) (h1 := fun _ => rfl) h3
theorem new_arr {P : Program} {ops : Array Oper} {rest : List Oper} {o : Oper} {a : Act} {Q : Exit → Act → World → Prop} {W : World} (hgd : o.guard = none) (T : TypeId) (k : IntKind) (xs : List Int)
    (hrun : (execOp a.eval o).run P W = .ok (.value (.pointer (some ⟨W.heap.size, 0, none⟩))) (W.alloc (.cells (nums k xs).toArray T)))
    (h : ∀ w1, Arr k T w1 W.heap.size xs → Below W.heap.size W w1 → wpList P ops Q rest (a.put o.dst (.pointer (some ⟨W.heap.size, 0, none⟩))) w1) : wpList P ops Q (o :: rest) a W :=
  Kd.event_run hgd hrun (h _ (Arr.new W k T xs) (below_alloc (Below.refl _ _) _))
def lenB (n j : Nat) : Int := (n : Int) * 8 / 2 ^ (56 - 8 * j) % 256
def outB (st : List Int) (j : Nat) : Int := st.getD (j / 4) 0 / 2 ^ (24 - j % 4 * 8) % 256
def outN (st : List Int) (j : Nat) : List Int := (List.range j).map (outB st) ++ List.replicate (32 - j) 0
theorem outN_length (st : List Int) (j : Nat) (hj : j ≤ 32) : (outN st j).length = 32 := by simp [outN]; omega
theorem outN_step (st : List Int) (j : Nat) (hj : j < 32) : (outN st j).set j (outB st j) = outN st (j + 1) := by
  unfold outN
  have e : List.replicate (32 - j) (0 : Int) = 0 :: List.replicate (32 - (j + 1)) 0 := by rw [show 32 - j = (32 - (j + 1)) + 1 from by omega, List.replicate_succ]
  rw [e, List.set_append_right _ _ (by simp)]
  simp [List.range_succ]
def tailF (l : List Int) : List Int :=
  l.drop (64 * (l.length / 64)) ++ [128] ++ List.replicate ((119 - l.length % 64) % 64) 0 ++ (List.range 8).map (lenB l.length)
def sumF (l : List Int) : List Int := outN (comeN (comeN iv l (l.length / 64)) (tailF l) ((tailF l).length / 64)) 32
theorem grown_trans {w W W1 : World} {r : Option Nat} (h : w.grownBy W r) (h' : W.grownBy W1 r) : w.grownBy W1 r :=
  ⟨h'.os.trans h.os, h'.tape.trans h.tape, h'.output.trans h.output, Nat.le_trans h.size h'.size, fun i hi hne => (h'.block i (Nat.lt_of_lt_of_le hi h.size) hne).trans (h.block i hi hne)⟩
theorem Arr.grown {k : IntKind} {T : TypeId} {w w1 : World} {g gs : Nat} {xs : List Int} (h : Arr k T w g xs) (hg : w.grownBy w1 (some gs)) (hne : g ≠ gs) : Arr k T w1 g xs := ⟨(hg.block g h.lt (fun e => hne (by injection e))).trans h.out⟩
attribute [local irreducible] comeN comeF iv
set_option maxHeartbeats 2000000 in
set_option maxRecDepth 100000 in
theorem sum_any (A : Option Addr) (c : Nat) (l : List Int) (w : World) (hr : Kd.C (Kd.int .u8) w A l.length l) (hc : l.length ≤ c) (hl : l.length ≤ 1000000) :
    Calls Try.prog 144 #[.slice A l.length c] w (GivesArr .u8 (sumF l) w) := by
  have HR := Lib.hid hr
  obtain ⟨n, hn⟩ : ∃ n, n = l.length := ⟨_, rfl⟩
  have HN := Lib.hid hn
  rw [← hn] at hc hl ⊢
  clear hr hn
  have hmf : ∀ (fn : Fn) (first cap : Array Value) (w : World), (Instr.makeFunc fn first cap).run Try.prog w = .ok (.func fn first cap) w := fun _ _ _ _ => rfl
  go_enter Try.func144, Try.ntmps144
  go_wp2_with (first
    | ((with_reducible refine gate_dst (N := 2) rfl ?_); refine alloc_arr rfl 23 rfl .u8 (List.replicate 32 0) (fun w => Try.zeroValue23 w) (by first | (go_simp; done) | (go_simp; rfl)) ?_; intro w1 hA1 hB1)
    | ((with_reducible refine gate_dst (N := 11) rfl ?_); refine new_arr rfl 213 .u32 iv (by first | (go_simp; done) | (go_simp; unfold iv; rfl)) ?_; intro w2 hA2 hB2)
    | fail)
  have hg12 := hA1.lt
  have hA1' := hA1.next hB2
  have hBw2 := below_next hB1 hB2
  generalize w1.heap.size = gs at *
  have HS0 : Hid (Arr .u32 213 w2 gs (comeN iv l 0)) := Lib.hid (by unfold comeN; exact hA2)
  have HR0 : Hid (Kd.C (Kd.int .u8) w A n (l.drop (64 * 0))) := Lib.hid (by simpa [HN.out] using HR.out)
  clear hA2 hB2 hB1 hA1
  have hnn := hc
  go_loopw [0] (fun v wr => ∃ (k : Nat) (A' : Option Addr) (n' c' : Nat), v = .slice A' n' c' ∧ n' + 64 * k = n ∧ n' ≤ c' ∧ Hid (Kd.C (Kd.int .u8) w A' n' (l.drop (64 * k))) ∧ Hid (Arr .u32 213 wr gs (comeN iv l k)) ∧ Hid (w2.grownBy wr (some gs))) (fun v _ => match v with | .slice _ n _ => n | _ => 0)
  case atStart => exact ⟨0, A, n, c, rfl, by omega, hc, HR0, HS0, Lib.hid (grown_of_below (Below.refl _ _) _)⟩
  case round =>
    clear HS0 HR0
    obtain ⟨k, A', n', c', rfl, hk, hc', hR, hS, hG⟩ := hrel
    have hbw : Below w.heap.size w wr := pw_below_grown hBw2 (some gs) hBw2.size hG.out (fun k hk => by cases hk; omega)
    by_cases h64 : 64 ≤ n'
    · obtain ⟨hsl1, hC1, A'', hsl2, hC2⟩ := cut64 A' n' c' h64 hc'
      have hcl := comeN_length iv l k
      have HC1 := Lib.hid (hC1 wr _ (Kd.C_below hR.out hbw))
      have HC2 := Lib.hid (hC2 w _ hR.out)
      clear hC1 hC2
      have HCL : Hid ((comeN iv l k).length = 8) := Lib.hid (by rw [hcl]; unfold iv; rfl)
      clear hcl
      go_wp2_with fail
      have hlen : ((l.drop (64 * k)).take 64).length = 64 := HC1.out.1
      refine (come_any gs (comeN iv l k) A' c' ((l.drop (64 * k)).take 64) wr hS.out HCL.out (by rw [hlen]; exact HC1.out) hlen).mono ?_
      rintro e w' ⟨rfl, hS', hG'⟩
      have HS2 : Hid (Arr .u32 213 w' gs (comeN iv l (k + 1))) := Lib.hid (by rw [comeN]; exact hS')
      have HG2 := Lib.hid (grown_trans hG.out hG')
      clear hS' hG' hlen
      go_wp2
      go_roundw
      case rel =>
        refine ⟨k + 1, A'', n' - 64, c' - 64, rfl, by omega, by omega, ?_, HS2, HG2⟩
        have h := HC2.out
        rw [List.drop_drop, show 64 * k + 64 = 64 * (k + 1) from by omega] at h
        exact Lib.hid h
      case measure => simp; omega
    · have hlt : n' < 64 := by omega
      obtain ⟨wa, hwa⟩ : ∃ wa : World, wa = wr := ⟨_, rfl⟩
      subst hwa
      have hge : ¬ (64 : Int) ≤ (n' : Int) := by omega
      have HRw := Lib.hid (Kd.C_below hR.out hbw)
      go_wp2_with (first
        | ((with_reducible refine gate_dst (N := 27) rfl ?_); refine Kd.R_lit (Kd.int .u8) (w0 := wa) wa.heap.size 5 ?hg (N := 27) ?hd (xs := ([] : List Int)) (inner := []) (ok := fun _ => True) (okp := fun _ => True) ?hr ?hp (fun _ hk => hk) trivial (Below.refl _ _) (Nat.le_refl _) (by simp) ?_; (case hd => rfl); (case hg => rfl); (case hr => first | (go_simp; done) | (go_simp; rfl)); (case hp => exact (Reps.none _ _)); intro v3 w3 ho3 hb3 hg_ hnew_; clear hg_ hnew_; have HO3 := Aside0.mk ho3; have HB3 := Aside0.mk hb3; clear ho3 hb3)
        | ((with_reducible refine gate_builtin (b := .append) (xs := #[.tmp 27, .tmp 28]) rfl ?_); at_builtin; refine Kd.R_append_rows (Kd.int .u8) (w0 := wa) wa.heap.size rfl (.tmp 27) (.tmp 28) 29 5 (.int .u8 0) 1 rfl Try.underlying29 info5 rfl (by decide) (by omega) v3 [] (l.drop (64 * k)) A' n' c' (fun _ => True) (fun _ => False) rfl rfl HO3.out (by exact Kd.C_below HRw.out HB3.out) (fun _ _ h => h) (fun _ h => h.elim) (fun _ _ => trivial) HB3.out HB3.out.size ?aL ?_; (case aL => simp; omega); intro v4 w4 ho4 hb4 hg4 hat4; have HO4 := Aside0.mk ho4; have HB4 := Aside0.mk hb4; clear ho4 hb4 hg4 hat4)
        | ((with_reducible refine gate_builtin (b := .append) (xs := #[.tmp 29, .tmp 30]) rfl ?_); at_builtin; refine Kd.R_append (Kd.int .u8) (w0 := wa) wa.heap.size rfl (.tmp 29) (.tmp 30) 29 5 (.int .u8 0) 1 rfl Try.underlying29 info5 rfl (by decide) (by omega) v4 ([] ++ l.drop (64 * k)) 128 [.int .u8 128] (fun _ => True) (fun _ => False) rfl rfl ?aP (fun _ hk => hk.elim) (fun _ _ => trivial) HO4.out HB4.out HB4.out.size ?aL2 ?_; (case aP => exact rfl); (case aL2 => have := HRw.out.1; simp at this; simp; omega); intro v5 w5 ho5 hb5 hg5 hat5; have HO5 := Aside0.mk ho5; have HB5 := Aside0.mk hb5; clear ho5 hb5 hg5 hat5)
        | fail)
      obtain ⟨rest, hrest⟩ : ∃ r : List Int, r = ([] ++ l.drop (64 * k)) ++ [128] := ⟨_, rfl⟩
      rw [← hrest] at HO5
      have hrl : rest.length = n' + 1 := by rw [hrest]; have := HRw.out.1; simp at this ⊢; omega
      have HRL := Lib.hid hrl
      have HRE := Lib.hid hrest
      clear hrl hrest HO3 HB3 HO4 HB4
      obtain ⟨A5, c5, hv5, hc5, _⟩ := Kd.R_reads HO5.out
      rw [HRL.out] at hv5
      subst hv5
      have H50 : Hid (Kd.R (Kd.int .u8) 5 w5 wa.heap.size (fun _ => True) (.slice A5 (n' + 1) c5) (rest ++ List.replicate 0 0)) := Lib.hid (by simpa using HO5.out)
      have HB50 := Lib.hid HB5.out
      clear HO5 HB5
      have hz64 : (119 - n') % 64 < 64 := Nat.mod_lt _ (by omega)
      go_loopw [6] (fun v wx => ∃ (m q : Nat) (A6 : Option Addr) (c6 : Nat), v = .slice A6 q c6 ∧ q = n' + 1 + m ∧ m ≤ (119 - n') % 64 ∧ Hid (Kd.R (Kd.int .u8) 5 wx wa.heap.size (fun _ => True) (.slice A6 q c6) (rest ++ List.replicate m 0)) ∧ Hid (Below wa.heap.size wa wx)) (fun v _ => match v with | .slice _ n _ => 200 - n | _ => 0)
      case atStart => exact ⟨0, n' + 1, A5, c5, rfl, by omega, by omega, H50, HB50⟩
      case round =>
        clear H50 HB50
        obtain ⟨m, q, A6, c6, rfl, hq, hm, hO, hB⟩ := hrel
        have HQ := Lib.hid hq
        have hq200 : q ≤ 128 := by omega
        by_cases hz : m < (119 - n') % 64
        · have hmod : ¬ (q : Int) % 64 = 56 := by omega
          have hq1 : ((q : Int) % 64 == 56) = false := by simpa using hmod
          have hq2 : ((q : Int) % 64 != 56) = true := by simpa using hmod
          clear hq hmod
          go_wp2_with (first
            | ((with_reducible refine gate_builtin (b := .append) (xs := #[.tmp 36, .tmp 37]) rfl ?_); at_builtin; refine Kd.R_append (Kd.int .u8) (w0 := wa) wa.heap.size rfl (.tmp 36) (.tmp 37) 29 5 (.int .u8 0) 1 rfl Try.underlying29 info5 rfl (by decide) (by omega) (.slice A6 q c6) (rest ++ List.replicate m 0) 0 [.int .u8 0] (fun _ => True) (fun _ => False) rfl rfl ?aP (fun _ hk => hk.elim) (fun _ _ => trivial) hO.out hB.out hB.out.size ?aL2 ?_; (case aP => exact rfl); (case aL2 => have := HRL.out; have := HQ.out; simp; omega); intro v7 w7 ho7 hb7 hg7 hat7; have HO7 := Aside0.mk ho7; have HB7 := Aside0.mk hb7; clear ho7 hb7 hg7 hat7)
            | fail)
          obtain ⟨A7, c7, hv7, hc7, _⟩ := Kd.R_reads HO7.out
          have hl7 : (rest ++ List.replicate m 0 ++ [0]).length = q + 1 := by have := HRL.out; have := HQ.out; simp; omega
          rw [hl7] at hv7
          subst hv7
          have he : rest ++ List.replicate m (0 : Int) ++ [0] = rest ++ List.replicate (m + 1) 0 := by rw [List.append_assoc, ← List.replicate_succ']
          rw [he] at HO7
          have HO7' := Lib.hid HO7.out
          have HB7' := Lib.hid HB7.out
          clear he hl7 HO7 HB7
          go_roundw
          case rel => exact ⟨m + 1, q + 1, A7, c7, rfl, by have := HQ.out; omega, by omega, HO7', HB7'⟩
          case measure => simp; omega
        · have hmod : (q : Int) % 64 = 56 := by omega
          have hq1 : ((q : Int) % 64 == 56) = true := by simpa using hmod
          have hq2 : ((q : Int) % 64 != 56) = false := by simpa using hmod
          clear hq hmod
          go_wp2
          obtain ⟨wb, hwb⟩ : ∃ wb : World, wb = wr := ⟨_, rfl⟩
          subst hwb
          have HZ : Hid (m = (119 - n') % 64) := Lib.hid (by omega)
          obtain ⟨fil, hfil⟩ : ∃ f : List Int, f = rest ++ List.replicate m 0 := ⟨_, rfl⟩
          rw [← hfil] at hO
          have HFE := Lib.hid hfil
          have HFL : Hid (fil.length = q) := Lib.hid (by rw [hfil]; have := HRL.out; have := HQ.out; simp; omega)
          clear hfil hq1 hq2
          have H70 : Hid (Kd.R (Kd.int .u8) 5 wb wa.heap.size (fun _ => True) (.slice A6 q c6) (fil ++ (List.range 0).map (lenB n))) := Lib.hid (by simpa using hO.out)
          have HB70 := Lib.hid hB.out
          clear hO hB
          go_loopw [39, 6] (fun i v wx => ∃ (j p : Nat) (A6 : Option Addr) (c6 : Nat), i = .int .i64 j ∧ v = .slice A6 p c6 ∧ p = q + j ∧ j ≤ 8 ∧ Hid (Kd.R (Kd.int .u8) 5 wx wa.heap.size (fun _ => True) (.slice A6 p c6) (fil ++ (List.range j).map (lenB n))) ∧ Hid (Below wa.heap.size wa wx)) (fun i _ _ => 8 - (intOf i).toNat)
          case atStart => exact ⟨0, q, A6, c6, rfl, rfl, by omega, by omega, H70, HB70⟩
          case round =>
            clear H70 HB70
            obtain ⟨j, p, A6, c6, rfl, rfl, hp, hj, hO, hB⟩ := hrel
            have HP := Lib.hid hp
            have hp200 : p ≤ 136 := by omega
            clear hp
            by_cases hj8 : j < 8
            · have hs1 : 0 ≤ 56 - 8 * (j : Int) := by omega
              have hs2 : 8 * (j : Int) ≤ 56 := by omega
              have hs3 : (56 - 8 * (j : Int)).toNat = 56 - 8 * j := by omega
              go_wp2_with (first
                | ((with_reducible refine gate_builtin (b := .append) (xs := #[.tmp 42, .tmp 49]) rfl ?_); at_builtin; refine Kd.R_append (Kd.int .u8) (w0 := wa) wa.heap.size rfl (.tmp 42) (.tmp 49) 29 5 (.int .u8 0) 1 rfl Try.underlying29 info5 rfl (by decide) (by omega) (.slice A6 p c6) (fil ++ (List.range j).map (lenB n)) (lenB n j) [.int .u8 (lenB n j)] (fun _ => True) (fun _ => False) rfl rfl ?aP (fun _ hk => hk.elim) (fun _ _ => trivial) hO.out hB.out hB.out.size ?aL2 ?_; (case aP => exact rfl); (case aL2 => have := HFL.out; have := HP.out; simp; omega); intro v7 w7 ho7 hb7 hg7 hat7; have HO7 := Aside0.mk ho7; have HB7 := Aside0.mk hb7; clear ho7 hb7 hg7 hat7)
                | fail)
              obtain ⟨A7, c7, hv7, hc7, _⟩ := Kd.R_reads HO7.out
              have hl7 : (fil ++ (List.range j).map (lenB n) ++ [lenB n j]).length = p + 1 := by have := HFL.out; have := HP.out; simp; omega
              rw [hl7] at hv7
              subst hv7
              have he : fil ++ (List.range j).map (lenB n) ++ [lenB n j] = fil ++ (List.range (j + 1)).map (lenB n) := by rw [List.append_assoc, List.range_succ, List.map_append]; rfl
              rw [he] at HO7
              have HO7' := Lib.hid HO7.out
              have HB7' := Lib.hid HB7.out
              clear he hl7 HO7 HB7 hs3
              go_wp2
              go_roundw
              case rel => exact ⟨j + 1, p + 1, A7, c7, by go_num, rfl, by have := HP.out; omega, by omega, HO7', HB7'⟩
              case measure => simp [intOf]; omega
            · have hj8' : j = 8 := by omega
              subst hj8'
              obtain ⟨wc, hwc⟩ : ∃ wc : World, wc = wr := ⟨_, rfl⟩
              subst hwc
              obtain ⟨F, hF⟩ : ∃ F : List Int, F = fil ++ (List.range 8).map (lenB n) := ⟨_, rfl⟩
              rw [← hF] at hO
              have HFF := Lib.hid hF
              have HFl : Hid (F.length = p) := Lib.hid (by rw [hF]; have := HFL.out; have := HP.out; simp; omega)
              have hp64 : p % 64 = 0 := by have := HP.out; have := HQ.out; have := HZ.out; omega
              clear hF
              rw [show ((8 : Nat) : Int) = 8 from rfl]
              have hgsa : gs < wa.heap.size := hS.out.lt
              have hpc : p ≤ c6 := (Kd.R_reads' hO.out).2.1
              obtain ⟨S0, hS0⟩ : ∃ S0, S0 = comeN iv l k := ⟨_, rfl⟩
              rw [← hS0] at hS
              have HS0 := Lib.hid hS0
              have HS08 : Hid (S0.length = 8) := Lib.hid (by rw [hS0, comeN_length]; unfold iv; rfl)
              clear hS0
              have HA0 : Hid (Arr .u32 213 wc gs (comeN S0 F 0)) := Lib.hid (by unfold comeN; exact hS.out.next hB.out)
              go_wp2
              go_loopw [6] (fun v wx => ∃ (i p' : Nat) (A'' : Option Addr) (c'' : Nat), v = .slice A'' p' c'' ∧ p' + 64 * i = p ∧ p' ≤ c'' ∧ Hid (∀ W, Kd.C (Kd.int .u8) W A6 p F → Kd.C (Kd.int .u8) W A'' p' (F.drop (64 * i))) ∧ Hid (Arr .u32 213 wx gs (comeN S0 F i)) ∧ Hid (wc.grownBy wx (some gs))) (fun v _ => match v with | .slice _ n _ => n | _ => 0)
              case atStart => exact ⟨0, p, A6, c6, rfl, by omega, hpc, Lib.hid (fun W h => by simpa using h), HA0, Lib.hid (grown_of_below (Below.refl _ _) _)⟩
              case round =>
                clear HA0
                obtain ⟨i, p', A'', c'', rfl, hpi, hpc', hT, hSS, hGG⟩ := hrel
                have hRx := Kd.R_grown (ok := fun k => k ≠ gs) (Kd.R_mono (Kd.R_bound hO.out) (fun k hk => by have := hk.2.1; omega)) hGG.out (fun k hk e => hk (by injection e))
                have HCx := Lib.hid (hT.out wr (by have := (Kd.R_reads' hRx).2.2; rw [HFl.out] at this; exact this))
                clear hRx
                by_cases hp0 : 64 ≤ p'
                · obtain ⟨hsl1, hC1, A3, hsl2, hC2⟩ := cut64 A'' p' c'' hp0 hpc'
                  have HC1 := Lib.hid (hC1 wr _ HCx.out)
                  have HT2 : Hid (∀ W, Kd.C (Kd.int .u8) W A6 p F → Kd.C (Kd.int .u8) W A3 (p' - 64) (F.drop (64 * (i + 1)))) := Lib.hid (fun W h => by
                    have h2 := hC2 W _ (hT.out W h)
                    rw [List.drop_drop, show 64 * i + 64 = 64 * (i + 1) from by omega] at h2
                    exact h2)
                  clear hC1 hC2
                  have HCL : Hid ((comeN S0 F i).length = 8) := Lib.hid (by rw [comeN_length]; exact HS08.out)
                  have hpp : (0 : Int) < (p' : Int) := by omega
                  go_wp2_with fail
                  have hlen : ((F.drop (64 * i)).take 64).length = 64 := HC1.out.1
                  refine (come_any gs (comeN S0 F i) A'' c'' ((F.drop (64 * i)).take 64) wr hSS.out HCL.out (by rw [hlen]; exact HC1.out) hlen).mono ?_
                  rintro e w' ⟨rfl, hS', hG'⟩
                  have HS2 : Hid (Arr .u32 213 w' gs (comeN S0 F (i + 1))) := Lib.hid (by rw [comeN]; exact hS')
                  have HG2 := Lib.hid (grown_trans hGG.out hG')
                  clear hS' hG' hlen
                  go_wp2
                  go_roundw
                  case rel => exact ⟨i + 1, p' - 64, A3, c'' - 64, rfl, by omega, by omega, HT2, HS2, HG2⟩
                  case measure => simp; omega
                · have hp00 : p' = 0 := by omega
                  subst hp00
                  have hlt32 : w.heap.size < wr.heap.size := by have := hSS.out.lt; omega
                  have hbwc : Below w.heap.size w wc := below_next hbw hB.out
                  have hbwr : Below w.heap.size w wr := pw_below_grown hbwc (some gs) hbwc.size hGG.out (fun k hk => by cases hk; omega)
                  have hA32 : Arr .u8 23 wr w.heap.size (List.replicate 32 0) := Arr.grown ((Arr.grown hA1' hG.out (by omega)).below hB.out (by omega)) hGG.out (by omega)
                  go_wp2_with (first
                    | ((with_reducible refine gate_dst (N := 8) rfl ?_); refine alloc_arr rfl 23 rfl .u8 (List.replicate 32 0) (fun w => Try.zeroValue23 w) (by first | (go_simp; done) | (go_simp; rfl)) ?_; intro wd hAd hBd; have hSd := hSS.out.next hBd; have hA32d := hA32.next hBd; have hbd := below_next hbwr hBd)
                    | fail)
                  obtain ⟨st, hst⟩ : ∃ st, st = comeN S0 F i := ⟨_, rfl⟩
                  rw [← hst] at hSd
                  have HST := Lib.hid hst
                  have HST8 : Hid (st.length = 8) := Lib.hid (by rw [hst, comeN_length]; exact HS08.out)
                  have HII : Hid (i = p / 64) := Lib.hid (by omega)
                  clear hst
                  have hgd : wr.heap.size < wd.heap.size := hAd.lt
                  have hgsd : gs < wr.heap.size := hSS.out.lt
                  generalize wr.heap.size = gd at *
                  have HO0 : Hid (Arr .u8 23 wd gd (outN st 0)) := Lib.hid hAd
                  have HSD := Lib.hid hSd
                  have HA32D := Lib.hid hA32d
                  have HBDD := Lib.hid hbd
                  clear hAd hBd hSd hA32d hbd hA32 hbwr hbwc
                  obtain ⟨we, hwe⟩ : ∃ we : World, we = wr := ⟨_, rfl⟩
                  subst hwe
                  go_loopw [61] (fun i wx => ∃ j : Nat, i = .int .i64 j ∧ j ≤ 32 ∧ Hid (Arr .u8 23 wx gd (outN st j)) ∧ Hid (Below gd wd wx)) (fun i _ => 32 - (intOf i).toNat)
                  case atStart => exact ⟨0, rfl, by omega, HO0, Lib.hid (Below.refl _ _)⟩
                  case round =>
                    clear HO0
                    obtain ⟨j, rfl, hj, hO5, hB5⟩ := hrel
                    have hlen5 := outN_length st j hj
                    by_cases hj32 : j < 32
                    · have hcs := (HSD.out.below hB5.out (by omega)).cellN (j / 4) (by rw [HST8.out]; omega)
                      have hcd := hO5.out.cellN j (by omega)
                      have hfd := hO5.out.free j
                      have hm1 : 0 ≤ 24 - (j : Int) % 4 * 8 := by omega
                      have hm2 : (j : Int) % 4 * 8 ≤ 24 := by omega
                      have hm3 : (24 - (j : Int) % 4 * 8).toNat = 24 - j % 4 * 8 := by omega
                      have hd1 : (j : Int) / 4 < 8 := by omega
                      have HL5 := Lib.hid hlen5
                      clear hlen5
                      go_wp2
                      go_roundw
                      case rel =>
                        refine ⟨j + 1, by go_num, by omega, Lib.hid ?_, Lib.hid (below_setCell hB5.out _ _ (Nat.le_refl _) _)⟩
                        rw [← outN_step st j hj32]
                        exact hO5.out.put j _
                      case measure => simp [intOf]; omega
                    · have hj32' : j = 32 := by omega
                      subst hj32'
                      have HLL := Lib.hid hlen5
                      clear hlen5
                      go_wp2_with (first
                        | ((with_reducible refine gate_dst (N := 79) rfl ?_); refine load_arr rfl 23 _ rfl gd rfl .u8 _ _ _ _ hO5.out Try.underlying23 (by rw [HLL.out]; kernel_rfl) ?_)
                        | ((with_reducible refine gate_store (t := 23) (p := 2) rfl ?_); refine store_arr rfl 23 _ _ rfl w.heap.size .u8 (outN st 32) rfl rfl 23 _ (HA32D.out.below hB5.out hlt32) (by rw [HLL.out]; rfl) (by rw [HLL.out]; kernel_rfl) ?_; intro wz hAz hwz; subst hwz)
                        | fail)
                      have HSF : sumF l = outN st 32 := by
                        have ek : l.length / 64 = k := by have := HN.out; omega
                        have en : l.length % 64 = n' := by have := HN.out; omega
                        have eF : tailF l = F := by
                          rw [HFF.out, HFE.out, HRE.out, HZ.out]
                          unfold tailF
                          rw [ek, en, ← HN.out, List.nil_append]
                        unfold sumF
                        rw [eF, HFl.out, ek, ← HII.out, ← HS0.out, ← HST.out]
                      exact bodyPost_ret (results_arr rfl _ _ w.heap.size .u8 _ _ _ (outN st 32) rfl hAz Try.underlying23 (by rw [HLL.out]; kernel_rfl)) rfl ⟨by rw [HSF], below_setRow (HBDD.out.trans (hB5.out.mono (by omega))) _ (Nat.le_refl _) _⟩
end Go.Proofs.Ytoiiacbbfhlocaa.HSa
end
section
section
set_option linter.unusedVariables false
set_option linter.unusedSimpArgs false
namespace Go.Proofs.Ytoiiacbbfhlocaa.HSa
open Go.RowKit Go.Proofs.YtoiiacbbfhlocaaW.PrintWords Go.Proofs.Ytoiiacbbfhlocaa.Kit Go.Proofs.Ytoiiacbbfhlocaa.Sa
end Go.Proofs.Ytoiiacbbfhlocaa.HSa
end
section
set_option linter.unusedVariables false
set_option linter.unusedSimpArgs false
namespace Go.Proofs.Ytoiiacbbfhlocaa.HSa
open Go.RowKit Go.Proofs.YtoiiacbbfhlocaaW.PrintWords Go.Proofs.Ytoiiacbbfhlocaa.Kit Go.Proofs.Ytoiiacbbfhlocaa.Sa
attribute [local irreducible] msg
end Go.Proofs.Ytoiiacbbfhlocaa.HSa
end
section
set_option linter.unusedVariables false
set_option linter.unusedSimpArgs false
namespace Go.Proofs.Ytoiiacbbfhlocaa.HSa
open Go.RowKit Go.Proofs.YtoiiacbbfhlocaaW.PrintWords Go.Proofs.Ytoiiacbbfhlocaa.Kit Go.Proofs.Ytoiiacbbfhlocaa.Sa
attribute [local irreducible] vstep consts
end Go.Proofs.Ytoiiacbbfhlocaa.HSa
end
end
section
set_option linter.unusedVariables false
set_option linter.unusedSimpArgs false
namespace Go.Proofs.Ytoiiacbbfhlocaa.HSa
open Go.RowKit Go.Proofs.YtoiiacbbfhlocaaW.PrintWords Go.Proofs.YtoiiacbbfhlocaaW.PrintLast Go.Proofs.YtoiiacbbfhlocaaW.PrintMore Go.Proofs.Ytoiiacbbfhlocaa.Kit Go.Proofs.Ytoiiacbbfhlocaa.Sa
def bytes4 (x : Int) : List Int := [IntKind.u8.wrap (IntKind.u32.wrap (x.tdiv 16777216)), IntKind.u8.wrap (IntKind.u32.wrap (x.tdiv 65536)), IntKind.u8.wrap (IntKind.u32.wrap (x.tdiv 256)), IntKind.u8.wrap x]
def outR (st : List Int) (n : Nat) : List Int := (List.range n).flatMap fun i => bytes4 (st.getD i 0)
def OutB (w : World) (r : List Int) (e : Ending) (w' : World) : Prop :=
  ∃ v0_ : Value, e = .returned (v0_) ∧ Kd.R (Kd.int .u8) 5 w' w.heap.size (fun _ => True) v0_ r ∧ Below w.heap.size w w'
attribute [local irreducible] outR
end Go.Proofs.Ytoiiacbbfhlocaa.HSa
end
section
set_option linter.unusedVariables false
set_option linter.unusedSimpArgs false
namespace Go.Proofs.Ytoiiacbbfhlocaa.HSa
open Go.RowKit Go.Proofs.YtoiiacbbfhlocaaW.PrintWords Go.Proofs.Ytoiiacbbfhlocaa.Kit Go.Proofs.Ytoiiacbbfhlocaa.Sa
def zerosN (n : Nat) : Nat := (119 - n % 64) % 64
def endF (n : Nat) : List Int := (List.range 8).map (lenB n)
def allF (l : List Int) : List Int := l ++ [128] ++ List.replicate (zerosN l.length) 0 ++ endF l.length
end Go.Proofs.Ytoiiacbbfhlocaa.HSa
end
section
set_option linter.unusedVariables false
set_option linter.unusedSimpArgs false
namespace Go.Proofs.Ytoiiacbbfhlocaa.HSa
open Go.RowKit Go.Proofs.YtoiiacbbfhlocaaW.PrintWords Go.Proofs.Ytoiiacbbfhlocaa.Kit Go.Proofs.Ytoiiacbbfhlocaa.Sa
theorem sumF_len (l : List Int) : (sumF l).length = 32 := outN_length _ 32 (by decide)
end Go.Proofs.Ytoiiacbbfhlocaa.HSa
end
