import Derived.Test.YtljmjeaocojnmaaSr
import Derived.Test.YtljmjeaocojnmaaArr
import Derived.Deep.RegionHeld3
import Derived.IntWalk
import Derived.Laws.IdiomCopy
section
/- Contracts of sha256's functions, by hand. -/
set_option linter.unusedVariables false
set_option linter.unusedSimpArgs false
namespace Go.Proofs.Ytljmjeaocojnmaa.HSa
open Go.RowKit Go.Proofs.YtljmjeaocojnmaaW.PrintWords Go.Proofs.YtljmjeaocojnmaaW.PrintLast Go.Proofs.YtljmjeaocojnmaaW.PrintMore Go.Proofs.Ytljmjeaocojnmaa.Kit Go.Proofs.Ytljmjeaocojnmaa.Sr

def Tells32 (x : Int) (w : World) (e : Ending) (w' : World) : Prop := e = .returned (.int .u32 x) ∧ w' = w
set_option maxHeartbeats 400000 in
theorem rot_any (x n : Int) (k : Int) (w : World) (hk : Go.bits .and .u64 (IntKind.u64.wrap n) 31 = k) (h0 : 0 ≤ k) (h1 : k ≤ 31) :
    Calls Try.prog 111 #[.int .u32 x, .int .i64 n] w (Tells32 (Go.bits .or .u32 (x * 2 ^ k.toNat % 4294967296) (x / 2 ^ (32 - k).toNat)) w) := by
  go_enter Try.func111, Try.ntmps111
  go_wp2
  go_ret
  exact ⟨rfl, rfl⟩
/-- n turned to the right, at the counts that occur -/
theorem rot_count (n : Int) (h : n = 6 ∨ n = 11 ∨ n = 25 ∨ n = 2 ∨ n = 13 ∨ n = 22 ∨ n = 7 ∨ n = 18 ∨ n = 17 ∨ n = 19) : Go.bits .and .u64 (IntKind.u64.wrap (-n)) 31 = 32 - n := by
  rcases h with rfl | rfl | rfl | rfl | rfl | rfl | rfl | rfl | rfl | rfl <;> decide +kernel
def rotr (x n : Int) : Int := Go.bits .or .u32 (x * 2 ^ (32 - n).toNat % 4294967296) (x / 2 ^ n.toNat)
set_option maxHeartbeats 400000 in
theorem right_any (x n : Int) (w : World) (h : n = 6 ∨ n = 11 ∨ n = 25 ∨ n = 2 ∨ n = 13 ∨ n = 22 ∨ n = 7 ∨ n = 18 ∨ n = 17 ∨ n = 19) :
    Calls Try.prog 104 #[.int .u32 x, .int .i64 n] w (Tells32 (rotr x n) w) := by
  have h4 := rot_any x (-n) (32 - n) w (rot_count n h) (by omega) (by omega)
  rw [show 32 - (32 - n) = n from by omega] at h4
  have H := Lib.hid h4
  clear h4
  have h2 : 0 ≤ n := by omega
  have h3 : n ≤ 25 := by omega
  clear h
  go_enter Try.func104, Try.ntmps104
  go_wp2_with fail
  refine H.out.mono ?_
  rintro e w' ⟨rfl, rfl⟩
  go_wp2
  go_ret
  exact ⟨rfl, rfl⟩

/-! sha256.constants -/
def consts : List Int := [0x428A2F98, 0x71374491, 0xB5C0FBCF, 0xE9B5DBA5, 0x3956C25B, 0x59F111F1, 0x923F82A4, 0xAB1C5ED5,
  0xD807AA98, 0x12835B01, 0x243185BE, 0x550C7DC3, 0x72BE5D74, 0x80DEB1FE, 0x9BDC06A7, 0xC19BF174,
  0xE49B69C1, 0xEFBE4786, 0x0FC19DC6, 0x240CA1CC, 0x2DE92C6F, 0x4A7484AA, 0x5CB0A9DC, 0x76F988DA,
  0x983E5152, 0xA831C66D, 0xB00327C8, 0xBF597FC7, 0xC6E00BF3, 0xD5A79147, 0x06CA6351, 0x14292967,
  0x27B70A85, 0x2E1B2138, 0x4D2C6DFC, 0x53380D13, 0x650A7354, 0x766A0ABB, 0x81C2C92E, 0x92722C85,
  0xA2BFE8A1, 0xA81A664B, 0xC24B8B70, 0xC76C51A3, 0xD192E819, 0xD6990624, 0xF40E3585, 0x106AA070,
  0x19A4C116, 0x1E376C08, 0x2748774C, 0x34B0BCB5, 0x391C0CB3, 0x4ED8AA4A, 0x5B9CCA4F, 0x682E6FF3,
  0x748F82EE, 0x78A5636F, 0x84C87814, 0x8CC70208, 0x90BEFFFA, 0xA4506CEB, 0xBEF9A3F7, 0xC67178F2]
def GivesArr (k : IntKind) (xs : List Int) (w : World) (e : Ending) (w' : World) : Prop := e = .returned (.agg (nums k xs).toArray) ∧ Below w.heap.size w w'
set_option maxHeartbeats 1000000 in
set_option maxRecDepth 100000 in
theorem constants_any (w : World) : Calls Try.prog 103 #[] w (GivesArr .u32 consts w) := by
  go_enter Try.func103, Try.ntmps103
  go_wp2_with (first
    | ((with_reducible refine gate_dst (N := 0) rfl ?_); refine alloc_arr rfl 160 rfl .u32 (List.replicate 64 0) (fun w => Try.zeroValue160 w) (by first | (go_simp; done) | (go_simp; rfl)) ?_; intro w1 hA hB)
    | ((with_reducible refine gate_store (t := 160) (p := 0) rfl ?_); refine store_arr rfl 160 _ _ rfl w.heap.size .u32 consts rfl rfl 160 _ hA rfl (by kernel_rfl) ?_; intro w2 hA2 hw2; subst hw2)
    | fail)
  exact bodyPost_ret (results_arr rfl _ _ w.heap.size .u32 _ _ _ consts rfl hA2 Try.underlying160 (by kernel_rfl)) rfl ⟨rfl, below_setRow hB _ (Nat.le_refl _) _⟩

/-! sha256.message -/
def word4 (l : List Int) (i : Nat) : Int :=
  Go.bits .or .u32 (Go.bits .or .u32 (Go.bits .or .u32 (l.getD (4 * i) 0 % 4294967296 * 16777216 % 4294967296) (l.getD (4 * i + 1) 0 % 4294967296 * 65536 % 4294967296)) (l.getD (4 * i + 2) 0 % 4294967296 * 256 % 4294967296)) (l.getD (4 * i + 3) 0 % 4294967296)
def s0 (x : Int) : Int := Go.bits .xor .u32 (Go.bits .xor .u32 (rotr x 7) (rotr x 18)) (x / 8)
def s1 (x : Int) : Int := Go.bits .xor .u32 (Go.bits .xor .u32 (rotr x 17) (rotr x 19)) (x / 1024)
def wordN (m : List Int) (i : Nat) : Int := IntKind.u32.wrap (IntKind.u32.wrap (IntKind.u32.wrap (m.getD (i - 16) 0 + m.getD (i - 7) 0) + s0 (m.getD (i - 15) 0)) + s1 (m.getD (i - 2) 0))
def mstep (l m : List Int) (i : Nat) : List Int := m.set i (if i < 16 then word4 l i else wordN m i)
def msg (l : List Int) : Nat → List Int
  | 0 => List.replicate 64 0
  | i + 1 => mstep l (msg l i) i
theorem msg_length (l : List Int) : ∀ n, (msg l n).length = 64
  | 0 => by simp [msg]
  | n + 1 => by simp [msg, mstep, msg_length l n]
set_option maxHeartbeats 1000000 in
set_option maxRecDepth 100000 in
theorem message_any (A : Option Addr) (c : Nat) (l : List Int) (w : World) (hr : Kd.C (Kd.int .u8) w A l.length l) (hl : l.length = 64) :
    Calls Try.prog 102 #[.slice A 64 c] w (GivesArr .u32 (msg l 64) w) := by
  have HR := Lib.hid hr
  have HL := Lib.hid hl
  clear hr hl
  go_enter Try.func102, Try.ntmps102
  go_wp2_with (first
    | ((with_reducible refine gate_dst (N := 2) rfl ?_); refine alloc_arr rfl 160 rfl .u32 (List.replicate 64 0) (fun w => Try.zeroValue160 w) (by first | (go_simp; done) | (go_simp; rfl)) ?_; intro w1 hA1 hB1)
    | ((with_reducible refine gate_dst (N := 3) rfl ?_); refine alloc_arr rfl 160 rfl .u32 (List.replicate 64 0) (fun w => Try.zeroValue160 w) (by first | (go_simp; done) | (go_simp; rfl)) ?_; intro w2 hA2 hB2)
    | fail)
  have hg1 : w.heap.size ≤ w1.heap.size := hB1.size
  have hlt1 := hA1.lt
  generalize hgg : w1.heap.size = g at *
  have HG := Lib.hid hgg
  clear hgg
  have HA0 : Hid (Arr .u32 160 w2 g (msg l 0)) := Lib.hid hA2
  have HB0 := Lib.hid hB2
  clear hA2 hB2
  go_loopw [7] (fun i wr => ∃ k : Nat, k ≤ 64 ∧ i = .int .i64 k ∧ Hid (Arr .u32 160 wr g (msg l k)) ∧ Hid (Below g w1 wr)) (fun i _ => 64 - (intOf i).toNat)
  case atStart => exact ⟨0, by omega, rfl, HA0, HB0⟩
  case round =>
    clear HA0 HB0
    obtain ⟨k, hk, rfl, hA, hB⟩ := hrel
    by_cases h16 : k < 16
    · obtain ⟨b, off, rfl, hc⟩ := C_cells HR.out (by have := HL.out; omega)
      have hbb : Below w.heap.size w wr := below_next hB1 (by rw [HG.out]; exact hB.out)
      have hq : ∀ j, j < 64 → wr.cell? ⟨b, off + j, none⟩ = some (.int .u8 (l.getD j 0)) := fun j hj => by
        have h := hc j (by have := HL.out; omega)
        exact (hbb.cell (World.block_lt_of_cell? w _ h)).trans h
      have hd0 := hq (4 * k) (by omega)
      have hd1 := hq (4 * k + 1) (by omega)
      have hd2 := hq (4 * k + 2) (by omega)
      have hd3 := hq (4 * k + 3) (by omega)
      clear hc hq
      have hcell := hA.out.cellN k (by rw [msg_length]; omega)
      have hfr := hA.out.free k
      go_wp2
      go_region
      have HM : Hid (msg l (k + 1) = (msg l k).set k (word4 l k)) := Lib.hid (by show mstep l (msg l k) k = _; unfold mstep; rw [if_pos h16])
      all_goals
        go_wp2
        go_roundw
        case rel => exact ⟨k + 1, by omega, by go_num, Lib.hid (by rw [HM.out]; exact (hA.out.put k _).drew), Lib.hid (below_drew (below_setCell hB.out _ _ (Nat.le_refl _) _))⟩
        case measure => simp [intOf]; omega
    · by_cases h64 : k < 64
      · have hlen := msg_length l k
        have hc15 := hA.out.cellN (k - 15) (by omega)
        have hc2 := hA.out.cellN (k - 2) (by omega)
        have hc16 := hA.out.cellN (k - 16) (by omega)
        have hc7 := hA.out.cellN (k - 7) (by omega)
        have hcell := hA.out.cellN k (by omega)
        have hfr := hA.out.free k
        have HL2 := Lib.hid hlen
        clear hlen
        go_wp2
        go_region
        all_goals
          go_wp2_with fail
        have hs16 : ∀ v, (wr.setCell ⟨g, k, none⟩ v).cell? ⟨g, k - 16, none⟩ = some (.int .u32 ((msg l k).getD (k - 16) 0)) := fun v => by
          rw [World.cell?_setCell_other]
          · exact hc16
          · intro e; injection e with _ e; omega
        have hs7 : ∀ v, (wr.setCell ⟨g, k, none⟩ v).cell? ⟨g, k - 7, none⟩ = some (.int .u32 ((msg l k).getD (k - 7) 0)) := fun v => by
          rw [World.cell?_setCell_other]
          · exact hc7
          · intro e; injection e with _ e; omega
        have hb16 : (0 : Int) ≤ (k : Int) - 16 := by omega
        have hb7 : (0 : Int) ≤ (k : Int) - 7 := by omega
        have hb16' : (16 : Int) ≤ (k : Int) := by omega
        have hb7' : (7 : Int) ≤ (k : Int) := by omega
        have hu16' : (k : Int) < 80 := by omega
        have hu7' : (k : Int) < 71 := by omega
        have hu16 : (k : Int) - 16 < 64 := by omega
        have hu7 : (k : Int) - 7 < 64 := by omega
        have ht16 : ((k : Int) - 16).toNat = k - 16 := by omega
        have ht7 : ((k : Int) - 7).toNat = k - 7 := by omega
        have hw16 : IntKind.i64.wrap ((k : Int) - 16) = (k : Int) - 16 := IntWalk.i64_in _ (by omega)
        have hw7 : IntKind.i64.wrap ((k : Int) - 7) = (k : Int) - 7 := IntWalk.i64_in _ (by omega)
        have HM : Hid (msg l (k + 1) = (msg l k).set k (wordN (msg l k) k)) := Lib.hid (by show mstep l (msg l k) k = _; unfold mstep; rw [if_neg h16])
        go_region_held3 (fun w' => w'.cell? ⟨g, k - 16, none⟩ = some (.int .u32 ((msg l k).getD (k - 16) 0)) ∧ w'.cell? ⟨g, k - 7, none⟩ = some (.int .u32 ((msg l k).getD (k - 7) 0)))
          (first | go_keep | exact ⟨hs16 _, hs7 _⟩)
          ((go_at_call 104; refine (right_any _ _ _ (by omega)).mono ?_; rintro e w' ⟨rfl, rfl⟩))
        clear hs16 hs7 hw16 hw7 ht16 ht7
        go_wp2
        go_roundw
        case rel => exact ⟨k + 1, by omega, by go_num, Lib.hid (by rw [HM.out]; exact (hA.out.put k _).drew.drew), Lib.hid (below_drew (below_drew (below_setCell hB.out _ _ (Nat.le_refl _) _)))⟩
        case measure => simp [intOf]; omega
      · have hk64 : k = 64 := by omega
        subst hk64
        go_wp2_with (first
          | ((with_reducible refine gate_dst (N := 85) rfl ?_); refine load_arr rfl 160 _ rfl g rfl .u32 _ _ _ _ hA.out Try.underlying160 (by rw [msg_length]; kernel_rfl) ?_)
          | ((with_reducible refine gate_store (t := 160) (p := 2) rfl ?_); refine store_arr rfl 160 _ _ rfl w.heap.size .u32 (msg l 64) rfl rfl 160 _ (hA1.below (by exact hB.out) hlt1) (by rw [msg_length]; rfl) (by rw [msg_length]; kernel_rfl) ?_; intro w3 hA3 hw3; subst hw3)
          | fail)
        exact bodyPost_ret (results_arr rfl _ _ w.heap.size .u32 _ _ _ (msg l 64) rfl hA3 Try.underlying160 (by rw [msg_length]; kernel_rfl)) rfl ⟨rfl, below_setRow (below_next hB1 (by rw [HG.out]; exact hB.out)) _ (Nat.le_refl _) _⟩
end Go.Proofs.Ytljmjeaocojnmaa.HSa
end
section
/- The contract of sha256's state.come, by hand. -/
set_option linter.unusedVariables false
set_option linter.unusedSimpArgs false
namespace Go.Proofs.Ytljmjeaocojnmaa.HSa
open Go.RowKit Go.Proofs.YtljmjeaocojnmaaW.PrintWords Go.Proofs.YtljmjeaocojnmaaW.PrintLast Go.Proofs.YtljmjeaocojnmaaW.PrintMore Go.Proofs.Ytljmjeaocojnmaa.Kit Go.Proofs.Ytljmjeaocojnmaa.Sr

def big1 (e : Int) : Int := Go.bits .xor .u32 (Go.bits .xor .u32 (rotr e 6) (rotr e 11)) (rotr e 25)
def big0 (a : Int) : Int := Go.bits .xor .u32 (Go.bits .xor .u32 (rotr a 2) (rotr a 13)) (rotr a 22)
def oneS (v : List Int) (c m : Int) : Int :=
  v.getD 7 0 + big1 (v.getD 4 0) + Go.bits .xor .u32 (Go.bits .and .u32 (v.getD 4 0) (v.getD 5 0)) (Go.bits .andNot .u32 (v.getD 6 0) (v.getD 4 0)) + c + m
def twoS (v : List Int) : Int :=
  big0 (v.getD 0 0) + Go.bits .xor .u32 (Go.bits .xor .u32 (Go.bits .and .u32 (v.getD 0 0) (v.getD 1 0)) (Go.bits .and .u32 (v.getD 0 0) (v.getD 2 0))) (Go.bits .and .u32 (v.getD 1 0) (v.getD 2 0))
def vstep (m v : List Int) (i : Nat) : List Int :=
  [(oneS v (consts.getD i 0) (m.getD i 0) + twoS v) % 4294967296, v.getD 0 0, v.getD 1 0, v.getD 2 0, (v.getD 3 0 + oneS v (consts.getD i 0) (m.getD i 0)) % 4294967296, v.getD 4 0, v.getD 5 0, v.getD 6 0]
def vloop (m s : List Int) : Nat → List Int
  | 0 => s
  | i + 1 => vstep m (vloop m s i) i
theorem vloop_length (m s : List Int) (hs : s.length = 8) : ∀ n, (vloop m s n).length = 8
  | 0 => hs
  | n + 1 => rfl
def adds (s v : List Int) : Nat → List Int
  | 0 => s
  | i + 1 => (adds s v i).set i (IntKind.u32.wrap ((adds s v i).getD i 0 + v.getD i 0))
theorem adds_length (s v : List Int) : ∀ n, (adds s v n).length = s.length
  | 0 => rfl
  | n + 1 => by simp [adds, adds_length s v n]
def comeF (s l : List Int) : List Int := adds s (vloop (msg l 64) s 64) 8
theorem comeF_length (s l : List Int) : (comeF s l).length = s.length := adds_length _ _ _
structure ComeEnd (w : World) (gs : Nat) (xs : List Int) (e : Ending) (w' : World) : Prop where
  he : e = .returned (.tuple #[])
  arr : Arr .u32 136 w' gs xs
  grown : w.grownBy w' (some gs)
theorem run_index_nums {P : Program} (T e n : Nat) (k : IntKind) (xs : List Int) (j : Nat) (hu : P.underlying T = some (.array n e)) (he : P.underlying e = some (.int k)) (hi : (P.info? e).map (·.size) = some 1) (hl : xs.length = n) (hj : j < n) (w : World) :
    (Instr.index T (.agg (nums k xs).toArray) (.int .i64 (j : Int))).run P w = .ok (.int k (xs.getD j 0)) w := by
  cases hq : P.info? e with
  | none => simp [hq] at hi
  | some i =>
    have h1 : i.size = 1 := by simpa [hq] using hi
    have hjx : j < xs.length := by omega
    simp [Instr.index, run_underlying hu, sizeOf, typeInfo, hq, h1, asIntOf, hj, part, isAgg, run_underlying he, nums, hjx]
theorem grown_setCell {w W : World} {g : Nat} (h : w.grownBy W (some g)) (j : Nat) (v : Value) : w.grownBy (W.setCell ⟨g, j, none⟩ v) (some g) :=
  ⟨h.os, h.tape, h.output, by simpa using h.size, fun i hi hne => (Go.heap_setCell_other W _ i v (fun e => hne (by rw [e]))).trans (h.block i hi hne)⟩
theorem grown_drew {w W : World} {r : Option Nat} (h : w.grownBy W r) : w.grownBy W.drew r := ⟨h.os, h.tape, h.output, h.size, h.block⟩
theorem below_setCells {B : Nat} {g : Nat} (hg : B ≤ g) : ∀ (cs : List Value) (o : Nat) {w W : World}, Below B w W → Below B w (W.setCells g o cs)
  | [], _, _, _, h => h
  | c :: cs, o, _, _, h => below_setCells hg cs (o + 1) (h.setCell hg c)
attribute [local irreducible] msg vloop adds comeF consts
set_option maxHeartbeats 2000000 in
set_option maxRecDepth 100000 in
theorem come_any (gs : Nat) (s : List Int) (A : Option Addr) (c : Nat) (l : List Int) (w : World) (hs : Arr .u32 136 w gs s) (hs8 : s.length = 8) (hr : Kd.C (Kd.int .u8) w A l.length l) (hl : l.length = 64) :
    Calls Try.prog 84 #[.pointer (some ⟨gs, 0, none⟩), .slice A 64 c] w (ComeEnd w gs (comeF s l)) := by
  have HM := Lib.hid (message_any A c l w hr hl)
  have HS8 := Lib.hid hs8
  clear hr hl hs8
  go_enter Try.func84, Try.ntmps84
  go_wp2_with fail
  refine HM.out.mono ?_
  rintro e w1 ⟨rfl, hB1⟩
  go_wp2_with fail
  refine (constants_any w1).mono ?_
  rintro e w2 ⟨rfl, hB2⟩
  have hB02 := below_next hB1 hB2
  have hs2 := hs.next hB02
  clear hB1 hB2
  have hgs := hs2.lt
  go_wp2_with (first
    | ((with_reducible refine gate_dst (N := 4) rfl ?_); refine alloc_arr rfl 160 rfl .u32 (List.replicate 64 0) (fun w => Try.zeroValue160 w) (by first | (go_simp; done) | (go_simp; rfl)) ?_; intro w3 hA3 hB3; have hs3 := hs2.next hB3)
    | ((with_reducible refine gate_dst (N := 5) rfl ?_); refine alloc_arr rfl 160 rfl .u32 (List.replicate 64 0) (fun w => Try.zeroValue160 w) (by first | (go_simp; done) | (go_simp; rfl)) ?_; intro w4 hA4 hB4; have hA34 := hA3.next hB4; have hs4 := hs3.next hB4; have hg24 := hA3.lt; have hsz4 := hA4.lt; have hB24 := below_next hB3 hB4)
    | ((with_reducible refine gate_store (t := 160) (p := 4) rfl ?_); refine store_arr rfl 160 _ _ rfl w2.heap.size .u32 (msg l 64) rfl rfl 160 _ hA34 (by rw [msg_length]; rfl) (by rw [msg_length]; kernel_rfl) ?_; intro w5 hA5 hw5; have hA45 : Arr .u32 160 w5 w3.heap.size (List.replicate 64 0) := (by rw [hw5]; exact hA4.setRow_far _ (by omega) _); have hs5 : Arr .u32 136 w5 gs s := (by rw [hw5]; exact hs4.setRow_far _ (by omega) _); have hB5 : Below w2.heap.size w2 w5 := (by rw [hw5]; exact below_setRow hB24 _ (Nat.le_refl _) _); have hz5 : w3.heap.size < w5.heap.size := hA45.lt; clear hw5)
    | ((with_reducible refine gate_store (t := 160) (p := 5) rfl ?_); refine store_arr rfl 160 _ _ rfl w3.heap.size .u32 consts rfl rfl 160 _ hA45 (by unfold consts; rfl) (by unfold consts; kernel_rfl) ?_; intro w6 hA6 hw6; have hm6 : Arr .u32 160 w6 w2.heap.size (msg l 64) := (by rw [hw6]; exact hA5.setRow_far _ (by omega) _); have hs6 : Arr .u32 136 w6 gs s := (by rw [hw6]; exact hs5.setRow_far _ (by omega) _); have hB6 : Below w2.heap.size w2 w6 := (by rw [hw6]; exact below_setRow hB5 _ (by omega) _); have hz6 : w3.heap.size < w6.heap.size := hA6.lt; clear hw6)
    | ((with_reducible refine gate_dst (N := 19) rfl ?_); refine load_arr rfl 136 _ rfl gs rfl .u32 _ _ _ _ hs6 Try.underlying136 (by rw [HS8.out]; kernel_rfl) ?_)
    | ((with_reducible refine gate_dst (N := 6) rfl ?_); refine alloc_arr rfl 136 rfl .u32 (List.replicate 8 0) (fun w => Try.zeroValue136 w) (by first | (go_simp; done) | (go_simp; rfl)) ?_; intro w7 hA7 hB7)
    | ((with_reducible refine gate_store (t := 136) (p := 6) rfl ?_); refine store_arr rfl 136 _ _ rfl w6.heap.size .u32 s rfl rfl 136 _ hA7 (by rw [HS8.out]; rfl) (by rw [HS8.out]; kernel_rfl) ?_; intro w8 hA8 hw8; have hm8 : Arr .u32 160 w8 w2.heap.size (msg l 64) := (by rw [hw8]; exact (hm6.next hB7).setRow_far _ (by omega) _); have hc8 : Arr .u32 160 w8 w3.heap.size consts := (by rw [hw8]; exact (hA6.next hB7).setRow_far _ (by omega) _); have hs8 : Arr .u32 136 w8 gs s := (by rw [hw8]; exact (hs6.next hB7).setRow_far _ (by omega) _); have hB8 : Below w2.heap.size w2 w8 := (by rw [hw8]; exact below_setRow (below_then hB6 hB6.size hB7) _ (by omega) _); clear hw8)
    | fail)
  have hw02 : w.heap.size ≤ w2.heap.size := hB02.size
  generalize hgmE : w2.heap.size = gm at *
  have HGM := Lib.hid hgmE
  clear hgmE
  generalize w3.heap.size = gc at *
  generalize w6.heap.size = gv at *
  obtain ⟨M, hM⟩ : ∃ M, M = msg l 64 := ⟨_, rfl⟩
  rw [← hM] at hm8
  have hM64 : M.length = 64 := by rw [hM, msg_length]
  have HMM := Lib.hid hM
  have HM64 := Lib.hid hM64
  clear hM hM64
  have HA0 : Hid (Arr .u32 136 w8 gv (vloop M s 0)) := Lib.hid (by unfold vloop; exact hA8)
  clear hA8
  go_loopw [20] (fun i wr => ∃ k : Nat, k ≤ 64 ∧ i = .int .i64 k ∧ Hid (Arr .u32 136 wr gv (vloop M s k)) ∧ Hid (Below gv w8 wr)) (fun i _ => 64 - (intOf i).toNat)
  case atStart => exact ⟨0, by omega, rfl, HA0, Lib.hid (Below.refl _ _)⟩
  case round =>
    clear HA0
    obtain ⟨k, hk, rfl, hA, hB⟩ := hrel
    have hVlen := vloop_length M s HS8.out k
    have HVS : Hid (vloop M s (k + 1) = vstep M (vloop M s k) k) := Lib.hid (by rw [vloop])
    have HCV : Hid (k = 64 → comeF s l = adds s (vloop M s k) 8) := Lib.hid (fun e => by rw [e, HMM.out]; unfold comeF; rfl)
    generalize vloop M s k = V at *
    have HV8 := Lib.hid hVlen
    clear hVlen
    by_cases h64 : k < 64
    · have hv0 := hA.out.cellN 0 (by rw [HV8.out]; omega)
      have hv1 := hA.out.cellN 1 (by rw [HV8.out]; omega)
      have hv2 := hA.out.cellN 2 (by rw [HV8.out]; omega)
      have hv4 := hA.out.cellN 4 (by rw [HV8.out]; omega)
      have hv5 := hA.out.cellN 5 (by rw [HV8.out]; omega)
      have hv6 := hA.out.cellN 6 (by rw [HV8.out]; omega)
      have hv7 := hA.out.cellN 7 (by rw [HV8.out]; omega)
      have hmk := (hm8.below hB.out (by omega)).cellN k (by rw [HM64.out]; omega)
      have hck := (hc8.below hB.out (by omega)).cellN k (by unfold consts; simp; omega)
      have hk0 : (0 : Int) ≤ (k : Int) := by omega
      go_wp2
      go_region
      go_wp2_with fail
      go_region_held3 (fun w' => w'.cell? ⟨gv, 7, none⟩ = some (.int .u32 (V.getD 7 0)) ∧ w'.cell? ⟨gv, 5, none⟩ = some (.int .u32 (V.getD 5 0)) ∧ w'.cell? ⟨gv, 6, none⟩ = some (.int .u32 (V.getD 6 0)) ∧ w'.cell? ⟨gm, k, none⟩ = some (.int .u32 (M.getD k 0)) ∧ w'.cell? ⟨gc, k, none⟩ = some (.int .u32 (consts.getD k 0)))
        (go_keep)
        ((go_at_call 104; refine (right_any _ _ _ (by omega)).mono ?_; rintro e w' ⟨rfl, rfl⟩))
      go_wp2_with fail
      go_region_held3 (fun w' => w'.cell? ⟨gv, 1, none⟩ = some (.int .u32 (V.getD 1 0)) ∧ w'.cell? ⟨gv, 2, none⟩ = some (.int .u32 (V.getD 2 0)))
        (go_keep)
        ((go_at_call 104; refine (right_any _ _ _ (by omega)).mono ?_; rintro e w' ⟨rfl, rfl⟩))
      go_wp2_with fail
      have hsh : ∃ V' : List Int, V' = [V.getD 0 0, V.getD 0 0, V.getD 1 0, V.getD 2 0, V.getD 3 0, V.getD 4 0, V.getD 5 0, V.getD 6 0] ∧ V.take 1 ++ V.take 7 ++ V.drop (1 + (V.take 7).length) = V' := by
        have hl := HV8.out
        match V, hl with
        | [a0, a1, a2, a3, a4, a5, a6, a7], _ => exact ⟨_, rfl, rfl⟩
      obtain ⟨V', hV', hV'2⟩ := hsh
      have hA9 := hA.out.drew.drew.drew.drew.cells (V.take 7) 1 (by rw [List.length_take, HV8.out]; omega)
      rw [hV'2] at hA9
      have hB9 : Below gv w8 (wr.drew.drew.drew.drew.setCells gv 1 (nums .u32 (V.take 7))) := below_setCells (Nat.le_refl _) _ _ (below_drew (below_drew (below_drew (below_drew hB.out))))
      have HA9 := Lib.hid hA9
      have HB9 := Lib.hid hB9
      have HVV := Lib.hid hV'
      clear hA9 hB9 hV'2 hV'
      have hcp := fun ty => run_copy_cells (P := Try.prog) wr.drew.drew.drew.drew 29 29 ty 112 gv 1 7 7 ⟨gv, 0, none⟩ 7 8 (nums .u32 (V.take 7)) Try.underlying29 (by kernel_rfl) (by simp [nums, HV8.out])
        (fun j v hj => by rw [add_plain]; have := hA.out.drew.drew.drew.drew.range j v (by
          have h7 : j < 7 := by have := (List.getElem?_eq_some_iff.1 hj).1; simp [nums] at this; omega
          rw [← hj]; simp [nums, List.getElem?_take, h7]); simpa using this)
        (fun j hj => by rw [hA.out.drew.drew.drew.drew.cellN (1 + j) (by simp [nums] at hj; rw [HV8.out]; omega)]; rfl) (fun j hj => hA.out.drew.drew.drew.drew.free _) (fun v hv => by simp only [nums, List.mem_map] at hv; obtain ⟨x, _, rfl⟩ := hv; rfl)
      clear hv0 hv1 hv2 hv4 hv5 hv6 hv7 hmk hck
      go_region
      clear hcp
      generalize wr.drew.drew.drew.drew.setCells gv 1 (nums .u32 (V.take 7)) = W9 at *
      rw [HVV.out] at HA9
      have h94 := HA9.out.cellN 4 (by simp)
      have h90 := HA9.out.cellN 0 (by simp)
      have hf4 := HA9.out.free 4
      have hf0 := HA9.out.free 0
      have hne : V'.length = V'.length := rfl
      clear hne
      go_wp2
      go_roundw
      case rel =>
        refine ⟨k + 1, by omega, by go_num, Lib.hid ?_, Lib.hid (below_setCell (below_setCell HB9.out _ _ (Nat.le_refl _) _) _ _ (Nat.le_refl _) _)⟩
        rw [HVS.out]
        exact (HA9.out.put 4 _).put 0 _
      case measure => simp [intOf]; omega
    · have hk64 : k = 64 := by omega
      subst hk64
      go_wp2_with (first
        | ((with_reducible refine gate_dst (N := 93) rfl ?_); refine load_arr rfl 136 _ rfl gv rfl .u32 _ _ _ _ hA.out Try.underlying136 (by rw [HV8.out]; kernel_rfl) ?_)
        | fail)
      have hgw : gs < w.heap.size := hs.lt
      have hS0 : Hid (Arr .u32 136 wr gs (adds s V 0)) := Lib.hid (by unfold adds; exact hs8.below hB.out (by omega))
      have hK0 : Hid (w.grownBy wr (some gs)) := Lib.hid (by
        have h8 : Below w.heap.size w w8 := below_next hB02 (by rw [HGM.out]; exact hB8)
        exact grown_of_below (h8.trans (hB.out.mono (by omega))) _)
      go_loopw [94] (fun i wx => ∃ j : Nat, j ≤ 8 ∧ i = .int .i64 j ∧ Hid (Arr .u32 136 wx gs (adds s V j)) ∧ Hid (w.grownBy wx (some gs))) (fun i _ => 8 - (intOf i).toNat)
      case atStart => exact ⟨0, by omega, rfl, hS0, hK0⟩
      case round =>
        clear hS0 hK0
        rename_i wx _
        obtain ⟨j, hj, rfl, hS, hK⟩ := hrel
        have hal := adds_length s V j
        have HAS : Hid (adds s V (j + 1) = (adds s V j).set j (IntKind.u32.wrap ((adds s V j).getD j 0 + V.getD j 0))) := Lib.hid (by rw [adds])
        have HC : Hid (j = 8 → comeF s l = adds s V j) := Lib.hid (fun e => by rw [e]; exact HCV.out (by first | trivial | rfl))
        generalize adds s V j = S at *
        have HAL := Lib.hid hal
        clear hal
        by_cases hj8 : j < 8
        · have hcj := hS.out.cellN j (by rw [HAL.out, HS8.out]; omega)
          have hfj := hS.out.free j
          have hix := run_index_nums (P := Try.prog) 136 112 8 .u32 V j Try.underlying136 Try.underlying112 (by kernel_rfl) HV8.out hj8
          go_wp2
          go_region
          go_wp2
          go_roundw
          case rel =>
            refine ⟨j + 1, by omega, by go_num, Lib.hid ?_, Lib.hid (grown_drew (grown_setCell hK.out _ _))⟩
            rw [HAS.out]
            exact (hS.out.put j _).drew
          case measure => simp [intOf]; omega
        · have hj8 : j = 8 := by omega
          subst hj8
          go_wp2
          go_end0
          exact ⟨rfl, by rw [HC.out (by first | trivial | rfl)]; exact hS.out, hK.out⟩
end Go.Proofs.Ytljmjeaocojnmaa.HSa
end
