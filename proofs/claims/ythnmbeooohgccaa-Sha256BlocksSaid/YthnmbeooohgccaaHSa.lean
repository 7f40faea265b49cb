/- Contracts of sha256's functions, by hand. -/
import Derived.Test.YthnmbeooohgccaaSr
import Derived.Test.YthnmbeooohgccaaArr
import Derived.Deep.RegionHeld3
import Derived.IntWalk
set_option linter.unusedVariables false
set_option linter.unusedSimpArgs false
namespace Go.Proofs.Ythnmbeooohgccaa.HSa
open Go.RowKit Go.Proofs.YthnmbeooohgccaaW.PrintWords Go.Proofs.YthnmbeooohgccaaW.PrintLast Go.Proofs.YthnmbeooohgccaaW.PrintMore Go.Proofs.Ythnmbeooohgccaa.Kit Go.Proofs.Ythnmbeooohgccaa.Sr

def Tells32 (x : Int) (w : World) (e : Ending) (w' : World) : Prop := e = .returned (.int .u32 x) ∧ w' = w
set_option maxHeartbeats 400000 in
theorem rot_any (x n : Int) (k : Int) (w : World) (hk : Go.bits .and .u64 (IntKind.u64.wrap n) 31 = k) (h0 : 0 ≤ k) (h1 : k ≤ 31) :
    Calls Try.prog 127 #[.int .u32 x, .int .i64 n] w (Tells32 (Go.bits .or .u32 (x * 2 ^ k.toNat % 4294967296) (x / 2 ^ (32 - k).toNat)) w) := by
  go_enter Try.func127, Try.ntmps127
  go_wp2
  go_ret
  exact ⟨rfl, rfl⟩
/-- n turned to the right, at the counts that occur -/
theorem rot_count (n : Int) (h : n = 6 ∨ n = 11 ∨ n = 25 ∨ n = 2 ∨ n = 13 ∨ n = 22 ∨ n = 7 ∨ n = 18 ∨ n = 17 ∨ n = 19) : Go.bits .and .u64 (IntKind.u64.wrap (-n)) 31 = 32 - n := by
  rcases h with rfl | rfl | rfl | rfl | rfl | rfl | rfl | rfl | rfl | rfl <;> decide +kernel
def rotr (x n : Int) : Int := Go.bits .or .u32 (x * 2 ^ (32 - n).toNat % 4294967296) (x / 2 ^ n.toNat)
set_option maxHeartbeats 400000 in
theorem right_any (x n : Int) (w : World) (h : n = 6 ∨ n = 11 ∨ n = 25 ∨ n = 2 ∨ n = 13 ∨ n = 22 ∨ n = 7 ∨ n = 18 ∨ n = 17 ∨ n = 19) :
    Calls Try.prog 115 #[.int .u32 x, .int .i64 n] w (Tells32 (rotr x n) w) := by
  have h4 := rot_any x (-n) (32 - n) w (rot_count n h) (by omega) (by omega)
  rw [show 32 - (32 - n) = n from by omega] at h4
  have H := Lib.hid h4
  clear h4
  have h2 : 0 ≤ n := by omega
  have h3 : n ≤ 25 := by omega
  clear h
  go_enter Try.func115, Try.ntmps115
  go_wp2_with fail
  refine H.out.mono ?_
  rintro e w' ⟨rfl, rfl⟩
  go_wp2
  go_ret
  exact ⟨rfl, rfl⟩

/-! sha256.constants -/
def consts : List Int := [0x428A2F98, 0x71374491, 0xB5C0FBCF, 0xE9B5DBA5, 0x3956C25B, 0x59F111F1, 0x923F82A4, 0xAB1C5ED5,
  0xD807AA98, 0x12835B01, 0x243185BE, 0x550C7DC3, 0x72BE5D74, 0x80DEB1FE, 0x9BDC06A7, 0xC19BF174,
  0xE49B69C1, 0xEFBE4786, 0x0FC19DC6, 0x240CA1CC, 0x2DE92C6F, 0x4A7484AA, 0x5CB0A9DC, 0x76F988DA,
  0x983E5152, 0xA831C66D, 0xB00327C8, 0xBF597FC7, 0xC6E00BF3, 0xD5A79147, 0x06CA6351, 0x14292967,
  0x27B70A85, 0x2E1B2138, 0x4D2C6DFC, 0x53380D13, 0x650A7354, 0x766A0ABB, 0x81C2C92E, 0x92722C85,
  0xA2BFE8A1, 0xA81A664B, 0xC24B8B70, 0xC76C51A3, 0xD192E819, 0xD6990624, 0xF40E3585, 0x106AA070,
  0x19A4C116, 0x1E376C08, 0x2748774C, 0x34B0BCB5, 0x391C0CB3, 0x4ED8AA4A, 0x5B9CCA4F, 0x682E6FF3,
  0x748F82EE, 0x78A5636F, 0x84C87814, 0x8CC70208, 0x90BEFFFA, 0xA4506CEB, 0xBEF9A3F7, 0xC67178F2]
def GivesArr (k : IntKind) (xs : List Int) (w : World) (e : Ending) (w' : World) : Prop := e = .returned (.agg (nums k xs).toArray) ∧ Below w.heap.size w w'
set_option maxHeartbeats 1000000 in
set_option maxRecDepth 100000 in
theorem constants_any (w : World) : Calls Try.prog 114 #[] w (GivesArr .u32 consts w) := by
  go_enter Try.func114, Try.ntmps114
  go_wp2_with (first
    | ((with_reducible refine gate_dst (N := 0) rfl ?_); refine alloc_arr rfl 156 rfl .u32 (List.replicate 64 0) (fun w => Try.zeroValue156 w) (by first | (go_simp; done) | (go_simp; rfl)) ?_; intro w1 hA hB)
    | ((with_reducible refine gate_store (t := 156) (p := 0) rfl ?_); refine store_arr rfl 156 _ _ rfl w.heap.size .u32 consts rfl rfl 156 _ hA rfl (by kernel_rfl) ?_; intro w2 hA2 hw2; subst hw2)
    | fail)
  exact bodyPost_ret (results_arr rfl _ _ w.heap.size .u32 _ _ _ consts rfl hA2 Try.underlying156 (by kernel_rfl)) rfl ⟨rfl, below_setRow hB _ (Nat.le_refl _) _⟩

/-! sha256.message -/
def word4 (l : List Int) (i : Nat) : Int :=
  Go.bits .or .u32 (Go.bits .or .u32 (Go.bits .or .u32 (l.getD (4 * i) 0 % 4294967296 * 16777216 % 4294967296) (l.getD (4 * i + 1) 0 % 4294967296 * 65536 % 4294967296)) (l.getD (4 * i + 2) 0 % 4294967296 * 256 % 4294967296)) (l.getD (4 * i + 3) 0 % 4294967296)
def s0 (x : Int) : Int := Go.bits .xor .u32 (Go.bits .xor .u32 (rotr x 7) (rotr x 18)) (x / 8)
def s1 (x : Int) : Int := Go.bits .xor .u32 (Go.bits .xor .u32 (rotr x 17) (rotr x 19)) (x / 1024)
def wordN (m : List Int) (i : Nat) : Int := IntKind.u32.wrap (IntKind.u32.wrap (IntKind.u32.wrap (m.getD (i - 16) 0 + m.getD (i - 7) 0) + s0 (m.getD (i - 15) 0)) + s1 (m.getD (i - 2) 0))
def mstep (l m : List Int) (i : Nat) : List Int := m.set i (if i < 16 then word4 l i else wordN m i)
def msg (l : List Int) : Nat → List Int
  | 0 => List.replicate 64 0
  | i + 1 => mstep l (msg l i) i
theorem msg_length (l : List Int) : ∀ n, (msg l n).length = 64
  | 0 => by simp [msg]
  | n + 1 => by simp [msg, mstep, msg_length l n]
set_option maxHeartbeats 1000000 in
set_option maxRecDepth 100000 in
theorem message_any (A : Option Addr) (c : Nat) (l : List Int) (w : World) (hr : Kd.C (Kd.int .u8) w A l.length l) (hl : l.length = 64) :
    Calls Try.prog 113 #[.slice A 64 c] w (GivesArr .u32 (msg l 64) w) := by
  have HR := Lib.hid hr
  have HL := Lib.hid hl
  clear hr hl
  go_enter Try.func113, Try.ntmps113
  go_wp2_with (first
    | ((with_reducible refine gate_dst (N := 2) rfl ?_); refine alloc_arr rfl 156 rfl .u32 (List.replicate 64 0) (fun w => Try.zeroValue156 w) (by first | (go_simp; done) | (go_simp; rfl)) ?_; intro w1 hA1 hB1)
    | ((with_reducible refine gate_dst (N := 3) rfl ?_); refine alloc_arr rfl 156 rfl .u32 (List.replicate 64 0) (fun w => Try.zeroValue156 w) (by first | (go_simp; done) | (go_simp; rfl)) ?_; intro w2 hA2 hB2)
    | fail)
  have hg1 : w.heap.size ≤ w1.heap.size := hB1.size
  have hlt1 := hA1.lt
  generalize hgg : w1.heap.size = g at *
  have HG := Lib.hid hgg
  clear hgg
  have HA0 : Hid (Arr .u32 156 w2 g (msg l 0)) := Lib.hid hA2
  have HB0 := Lib.hid hB2
  clear hA2 hB2
  go_loopw [7] (fun i wr => ∃ k : Nat, k ≤ 64 ∧ i = .int .i64 k ∧ Hid (Arr .u32 156 wr g (msg l k)) ∧ Hid (Below g w1 wr)) (fun i _ => 64 - (intOf i).toNat)
  case atStart => exact ⟨0, by omega, rfl, HA0, HB0⟩
  case round =>
    clear HA0 HB0
    obtain ⟨k, hk, rfl, hA, hB⟩ := hrel
    by_cases h16 : k < 16
    · obtain ⟨b, off, rfl, hc⟩ := C_cells HR.out (by have := HL.out; omega)
      have hbb : Below w.heap.size w wr := below_next hB1 (by rw [HG.out]; exact hB.out)
      have hq : ∀ j, j < 64 → wr.cell? ⟨b, off + j, none⟩ = some (.int .u8 (l.getD j 0)) := fun j hj => by
        have h := hc j (by have := HL.out; omega)
        exact (hbb.cell (World.block_lt_of_cell? w _ h)).trans h
      have hd0 := hq (4 * k) (by omega)
      have hd1 := hq (4 * k + 1) (by omega)
      have hd2 := hq (4 * k + 2) (by omega)
      have hd3 := hq (4 * k + 3) (by omega)
      clear hc hq
      have hcell := hA.out.cellN k (by rw [msg_length]; omega)
      have hfr := hA.out.free k
      go_wp2
      go_region
      have HM : Hid (msg l (k + 1) = (msg l k).set k (word4 l k)) := Lib.hid (by show mstep l (msg l k) k = _; unfold mstep; rw [if_pos h16])
      all_goals
        go_wp2
        go_roundw
        case rel => exact ⟨k + 1, by omega, by go_num, Lib.hid (by rw [HM.out]; exact (hA.out.put k _).drew), Lib.hid (below_drew (below_setCell hB.out _ _ (Nat.le_refl _) _))⟩
        case measure => simp [intOf]; omega
    · by_cases h64 : k < 64
      · have hlen := msg_length l k
        have hc15 := hA.out.cellN (k - 15) (by omega)
        have hc2 := hA.out.cellN (k - 2) (by omega)
        have hc16 := hA.out.cellN (k - 16) (by omega)
        have hc7 := hA.out.cellN (k - 7) (by omega)
        have hcell := hA.out.cellN k (by omega)
        have hfr := hA.out.free k
        have HL2 := Lib.hid hlen
        clear hlen
        go_wp2
        go_region
        all_goals
          go_wp2_with fail
        have hs16 : ∀ v, (wr.setCell ⟨g, k, none⟩ v).cell? ⟨g, k - 16, none⟩ = some (.int .u32 ((msg l k).getD (k - 16) 0)) := fun v => by
          rw [World.cell?_setCell_other]
          · exact hc16
          · intro e; injection e with _ e; omega
        have hs7 : ∀ v, (wr.setCell ⟨g, k, none⟩ v).cell? ⟨g, k - 7, none⟩ = some (.int .u32 ((msg l k).getD (k - 7) 0)) := fun v => by
          rw [World.cell?_setCell_other]
          · exact hc7
          · intro e; injection e with _ e; omega
        have hb16 : (0 : Int) ≤ (k : Int) - 16 := by omega
        have hb7 : (0 : Int) ≤ (k : Int) - 7 := by omega
        have hb16' : (16 : Int) ≤ (k : Int) := by omega
        have hb7' : (7 : Int) ≤ (k : Int) := by omega
        have hu16' : (k : Int) < 80 := by omega
        have hu7' : (k : Int) < 71 := by omega
        have hu16 : (k : Int) - 16 < 64 := by omega
        have hu7 : (k : Int) - 7 < 64 := by omega
        have ht16 : ((k : Int) - 16).toNat = k - 16 := by omega
        have ht7 : ((k : Int) - 7).toNat = k - 7 := by omega
        have hw16 : IntKind.i64.wrap ((k : Int) - 16) = (k : Int) - 16 := IntWalk.i64_in _ (by omega)
        have hw7 : IntKind.i64.wrap ((k : Int) - 7) = (k : Int) - 7 := IntWalk.i64_in _ (by omega)
        have HM : Hid (msg l (k + 1) = (msg l k).set k (wordN (msg l k) k)) := Lib.hid (by show mstep l (msg l k) k = _; unfold mstep; rw [if_neg h16])
        go_region_held3 (fun w' => w'.cell? ⟨g, k - 16, none⟩ = some (.int .u32 ((msg l k).getD (k - 16) 0)) ∧ w'.cell? ⟨g, k - 7, none⟩ = some (.int .u32 ((msg l k).getD (k - 7) 0)))
          (first | go_keep | exact ⟨hs16 _, hs7 _⟩)
          ((go_at_call 115; refine (right_any _ _ _ (by omega)).mono ?_; rintro e w' ⟨rfl, rfl⟩))
        clear hs16 hs7 hw16 hw7 ht16 ht7
        go_wp2
        go_roundw
        case rel => exact ⟨k + 1, by omega, by go_num, Lib.hid (by rw [HM.out]; exact (hA.out.put k _).drew.drew), Lib.hid (below_drew (below_drew (below_setCell hB.out _ _ (Nat.le_refl _) _)))⟩
        case measure => simp [intOf]; omega
      · have hk64 : k = 64 := by omega
        subst hk64
        go_wp2_with (first
          | ((with_reducible refine gate_dst (N := 85) rfl ?_); refine load_arr rfl 156 _ rfl g rfl .u32 _ _ _ _ hA.out Try.underlying156 (by rw [msg_length]; kernel_rfl) ?_)
          | ((with_reducible refine gate_store (t := 156) (p := 2) rfl ?_); refine store_arr rfl 156 _ _ rfl w.heap.size .u32 (msg l 64) rfl rfl 156 _ (hA1.below (by exact hB.out) hlt1) (by rw [msg_length]; rfl) (by rw [msg_length]; kernel_rfl) ?_; intro w3 hA3 hw3; subst hw3)
          | fail)
        exact bodyPost_ret (results_arr rfl _ _ w.heap.size .u32 _ _ _ (msg l 64) rfl hA3 Try.underlying156 (by rw [msg_length]; kernel_rfl)) rfl ⟨rfl, below_setRow (below_next hB1 (by rw [HG.out]; exact hB.out)) _ (Nat.le_refl _) _⟩
end Go.Proofs.Ythnmbeooohgccaa.HSa
