/- The contract of sha256's state.come, by hand. -/
import Derived.Test.YthnmbeooohgccaaHSa
import Derived.Laws.IdiomCopy
set_option linter.unusedVariables false
set_option linter.unusedSimpArgs false
namespace Go.Proofs.Ythnmbeooohgccaa.HSa
open Go.RowKit Go.Proofs.YthnmbeooohgccaaW.PrintWords Go.Proofs.YthnmbeooohgccaaW.PrintLast Go.Proofs.YthnmbeooohgccaaW.PrintMore Go.Proofs.Ythnmbeooohgccaa.Kit Go.Proofs.Ythnmbeooohgccaa.Sr

def big1 (e : Int) : Int := Go.bits .xor .u32 (Go.bits .xor .u32 (rotr e 6) (rotr e 11)) (rotr e 25)
def big0 (a : Int) : Int := Go.bits .xor .u32 (Go.bits .xor .u32 (rotr a 2) (rotr a 13)) (rotr a 22)
def oneS (v : List Int) (c m : Int) : Int :=
  v.getD 7 0 + big1 (v.getD 4 0) + Go.bits .xor .u32 (Go.bits .and .u32 (v.getD 4 0) (v.getD 5 0)) (Go.bits .andNot .u32 (v.getD 6 0) (v.getD 4 0)) + c + m
def twoS (v : List Int) : Int :=
  big0 (v.getD 0 0) + Go.bits .xor .u32 (Go.bits .xor .u32 (Go.bits .and .u32 (v.getD 0 0) (v.getD 1 0)) (Go.bits .and .u32 (v.getD 0 0) (v.getD 2 0))) (Go.bits .and .u32 (v.getD 1 0) (v.getD 2 0))
def vstep (m v : List Int) (i : Nat) : List Int :=
  [(oneS v (consts.getD i 0) (m.getD i 0) + twoS v) % 4294967296, v.getD 0 0, v.getD 1 0, v.getD 2 0, (v.getD 3 0 + oneS v (consts.getD i 0) (m.getD i 0)) % 4294967296, v.getD 4 0, v.getD 5 0, v.getD 6 0]
def vloop (m s : List Int) : Nat → List Int
  | 0 => s
  | i + 1 => vstep m (vloop m s i) i
theorem vloop_length (m s : List Int) (hs : s.length = 8) : ∀ n, (vloop m s n).length = 8
  | 0 => hs
  | n + 1 => rfl
def adds (s v : List Int) : Nat → List Int
  | 0 => s
  | i + 1 => (adds s v i).set i (IntKind.u32.wrap ((adds s v i).getD i 0 + v.getD i 0))
theorem adds_length (s v : List Int) : ∀ n, (adds s v n).length = s.length
  | 0 => rfl
  | n + 1 => by simp [adds, adds_length s v n]
def comeF (s l : List Int) : List Int := adds s (vloop (msg l 64) s 64) 8
theorem comeF_length (s l : List Int) : (comeF s l).length = s.length := adds_length _ _ _
structure ComeEnd (w : World) (gs : Nat) (xs : List Int) (e : Ending) (w' : World) : Prop where
  he : e = .returned (.tuple #[])
  arr : Arr .u32 127 w' gs xs
  grown : w.grownBy w' (some gs)
theorem run_index_nums {P : Program} (T e n : Nat) (k : IntKind) (xs : List Int) (j : Nat) (hu : P.underlying T = some (.array n e)) (he : P.underlying e = some (.int k)) (hi : (P.info? e).map (·.size) = some 1) (hl : xs.length = n) (hj : j < n) (w : World) :
    (Instr.index T (.agg (nums k xs).toArray) (.int .i64 (j : Int))).run P w = .ok (.int k (xs.getD j 0)) w := by
  cases hq : P.info? e with
  | none => simp [hq] at hi
  | some i =>
    have h1 : i.size = 1 := by simpa [hq] using hi
    have hjx : j < xs.length := by omega
    simp [Instr.index, run_underlying hu, sizeOf, typeInfo, hq, h1, asIntOf, hj, part, isAgg, run_underlying he, nums, hjx]
theorem grown_setCell {w W : World} {g : Nat} (h : w.grownBy W (some g)) (j : Nat) (v : Value) : w.grownBy (W.setCell ⟨g, j, none⟩ v) (some g) :=
  ⟨h.os, h.tape, h.output, by simpa using h.size, fun i hi hne => (Go.heap_setCell_other W _ i v (fun e => hne (by rw [e]))).trans (h.block i hi hne)⟩
theorem grown_drew {w W : World} {r : Option Nat} (h : w.grownBy W r) : w.grownBy W.drew r := ⟨h.os, h.tape, h.output, h.size, h.block⟩
theorem below_setCells {B : Nat} {g : Nat} (hg : B ≤ g) : ∀ (cs : List Value) (o : Nat) {w W : World}, Below B w W → Below B w (W.setCells g o cs)
  | [], _, _, _, h => h
  | c :: cs, o, _, _, h => below_setCells hg cs (o + 1) (h.setCell hg c)
attribute [local irreducible] msg vloop adds comeF consts
set_option maxHeartbeats 2000000 in
set_option maxRecDepth 100000 in
theorem come_any (gs : Nat) (s : List Int) (A : Option Addr) (c : Nat) (l : List Int) (w : World) (hs : Arr .u32 127 w gs s) (hs8 : s.length = 8) (hr : Kd.C (Kd.int .u8) w A l.length l) (hl : l.length = 64) :
    Calls Try.prog 90 #[.pointer (some ⟨gs, 0, none⟩), .slice A 64 c] w (ComeEnd w gs (comeF s l)) := by
  have HM := Lib.hid (message_any A c l w hr hl)
  have HS8 := Lib.hid hs8
  clear hr hl hs8
  go_enter Try.func90, Try.ntmps90
  go_wp2_with fail
  refine HM.out.mono ?_
  rintro e w1 ⟨rfl, hB1⟩
  go_wp2_with fail
  refine (constants_any w1).mono ?_
  rintro e w2 ⟨rfl, hB2⟩
  have hB02 := below_next hB1 hB2
  have hs2 := hs.next hB02
  clear hB1 hB2
  have hgs := hs2.lt
  go_wp2_with (first
    | ((with_reducible refine gate_dst (N := 4) rfl ?_); refine alloc_arr rfl 156 rfl .u32 (List.replicate 64 0) (fun w => Try.zeroValue156 w) (by first | (go_simp; done) | (go_simp; rfl)) ?_; intro w3 hA3 hB3; have hs3 := hs2.next hB3)
    | ((with_reducible refine gate_dst (N := 5) rfl ?_); refine alloc_arr rfl 156 rfl .u32 (List.replicate 64 0) (fun w => Try.zeroValue156 w) (by first | (go_simp; done) | (go_simp; rfl)) ?_; intro w4 hA4 hB4; have hA34 := hA3.next hB4; have hs4 := hs3.next hB4; have hg24 := hA3.lt; have hsz4 := hA4.lt; have hB24 := below_next hB3 hB4)
    | ((with_reducible refine gate_store (t := 156) (p := 4) rfl ?_); refine store_arr rfl 156 _ _ rfl w2.heap.size .u32 (msg l 64) rfl rfl 156 _ hA34 (by rw [msg_length]; rfl) (by rw [msg_length]; kernel_rfl) ?_; intro w5 hA5 hw5; have hA45 : Arr .u32 156 w5 w3.heap.size (List.replicate 64 0) := (by rw [hw5]; exact hA4.setRow_far _ (by omega) _); have hs5 : Arr .u32 127 w5 gs s := (by rw [hw5]; exact hs4.setRow_far _ (by omega) _); have hB5 : Below w2.heap.size w2 w5 := (by rw [hw5]; exact below_setRow hB24 _ (Nat.le_refl _) _); have hz5 : w3.heap.size < w5.heap.size := hA45.lt; clear hw5)
    | ((with_reducible refine gate_store (t := 156) (p := 5) rfl ?_); refine store_arr rfl 156 _ _ rfl w3.heap.size .u32 consts rfl rfl 156 _ hA45 (by unfold consts; rfl) (by unfold consts; kernel_rfl) ?_; intro w6 hA6 hw6; have hm6 : Arr .u32 156 w6 w2.heap.size (msg l 64) := (by rw [hw6]; exact hA5.setRow_far _ (by omega) _); have hs6 : Arr .u32 127 w6 gs s := (by rw [hw6]; exact hs5.setRow_far _ (by omega) _); have hB6 : Below w2.heap.size w2 w6 := (by rw [hw6]; exact below_setRow hB5 _ (by omega) _); have hz6 : w3.heap.size < w6.heap.size := hA6.lt; clear hw6)
    | ((with_reducible refine gate_dst (N := 19) rfl ?_); refine load_arr rfl 127 _ rfl gs rfl .u32 _ _ _ _ hs6 Try.underlying127 (by rw [HS8.out]; kernel_rfl) ?_)
    | ((with_reducible refine gate_dst (N := 6) rfl ?_); refine alloc_arr rfl 127 rfl .u32 (List.replicate 8 0) (fun w => Try.zeroValue127 w) (by first | (go_simp; done) | (go_simp; rfl)) ?_; intro w7 hA7 hB7)
    | ((with_reducible refine gate_store (t := 127) (p := 6) rfl ?_); refine store_arr rfl 127 _ _ rfl w6.heap.size .u32 s rfl rfl 127 _ hA7 (by rw [HS8.out]; rfl) (by rw [HS8.out]; kernel_rfl) ?_; intro w8 hA8 hw8; have hm8 : Arr .u32 156 w8 w2.heap.size (msg l 64) := (by rw [hw8]; exact (hm6.next hB7).setRow_far _ (by omega) _); have hc8 : Arr .u32 156 w8 w3.heap.size consts := (by rw [hw8]; exact (hA6.next hB7).setRow_far _ (by omega) _); have hs8 : Arr .u32 127 w8 gs s := (by rw [hw8]; exact (hs6.next hB7).setRow_far _ (by omega) _); have hB8 : Below w2.heap.size w2 w8 := (by rw [hw8]; exact below_setRow (below_then hB6 hB6.size hB7) _ (by omega) _); clear hw8)
    | fail)
  have hw02 : w.heap.size ≤ w2.heap.size := hB02.size
  generalize hgmE : w2.heap.size = gm at *
  have HGM := Lib.hid hgmE
  clear hgmE
  generalize w3.heap.size = gc at *
  generalize w6.heap.size = gv at *
  obtain ⟨M, hM⟩ : ∃ M, M = msg l 64 := ⟨_, rfl⟩
  rw [← hM] at hm8
  have hM64 : M.length = 64 := by rw [hM, msg_length]
  have HMM := Lib.hid hM
  have HM64 := Lib.hid hM64
  clear hM hM64
  have HA0 : Hid (Arr .u32 127 w8 gv (vloop M s 0)) := Lib.hid (by unfold vloop; exact hA8)
  clear hA8
  go_loopw [20] (fun i wr => ∃ k : Nat, k ≤ 64 ∧ i = .int .i64 k ∧ Hid (Arr .u32 127 wr gv (vloop M s k)) ∧ Hid (Below gv w8 wr)) (fun i _ => 64 - (intOf i).toNat)
  case atStart => exact ⟨0, by omega, rfl, HA0, Lib.hid (Below.refl _ _)⟩
  case round =>
    clear HA0
    obtain ⟨k, hk, rfl, hA, hB⟩ := hrel
    have hVlen := vloop_length M s HS8.out k
    have HVS : Hid (vloop M s (k + 1) = vstep M (vloop M s k) k) := Lib.hid (by rw [vloop])
    have HCV : Hid (k = 64 → comeF s l = adds s (vloop M s k) 8) := Lib.hid (fun e => by rw [e, HMM.out]; unfold comeF; rfl)
    generalize vloop M s k = V at *
    have HV8 := Lib.hid hVlen
    clear hVlen
    by_cases h64 : k < 64
    · have hv0 := hA.out.cellN 0 (by rw [HV8.out]; omega)
      have hv1 := hA.out.cellN 1 (by rw [HV8.out]; omega)
      have hv2 := hA.out.cellN 2 (by rw [HV8.out]; omega)
      have hv4 := hA.out.cellN 4 (by rw [HV8.out]; omega)
      have hv5 := hA.out.cellN 5 (by rw [HV8.out]; omega)
      have hv6 := hA.out.cellN 6 (by rw [HV8.out]; omega)
      have hv7 := hA.out.cellN 7 (by rw [HV8.out]; omega)
      have hmk := (hm8.below hB.out (by omega)).cellN k (by rw [HM64.out]; omega)
      have hck := (hc8.below hB.out (by omega)).cellN k (by unfold consts; simp; omega)
      have hk0 : (0 : Int) ≤ (k : Int) := by omega
      go_wp2
      go_region
      go_wp2_with fail
      go_region_held3 (fun w' => w'.cell? ⟨gv, 7, none⟩ = some (.int .u32 (V.getD 7 0)) ∧ w'.cell? ⟨gv, 5, none⟩ = some (.int .u32 (V.getD 5 0)) ∧ w'.cell? ⟨gv, 6, none⟩ = some (.int .u32 (V.getD 6 0)) ∧ w'.cell? ⟨gm, k, none⟩ = some (.int .u32 (M.getD k 0)) ∧ w'.cell? ⟨gc, k, none⟩ = some (.int .u32 (consts.getD k 0)))
        (go_keep)
        ((go_at_call 115; refine (right_any _ _ _ (by omega)).mono ?_; rintro e w' ⟨rfl, rfl⟩))
      go_wp2_with fail
      go_region_held3 (fun w' => w'.cell? ⟨gv, 1, none⟩ = some (.int .u32 (V.getD 1 0)) ∧ w'.cell? ⟨gv, 2, none⟩ = some (.int .u32 (V.getD 2 0)))
        (go_keep)
        ((go_at_call 115; refine (right_any _ _ _ (by omega)).mono ?_; rintro e w' ⟨rfl, rfl⟩))
      go_wp2_with fail
      have hsh : ∃ V' : List Int, V' = [V.getD 0 0, V.getD 0 0, V.getD 1 0, V.getD 2 0, V.getD 3 0, V.getD 4 0, V.getD 5 0, V.getD 6 0] ∧ V.take 1 ++ V.take 7 ++ V.drop (1 + (V.take 7).length) = V' := by
        have hl := HV8.out
        match V, hl with
        | [a0, a1, a2, a3, a4, a5, a6, a7], _ => exact ⟨_, rfl, rfl⟩
      obtain ⟨V', hV', hV'2⟩ := hsh
      have hA9 := hA.out.drew.drew.drew.drew.cells (V.take 7) 1 (by rw [List.length_take, HV8.out]; omega)
      rw [hV'2] at hA9
      have hB9 : Below gv w8 (wr.drew.drew.drew.drew.setCells gv 1 (nums .u32 (V.take 7))) := below_setCells (Nat.le_refl _) _ _ (below_drew (below_drew (below_drew (below_drew hB.out))))
      have HA9 := Lib.hid hA9
      have HB9 := Lib.hid hB9
      have HVV := Lib.hid hV'
      clear hA9 hB9 hV'2 hV'
      have hcp := fun ty => run_copy_cells (P := Try.prog) wr.drew.drew.drew.drew 73 73 ty 76 gv 1 7 7 ⟨gv, 0, none⟩ 7 8 (nums .u32 (V.take 7)) Try.underlying73 (by kernel_rfl) (by simp [nums, HV8.out])
        (fun j v hj => by rw [add_plain]; have := hA.out.drew.drew.drew.drew.range j v (by
          have h7 : j < 7 := by have := (List.getElem?_eq_some_iff.1 hj).1; simp [nums] at this; omega
          rw [← hj]; simp [nums, List.getElem?_take, h7]); simpa using this)
        (fun j hj => by rw [hA.out.drew.drew.drew.drew.cellN (1 + j) (by simp [nums] at hj; rw [HV8.out]; omega)]; rfl) (fun j hj => hA.out.drew.drew.drew.drew.free _) (fun v hv => by simp only [nums, List.mem_map] at hv; obtain ⟨x, _, rfl⟩ := hv; rfl)
      clear hv0 hv1 hv2 hv4 hv5 hv6 hv7 hmk hck
      go_region
      clear hcp
      generalize wr.drew.drew.drew.drew.setCells gv 1 (nums .u32 (V.take 7)) = W9 at *
      rw [HVV.out] at HA9
      have h94 := HA9.out.cellN 4 (by simp)
      have h90 := HA9.out.cellN 0 (by simp)
      have hf4 := HA9.out.free 4
      have hf0 := HA9.out.free 0
      have hne : V'.length = V'.length := rfl
      clear hne
      go_wp2
      go_roundw
      case rel =>
        refine ⟨k + 1, by omega, by go_num, Lib.hid ?_, Lib.hid (below_setCell (below_setCell HB9.out _ _ (Nat.le_refl _) _) _ _ (Nat.le_refl _) _)⟩
        rw [HVS.out]
        exact (HA9.out.put 4 _).put 0 _
      case measure => simp [intOf]; omega
    · have hk64 : k = 64 := by omega
      subst hk64
      go_wp2_with (first
        | ((with_reducible refine gate_dst (N := 93) rfl ?_); refine load_arr rfl 127 _ rfl gv rfl .u32 _ _ _ _ hA.out Try.underlying127 (by rw [HV8.out]; kernel_rfl) ?_)
        | fail)
      have hgw : gs < w.heap.size := hs.lt
      have hS0 : Hid (Arr .u32 127 wr gs (adds s V 0)) := Lib.hid (by unfold adds; exact hs8.below hB.out (by omega))
      have hK0 : Hid (w.grownBy wr (some gs)) := Lib.hid (by
        have h8 : Below w.heap.size w w8 := below_next hB02 (by rw [HGM.out]; exact hB8)
        exact grown_of_below (h8.trans (hB.out.mono (by omega))) _)
      go_loopw [94] (fun i wx => ∃ j : Nat, j ≤ 8 ∧ i = .int .i64 j ∧ Hid (Arr .u32 127 wx gs (adds s V j)) ∧ Hid (w.grownBy wx (some gs))) (fun i _ => 8 - (intOf i).toNat)
      case atStart => exact ⟨0, by omega, rfl, hS0, hK0⟩
      case round =>
        clear hS0 hK0
        rename_i wx _
        obtain ⟨j, hj, rfl, hS, hK⟩ := hrel
        have hal := adds_length s V j
        have HAS : Hid (adds s V (j + 1) = (adds s V j).set j (IntKind.u32.wrap ((adds s V j).getD j 0 + V.getD j 0))) := Lib.hid (by rw [adds])
        have HC : Hid (j = 8 → comeF s l = adds s V j) := Lib.hid (fun e => by rw [e]; exact HCV.out (by first | trivial | rfl))
        generalize adds s V j = S at *
        have HAL := Lib.hid hal
        clear hal
        by_cases hj8 : j < 8
        · have hcj := hS.out.cellN j (by rw [HAL.out, HS8.out]; omega)
          have hfj := hS.out.free j
          have hix := run_index_nums (P := Try.prog) 127 76 8 .u32 V j Try.underlying127 Try.underlying76 (by kernel_rfl) HV8.out hj8
          go_wp2
          go_region
          go_wp2
          go_roundw
          case rel =>
            refine ⟨j + 1, by omega, by go_num, Lib.hid ?_, Lib.hid (grown_drew (grown_setCell hK.out _ _))⟩
            rw [HAS.out]
            exact (hS.out.put j _).drew
          case measure => simp [intOf]; omega
        · have hj8 : j = 8 := by omega
          subst hj8
          go_wp2
          go_end0
          exact ⟨rfl, by rw [HC.out (by first | trivial | rfl)]; exact hS.out, hK.out⟩
end Go.Proofs.Ythnmbeooohgccaa.HSa
