/- Layer 6: New. -/
import Derived.Test.YtoiiacbbfhlocaaHDa
set_option linter.unusedVariables false
set_option linter.unusedSimpArgs false
namespace Go.Proofs.Ytoiiacbbfhlocaa.HDa
open Go.RowKit Go.Proofs.YtoiiacbbfhlocaaW.PrintWords Go.Proofs.YtoiiacbbfhlocaaW.PrintLast Go.Proofs.YtoiiacbbfhlocaaW.PrintMore Go.Proofs.Ytoiiacbbfhlocaa.Kit
def blk0 : Blk := ⟨List.replicate 72 0, List.replicate 72 0, List.replicate 72 0, false⟩
def zeroB : List Value := List.replicate 216 (.int .u8 0) ++ [.bool false]
theorem zeroB_at (k : Nat) (hk : k < 216) : zeroB[k]? = some (.int .u8 0) := by
  unfold zeroB
  rw [List.getElem?_append_left (by rw [List.length_replicate]; exact hk), List.getElem?_replicate, if_pos hk]
theorem zeroB_last : zeroB[216]? = some (.bool false) := by
  unfold zeroB
  rw [List.getElem?_append_right (by rw [List.length_replicate]; exact Nat.le_refl _), List.length_replicate]
  rfl
theorem zeroB_size : zeroB.toArray.size = 217 := by
  unfold zeroB
  rw [List.size_toArray, List.length_append, List.length_replicate]
  rfl
theorem info_blk : (Try.prog.info? 164).map (fun i => (i.zero, i.size, i.bytes)) = some (some (.agg zeroB.toArray), 217, 217) := by kernel_rfl
theorem run_make_rows {P : Program} (t e : TypeId) (zs : Array Value) (size bytes : Nat) (ht : P.underlying t = some (.slice e)) (hinfo : (P.info? e).map (fun i => (i.zero, i.size, i.bytes)) = some (some (.agg zs), size, bytes))
    (kl kc : IntKind) (n : Nat) (hbytes : bytes * n ≤ 281474976710656) (h63 : n ≤ 9223372036854775807) (w : World) :
    (Instr.makeSlice t (.int kl (n : Int)) (.int kc (n : Int))).run P w = .ok (.slice (some ⟨w.heap.size, 0, none⟩) n n) (w.alloc (.cells (madeCells zs (n * size)) e)) := by
  obtain ⟨i, hi, hzz⟩ := Option.map_eq_some_iff.1 hinfo
  simp only [Prod.mk.injEq] at hzz
  obtain ⟨hz, hs, hb⟩ := hzz
  have hb' : (i.bytes : Int) * (n : Int) ≤ 281474976710656 := by
    have h : ((i.bytes * n : Nat) : Int) ≤ 281474976710656 := by rw [hb]; omega
    rwa [Int.natCast_mul] at h
  have hr := run_make (P := P) w t e i (.agg zs) ht hi hz kl kc n n (by omega) (Int.le_refl _) hb' (by omega)
  simp only [Int.toNat_natCast, hs] at hr
  exact hr
theorem made_at (zs : Array Value) (s n i j : Nat) (v : Value) (hs : zs.size = s) (hi : i < n) (hv : zs[j]? = some v) : (madeCells zs (n * s))[i * s + j]? = some v := by
  have hj : j < s := by rw [← hs]; exact (Array.getElem?_eq_some_iff.1 hv).1
  have h1 : i * s + j < n * s := by
    have : (i + 1) * s ≤ n * s := Nat.mul_le_mul_right s hi
    rw [Nat.add_mul] at this
    omega
  have h2 : (i * s + j) % s = j := by rw [Nat.add_comm, Nat.add_mul_mod_self_right, Nat.mod_eq_of_lt hj]
  unfold madeCells
  rw [Array.getElem?_map, Array.getElem?_range, if_pos h1, hs]
  simp only [Option.map_some, h2]
  rw [getElem!_def, hv]
theorem blk0_at {W : World} {r n : Nat} {t : TypeId} {fr : Nat × Nat} (h : W.heap[r]? = some (.cells (madeCells zeroB.toArray (n * 217)) t fr)) (i : Nat) (hi : i < n) : BlkAt W r (i * 217) blk0 := by
  have key : ∀ (j : Nat) (v : Value), zeroB[j]? = some v → W.cell? ⟨r, i * 217 + j, none⟩ = some v := fun j v hv => by
    rw [cell_of_row W r _ _ _ _ h]
    exact made_at zeroB.toArray 217 n i j v zeroB_size hi (by rw [List.getElem?_toArray]; exact hv)
  have zr : ∀ (o : Nat), o + 72 ≤ 216 → W.rangeAt r (i * 217 + o) (nums .u8 (List.replicate 72 0)) := fun o ho j v hv => by
    rw [Nat.add_assoc]
    have hj : j < 72 := by have := (List.getElem?_eq_some_iff.1 hv).1; simpa [nums] using this
    refine key (o + j) v ?_
    rw [zeroB_at _ (by omega), ← hv]
    simp only [nums, List.getElem?_map, List.getElem?_replicate]
    rw [if_pos hj]
    rfl
  exact ⟨zr 0 (by omega), zr 72 (by omega), zr 144 (by omega), key 216 _ zeroB_last⟩
theorem blk0_fine : blk0.Fine := by
  have hb : Bytes (List.replicate 72 (0 : Int)) := fun x hx => by
    obtain rfl := (List.mem_replicate.1 hx).2
    decide
  exact ⟨rfl, rfl, rfl, hb, hb, hb⟩
theorem new_bad (n : Int) (w : World) (h : n < 1 ∨ 512 < n) : Calls Try.prog 48 #[.int .i64 n] w fun e w' => e = .returned (.tuple #[.pointer none, .int .i64 1]) ∧ w' = w := by
  go_enter Try.func48, Try.ntmps48
  rcases h with h | h
  · go_wp2_with fail
    go_ret2
    exact ⟨rfl, rfl⟩
  · have h1 : ¬ n < 1 := by omega
    go_wp2_with fail
    go_ret2
    exact ⟨rfl, rfl⟩
def NewOut (n : Nat) (w : World) (e : Ending) (w' : World) : Prop := ∃ g r, e = .returned (.tuple #[.pointer (some ⟨g, 0, none⟩), .int .i64 0]) ∧ DTab w.heap.size w' g r (List.replicate n blk0) ∧ Below w.heap.size w w'
set_option maxRecDepth 100000 in
theorem new_any (n : Nat) (w : World) (h1 : 1 ≤ n) (h2 : n ≤ 512) : Calls Try.prog 48 #[.int .i64 n] w (NewOut n w) := by
  have k1 : ¬ (n : Int) < 1 := by omega
  have k2 : ¬ (n : Int) > 512 := by omega
  have hmk := run_make_rows 152 164 zeroB.toArray 217 217 Try.underlying152 info_blk .i64 .i64 n (by omega) (by omega) w
  obtain ⟨Z, hZ⟩ : ∃ Z, Z = madeCells zeroB.toArray (n * 217) := ⟨_, rfl⟩
  rw [← hZ] at hmk
  have HZ := Lib.hid hZ
  clear hZ
  go_enter Try.func48, Try.ntmps48
  go_wp2_with fail
  go_ret2
  have hn : (w.alloc (Obj.cells Z 164)).heap.size = w.heap.size + 1 := by simp
  have hr : ((w.alloc (Obj.cells Z 164)).alloc (.cells #[.slice (some ⟨w.heap.size, 0, none⟩) n n] 154)).heap[w.heap.size]? = some (Obj.cells Z 164) :=
    ((below_alloc (Below.refl _ _) _).block w.heap.size (by omega)).trans (heap_alloc_new w _)
  refine ⟨w.heap.size + 1, w.heap.size, rfl, ⟨?_, ⟨Z, hr, by rw [HZ.out, size_madeCells]; simp⟩, fun i b hb => ?_, by omega, Nat.le_refl _⟩, below_alloc (below_alloc (Below.refl _ _) _) _⟩
  · have h := heap_alloc_new (w.alloc (Obj.cells Z 164)) (.cells #[.slice (some ⟨w.heap.size, 0, none⟩) n n] 154)
    rw [hn] at h
    simpa using h
  · rw [List.getElem?_replicate] at hb
    split at hb
    · rename_i hi
      obtain rfl := Option.some.inj hb
      exact ⟨blk0_at (n := n) (by rw [← HZ.out]; exact hr) i hi, blk0_fine⟩
    · cases hb
end Go.Proofs.Ytoiiacbbfhlocaa.HDa
