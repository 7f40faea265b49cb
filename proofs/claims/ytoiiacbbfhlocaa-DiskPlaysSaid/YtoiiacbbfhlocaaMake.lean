/- Slices that are made whole: a block of numbers as an array and as a row of the call's own; copy into it. -/
import Derived.Test.YtoiiacbbfhlocaaArm
set_option linter.unusedVariables false
set_option linter.unusedSimpArgs false
namespace Go.Proofs.Ytoiiacbbfhlocaa.Kit
open Go.RowKit Go.Proofs.YtoiiacbbfhlocaaW.PrintWords Go.Proofs.YtoiiacbbfhlocaaW.PrintLast Go.Proofs.YtoiiacbbfhlocaaW.PrintMore
theorem Arr.row {k : IntKind} {e : TypeId} {w : World} {g : Nat} {xs : List Int} (h : Arr k e w g xs) (base n : Nat) (hn : xs.length = n) (hb : base ≤ g) (h1 : n ≤ 1000000) (ok : Nat → Prop) (hok : ok g) : Kd.R (Kd.int k) e w base ok (.slice (some ⟨g, 0, none⟩) n n) xs := by
  subst hn
  refine ⟨fun k hk => ?_, nums k xs, ⟨?_, .inr ⟨g, xs.length, (nums k xs).toArray, rfl, hb, h.out, Nat.le_refl _, by unfold maxLen; omega, ?_, ?_⟩⟩, ?_⟩
  · simp only [Value.ownBlock] at hk
    injection hk with hk
    subst hk
    exact hok
  · show (nums _ xs).length = xs.length * 1
    simp [nums]
  · show _ = xs.length * 1
    simp [nums]
  · show List.take (xs.length * 1) (nums k xs) = nums k xs
    exact List.take_of_length_le (by simp [nums])
  · refine ⟨by simp [nums, Kd.int, Kd.scalar], fun j p hp => ?_⟩
    have hj : j < xs.length := (List.getElem?_eq_some_iff.1 hp).1
    have e1 : ((nums k xs).drop (j * (Kd.int k).sz)).take (Kd.int k).sz = [Value.int k p] := by
      show ((nums k xs).drop (j * 1)).take 1 = _
      rw [Nat.mul_one]
      apply List.ext_getElem?
      intro i
      cases i with
      | zero => simp [nums, hp]
      | succ i => simp; omega
    rw [e1]
    rfl
section
variable {P : Program} {ops : Array Oper} {rest : List Oper} {o : Oper} {a : Act} {Q : Exit → Act → World → Prop} {W : World}
theorem make_arr (hgd : o.guard = none) (T : TypeId) (x y : Operand) (ho : o.op = .makeSlice T x y) (e : TypeId) (k : IntKind) (n : Nat) (hx : a.eval x = .int .i64 n) (hy : a.eval y = .int .i64 n)
    (hmk : ∀ w : World, (Instr.makeSlice T (.int .i64 (n : Int)) (.int .i64 (n : Int))).run P w = .ok (.slice (some ⟨w.heap.size, 0, none⟩) n n) (w.alloc (.cells (nums k (List.replicate n 0)).toArray e)))
    (h : ∀ w1, Arr k e w1 W.heap.size (List.replicate n 0) → Below W.heap.size W w1 → wpList P ops Q rest (a.put o.dst (.slice (some ⟨W.heap.size, 0, none⟩) n n)) w1) : wpList P ops Q (o :: rest) a W := by
  refine Kd.event_run hgd ?_ (h _ (Arr.new W k e _) (below_alloc (Below.refl _ _) _))
  unfold execOp
  simp only [ho, hx, hy, Sem.run_bind, hmk W, Result.andThen_ok, Sem.run_pure]
/-- copy into a block that is known whole, out of any slice that is read -/
theorem copy_wp {k : IntKind} {Td : TypeId} (hgd : o.guard = none) (d s : Operand) (dT sT e : TypeId) (ho : o.op = .call { callee := .builtin .copy, args := #[d, s], argTypes := #[dT, sT] })
    (gd dl dc : Nat) (A : Option Addr) (sl sc : Nat) (xs ys : List Int) (hd : a.eval d = .slice (some ⟨gd, 0, none⟩) dl dc) (hs : a.eval s = .slice A sl sc) (hA : Arr k Td W gd xs) (hC : Kd.C (Kd.int k) W A sl ys)
    (hu : P.underlying dT = some (.slice e)) (hi : (P.info? e).map (·.size) = some 1) (hxl : xs.length = dl) (hle : sl ≤ dl)
    (h : ∀ w1, Arr k Td w1 gd (ys ++ xs.drop sl) → w1 = W.setCells gd 0 (nums k ys) → wpList P ops Q rest (a.put o.dst (goInt sl)) w1) : wpList P ops Q (o :: rest) a W := by
  have hyl : ys.length = sl := hC.1
  have hw : Arr k Td (W.setCells gd 0 (nums k ys)) gd (ys ++ xs.drop sl) := by
    have := hA.cells ys 0 (by omega)
    rwa [List.take_zero, List.nil_append, Nat.zero_add, hyl] at this
  have hrun : (Builtin.copy_ #[dT, sT] o.type #[.slice (some ⟨gd, 0, none⟩) dl dc, .slice A sl sc]).run P W = .ok (goInt sl) (W.setCells gd 0 (nums k ys)) := by
    by_cases h0 : sl = 0
    · subst h0
      have hy : ys = [] := List.length_eq_zero_iff.1 hyl
      subst hy
      have := run_copy_none (P := P) W dT sT o.type e (some ⟨gd, 0, none⟩) A dl dc 0 sc hu hi (by simp)
      simpa [nums, World.setCells] using this
    · obtain ⟨b, off, rfl, hc⟩ := C_cells hC (by omega)
      have hl : (nums k ys).length = sl := by simp [nums, hyl]
      have := run_copy_cells (P := P) W dT sT o.type e gd 0 dl dc ⟨b, off, none⟩ sl sc (nums k ys) hu hi (by rw [hl]; exact (Nat.min_eq_left hle).symm)
        (fun j v hj => by
          have hjn : j < sl := by have := (List.getElem?_eq_some_iff.1 hj).1; omega
          rw [show (⟨b, off, none⟩ : Addr).add j = ⟨b, off + j, none⟩ from by unfold Addr.add; split <;> simp_all, hc j hjn, ← hj]
          simp [nums, show j < ys.length from by omega])
        (fun j hj => by rw [Nat.zero_add, hA.cellN j (by omega)]; rfl) (fun j hj => hA.free _)
        (fun v hv => by simp only [nums, List.mem_map] at hv; obtain ⟨x, _, rfl⟩ := hv; rfl)
      rwa [hl] at this
  refine Kd.event_run hgd ?_ (h _ hw rfl)
  simp [execOp, ho, resolve, invoke, builtin, hd, hs, hrun, Result.andThen]
end
end Go.Proofs.Ytoiiacbbfhlocaa.Kit
