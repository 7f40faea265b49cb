/- Texts of this claim, laid together by a program of this session (wip/tools/pack3.py); the print's own words among them are those that print.sh OWN=1 lays for the claim, as far as they are named. -/
import Derived.WideKeyArr2
import Derived.ProofKit
import Derived.Deep.Slices
import Derived.ChangeArms
import Derived.OpenShut
import Derived.Deep.MidRow
import Derived.Test.YtoiiacbbfhlocaaQMB
import Derived.Test.YtoiiacbbfhlocaaQMD
section
set_option linter.unusedVariables false
set_option linter.unusedSimpArgs false
namespace Go.Proofs.Ytoiiacbbfhlocaa.HMa
open Go.RowKit Go.Shelf Go.Proofs.YtoiiacbbfhlocaaW.PrintWords Go.Proofs.YtoiiacbbfhlocaaW.PrintLast Go.Proofs.YtoiiacbbfhlocaaW.PrintMore Go.Proofs.Ytoiiacbbfhlocaa.Kit Go.Proofs.Ytoiiacbbfhlocaa.HHa Go.Proofs.Ytoiiacbbfhlocaa.HSa Go.Proofs.Ytoiiacbbfhlocaa.Mr
attribute [local irreducible] sumF padX inF hmF jN jF kF padK
attribute [local go_sem] Oper.semAt_some
structure Kx (X : Nat → Prop) (w w' : World) : Prop where
  os : w'.os = w.os
  tape : w'.tape = w.tape
  output : w'.output = w.output
  size : w.heap.size ≤ w'.heap.size
  block : ∀ k, k < w.heap.size → ¬ X k → w'.heap[k]? = w.heap[k]?
theorem Kx.refl (X : Nat → Prop) (w : World) : Kx X w w := ⟨rfl, rfl, rfl, Nat.le_refl _, fun _ _ _ => rfl⟩
theorem Kx.trans {X : Nat → Prop} {a b c : World} (h : Kx X a b) (k : Kx X b c) : Kx X a c :=
  ⟨k.os.trans h.os, k.tape.trans h.tape, k.output.trans h.output, Nat.le_trans h.size k.size, fun i hi hx => (k.block i (Nat.lt_of_lt_of_le hi h.size) hx).trans (h.block i hi hx)⟩
theorem Kx.of_below {X : Nat → Prop} {w w' : World} (h : Below w.heap.size w w') : Kx X w w' := ⟨h.os, h.tape, h.output, h.size, fun k hk _ => h.block k hk⟩
theorem Kx.of_grown {X : Nat → Prop} {w w' : World} {row : Option Nat} (h : w.grownBy w' row) (hr : ∀ k, row = some k → X k) : Kx X w w' := ⟨h.os, h.tape, h.output, h.size, fun k hk hx => h.block k hk (fun e => hx (hr k e.symm))⟩
theorem Kx.below {X : Nat → Prop} {B : Nat} {a w w' : World} (hb : Below B a w) (h : Kx X w w') (hB : B ≤ w.heap.size) (hX : ∀ b, X b → B ≤ b) : Below B a w' :=
  ⟨h.os.trans hb.os, h.tape.trans hb.tape, h.output.trans hb.output, Nat.le_trans hb.size h.size, fun k hk => (h.block k (by omega) (fun hx => by have := hX k hx; omega)).trans (hb.block k hk)⟩
theorem Kx.drew {X : Nat → Prop} (w : World) : Kx X w w.drew := ⟨rfl, rfl, rfl, Nat.le_refl _, fun _ _ _ => rfl⟩
theorem setRow_size' (w : World) (g : Nat) (cs : Array Value) : (w.setRow g cs).heap.size = w.heap.size := by simp [World.setRow]
theorem Kx.setRow (w : World) (g : Nat) (cs : Array Value) : Kx (fun b => b = g) w (w.setRow g cs) := ⟨rfl, rfl, rfl, by rw [setRow_size']; exact Nat.le_refl _, fun k _ hk => setRow_other w g k cs hk⟩
def padT (zl : List Int) (c : List (List Int)) : List Int := ((c ++ [zl, zl, zl]).take 4).flatten
def fourOf (L : List (List Int)) (i : Nat) : List (List Int) := (L.drop (4 * i)).take 4
def upF (key zl : List Int) (L : List (List Int)) : List (List Int) := (List.range ((L.length + 3) / 4)).map fun i => nodeF key (padT zl (fourOf L i))
def zT (key : List Int) : Nat → List Int
  | 0 => List.replicate 32 0
  | j + 1 => nodeF key [zT key j, zT key j, zT key j, zT key j].flatten
def lv (key : List Int) (z : List (List Int)) : Nat → List (List Int)
  | 0 => z
  | j + 1 => upF key (zT key j) (lv key z j)
def rootF (key : List Int) (z : List (List Int)) (h : Nat) : List Int := (lv key z h).headD (zT key h)
theorem zT_length (key : List Int) : ∀ j, (zT key j).length = 32
  | 0 => by simp [zT]
  | j + 1 => nodeF_length _ _
theorem upF_32 (key zl : List Int) (L : List (List Int)) : T32 (upF key zl L) := fun x hx => by
  obtain ⟨i, -, rfl⟩ := List.mem_map.1 hx
  exact nodeF_length _ _
theorem lv_32 (key : List Int) (z : List (List Int)) (hz : T32 z) : ∀ j, T32 (lv key z j)
  | 0 => hz
  | j + 1 => upF_32 _ _ _
theorem upF_length (key zl : List Int) (L : List (List Int)) : (upF key zl L).length = (L.length + 3) / 4 := by simp [upF]
theorem lv_le (key : List Int) (z : List (List Int)) : ∀ j, (lv key z j).length ≤ z.length
  | 0 => Nat.le_refl _
  | j + 1 => by
    have h1 := lv_le key z j
    show (upF _ _ _).length ≤ _
    rw [upF_length]
    omega
theorem rootF_length (key : List Int) (z : List (List Int)) (hz : T32 z) (h : Nat) : (rootF key z h).length = 32 := by
  unfold rootF
  have h32 := lv_32 key z hz h
  cases hl : lv key z h with
  | nil => exact zT_length key h
  | cons x t => rw [hl] at h32; exact h32 x List.mem_cons_self
theorem padT_length (zl : List Int) (c : List (List Int)) (hz : zl.length = 32) (hc : T32 c) (h1 : 1 ≤ c.length) : (padT zl c).length = 128 := by
  unfold padT
  have h32 : T32 (c ++ [zl, zl, zl]) := hc.append (fun x hx => by simp at hx; rw [hx]; exact hz)
  rw [(h32.take 4).flat, List.length_take, List.length_append]
  simp only [List.length_cons, List.length_nil]
  omega
theorem new_range (w : World) (xs : List Int) (T : TypeId) : (w.alloc (.cells (nums .u8 xs).toArray T)).rangeAt w.heap.size 0 (nums .u8 xs) := fun j v hv => by
  rw [Nat.zero_add]
  have h := heap_alloc_new w (.cells (nums .u8 xs).toArray T)
  unfold World.cell?
  rw [h]
  simpa using hv
theorem KeepsOthers.of_below {W W' : World} (h : Below W.heap.size W W') : KeepsOthers W W' := ⟨h.size, fun k o hk _ => (h.block k (Array.getElem?_eq_some_iff.1 hk).1).trans hk⟩
theorem exec_slice_h {oo : Oper} {a : Act} (x hi : Operand) (ho : oo.op = .slice 104 x none (some hi) none) (g n c : Nat) (hx : a.eval x = .slice (some ⟨g, 0, none⟩) n c) (hhi : a.eval hi = .int .i64 4) (hc : 4 ≤ c) (w : World) :
    (execOp a.eval oo).run Try.prog w = .ok (.value (.slice (some ⟨g, 0, none⟩) 4 c)) w := by
  obtain ⟨ie, hie, hzz⟩ := Option.map_eq_some_iff.1 infoTag
  simp only [Prod.mk.injEq] at hzz
  obtain ⟨hz0, hz1, hz2⟩ := hzz
  have hu := Try.underlying104
  have hel : Try.prog.elem 104 = 24 := by simp [Program.elem, hu]
  have hut : Try.prog.underlying 104 = some (.slice (Try.prog.elem 104)) := by rw [hel]; exact hu
  have h := run_slice_h w 104 (some ⟨g, 0, none⟩) n c hut .i64 4 (by omega) (by omega)
  rw [hel] at h
  have hne : ¬ c = 0 := by omega
  unfold execOp
  simp only [ho]
  simp [hx, hhi, run_sliceAt_slice _ _ _ _ _ _ hut]
  rw [h]
  simp [sizeOf, typeInfo, hie, hz1, sliced, Result.andThen, hne, Addr.add_mid]
theorem exec_arr4 {oo : Oper} {a : Act} (x : Operand) (ho : oo.op = .sliceToArrayPointer 123 x) (g c : Nat) (hx : a.eval x = .slice (some ⟨g, 0, none⟩) 4 c) (w : World) :
    (execOp a.eval oo).run Try.prog w = .ok (.value (.pointer (some ⟨g, 0, none⟩))) w := by
  unfold execOp
  simp only [ho]
  simp [hx, Instr.arrayAt, run_underlying Try.underlying123, Result.andThen]
theorem run_load_rng {P : Program} {o : Oper} {a : Act} (T : TypeId) (x : Operand) (ho : o.op = .load T x) (g off : Nat) (hx : a.eval x = .pointer (some ⟨g, off, none⟩)) (k : IntKind) (d : TypeDesc) (xs : List Int) {w : World} (hA : w.rangeAt g off (nums k xs))
    (hu : P.underlying T = some d) (hd : d.isRow = true) (hi : (P.info? T).map (·.size) = some xs.length) : (execOp a.eval o).run P w = .ok (.value (.agg (nums k xs).toArray)) w := by
  unfold execOp
  simp only [ho, hx, Instr.loadAt, Instr.sureAddr, Sem.run_bind, Sem.run_pure, Result.andThen_ok, run_loadVar_mid w g off T (nums k xs) _ hA hu hd (by rw [hi]; simp [nums])]
theorem gl_append_tags {Q : Exit → Act → World → Prop} {l : List Oper} {S : World → Prop} {L n i : Nat} {listed : Array Bool} {a : Act} {w : World} {oo : Oper} (hw : Region.wanted oo (yielded l.toArray a.tmps) = true) (s x : Operand) (ho : oo.op = .call { callee := .builtin .append, args := #[s, x], argTypes := #[104, 104] }) (base : Nat) (v : Value) (nn : Nat) (xs : List Value) (hs : a.eval s = v) (hown : w.ownsRow base 24 32 v nn xs) (b o m c : Nat) (hx : a.eval x = .slice (some ⟨b, o, none⟩) m c)
    (ys : List Int) (hl : ys.length = m * 32) (hr : w.rangeAt b o (nums .u8 ys)) (hn : nn + m ≤ 1000) (hbase : base ≤ w.heap.size)
    (h : ∀ v' w', w'.ownsRow base 24 32 v' (nn + m) (xs ++ nums .u8 ys) → w.grownBy w' v.ownBlock → (v'.ownBlock = v.ownBlock ∨ v'.ownBlock = some w.heap.size) → S w' ∧ wpL Try.prog l Q S L n (listed.setIfInBounds i true) (a.put oo.dst v') w') : goL Try.prog l Q S L n listed a w i oo := by
  obtain ⟨v', w', hrun, h1, h2, h3⟩ := exec_append_tags s x ho w base v nn xs hs hown b o m c hx ys hl hr hn hbase
  intro K' hK
  have h' := h v' w' h1 h2 h3
  exact Go.Proofs.YtoiiacbbfhlocaaW.PrintWords.event_step hw hrun (hK.out _ _ (.inl h'.1) h'.2)
theorem run_build0 {o : Oper} {a : Act} (ho : o.op = .build 24 #[]) (w : World) : (execOp a.eval o).run Try.prog w = .ok (.value (.agg (nums .u8 (List.replicate 32 0)).toArray)) w :=
  run_build_at 24 _ ho _ rfl _ (run_build w _ _ _ (by kernel_rfl))
theorem run_build00 {o : Oper} {a : Act} (ho : o.op = .build 123 #[]) (w : World) : (execOp a.eval o).run Try.prog w = .ok (.value (.agg (nums .u8 (List.replicate 128 0)).toArray)) w :=
  run_build_at 123 _ ho _ rfl _ (run_build w _ _ _ (by kernel_rfl))
structure Tell (key : List Int) (A0 : Option Addr) (z : List (List Int)) (h : Nat) (w : World) (f : Nat) (lb : Array Value) (J : Nat → (Nat → Prop) → World → Prop) : Prop where
  enters : ∀ args w, (callFunc f args).run Try.prog w = .ok (.enter f args) w
  call : ∀ j, j < h → ∀ O W A c, J j O W → Flat W A (lv key z j) → (lv key z j).length ≤ c → (∀ b o, A = some ⟨b, o, none⟩ → ¬ O b) → Calls Try.prog f (#[.slice A (lv key z j).length c] ++ lb) W fun e W' => (∃ v, e = .returned v) ∧ ∃ O', J (j + 1) O' W' ∧ Kx O W W' ∧ ∀ b, O' b → O b ∨ W.heap.size ≤ b
  frame : ∀ j O W W' X, J j O W → Kx X W W' → (∀ b, X b → w.heap.size ≤ b ∧ ¬ O b) → J j O W'
  cells : ∀ j O W b, J j O W → O b → ∃ o : Obj, W.heap[b]? = some o ∧ o.isCells = true
  key : ∀ j O W, J j O W → Kd.C (Kd.int .u8) W A0 key.length key
theorem Tell.lt {key : List Int} {A0 : Option Addr} {z : List (List Int)} {h : Nat} {w : World} {f : Nat} {lb : Array Value} {J : Nat → (Nat → Prop) → World → Prop} (T : Tell key A0 z h w f lb J) {j : Nat} {O : Nat → Prop} {W : World} (hJ : J j O W) {b : Nat} (hb : O b) : b < W.heap.size := by
  obtain ⟨o, ho, -⟩ := T.cells j O W b hJ hb
  exact (Array.getElem?_eq_some_iff.1 ho).1
theorem Tell.below {key : List Int} {A0 : Option Addr} {z : List (List Int)} {h : Nat} {w : World} {f : Nat} {lb : Array Value} {J : Nat → (Nat → Prop) → World → Prop} (T : Tell key A0 z h w f lb J) {j : Nat} {O : Nat → Prop} {W W' : World} (hJ : J j O W) (hb : Below W.heap.size W W') : J j O W' :=
  T.frame j O W W' (fun _ => False) hJ (Kx.of_below hb) (fun _ h => h.elim)
def upsT (key zl : List Int) (L : List (List Int)) (pre : List Nat) : List (List Int) := pre.map fun i => nodeF key (padT zl (fourOf L i))
structure LvIn (key : List Int) (A0 : Option Addr) (kn c0 : Nat) (z : List (List Int)) (w : World) (J : Nat → (Nat → Prop) → World → Prop) (g3 g6 g7 g8 j : Nat) (Aj : Option Addr) (O : Nat → Prop) (Ds : List Nat) (B8 : Nat) (pre : List (Fo (lv key z j).length)) (W : World) : Prop where
  box : Boxed W g3 29 (.slice A0 kn c0)
  res : Arr .u8 24 W g6 (List.replicate 32 0)
  zero : Arr .u8 24 W g7 (zT key j)
  row : Flat W Aj (lv key z j)
  inv : J (j + 1) O W
  marks : Marks Ds W
  up : ∃ v, Boxed W g8 104 v ∧ W.ownsRow B8 24 32 v pre.length (nums .u8 (upsT key (zT key j) (lv key z j) (pre.map (·.1))).flatten)
  size : B8 ≤ W.heap.size
theorem LvIn.own {key : List Int} {A0 : Option Addr} {kn c0 : Nat} {z : List (List Int)} {h : Nat} {w : World} {f : Nat} {lb : Array Value} {J : Nat → (Nat → Prop) → World → Prop} (T : Tell key A0 z h w f lb J) (h32 : T32 z) {g3 g6 g7 g8 j : Nat} {Aj : Option Addr} {O : Nat → Prop} {Ds : List Nat} {B8 B : Nat} (hD : ∀ D ∈ Ds, D < B) (hB : w.heap.size ≤ B) :
    OwnFrom B (LvIn key A0 kn c0 z w J g3 g6 g7 g8 j Aj O Ds B8) := fun pre W W' row hs hg hr => by
  have hcl : ∀ (k : Nat) (ob : Obj), W.heap[k]? = some ob → ob.isCells = true → W'.heap[k]? = W.heap[k]? := fun k ob hk hi => hg.block k (Array.getElem?_eq_some_iff.1 hk).1 (fun e => by
    obtain ⟨-, o, ho, hc⟩ := hr k e.symm
    rw [hk] at ho
    cases ho
    rw [hi] at hc
    cases hc)
  have hcell : ∀ (k : Nat) (cs : Array Value) (t : TypeId) (fr : Nat × Nat), W.heap[k]? = some (.cells cs t fr) → W'.heap[k]? = W.heap[k]? := fun k cs t fr hk => hcl k _ hk rfl
  obtain ⟨v, hv, hrow⟩ := hs.up
  refine ⟨(hcell _ _ _ _ hs.box).trans hs.box, ⟨(hcell _ _ _ _ hs.res.out).trans hs.res.out⟩, ⟨(hcell _ _ _ _ hs.zero.out).trans hs.zero.out⟩, ?_, ?_, marks_own B Ds hD pre W W' row hs.marks hg hr, ⟨v, (hcell _ _ _ _ hv).trans hv, hrow.kept hg ?_⟩, Nat.le_trans hs.size hg.size⟩
  · exact hs.row.next' (lv_32 key z h32 j) (fun b o ob hA ho hc => hcl b ob ho hc)
  · exact T.frame _ _ W W' (fun b => row = some b) hs.inv (Kx.of_grown hg (fun k e => e)) (fun b hb => by
      obtain ⟨h1, o, ho, hc⟩ := hr b hb
      refine ⟨by omega, fun hO => ?_⟩
      obtain ⟨o', ho', hc'⟩ := T.cells _ _ W b hs.inv hO
      rw [ho] at ho'
      cases ho'
      rw [hc] at hc'
      cases hc')
  · rcases hrow.2 with ⟨rfl, _⟩ | ⟨g, cap, cur, rfl, _, hgb, _⟩
    · exact .inl rfl
    · refine .inr fun e' => ?_
      obtain ⟨-, o, ho, hc⟩ := hr g (by simpa [Value.ownBlock] using e'.symm)
      rw [hgb] at ho
      cases ho
      cases hc
theorem padT_nums (zl : List Int) (c : List (List Int)) (hc : T32 c) (hz : zl.length = 32) : nums .u8 (padT zl c) = (nums .u8 c.flatten ++ nums .u8 [zl, zl, zl].flatten).take 128 := by
  have h32 : T32 (c ++ [zl, zl, zl]) := hc.append (fun x hx => by simp at hx; rw [hx]; exact hz)
  unfold padT nums
  rw [flat_take _ _ h32, List.map_take, List.flatten_append, List.map_append]
theorem lv_end {key : List Int} {A0 : Option Addr} {kn c0 : Nat} {z : List (List Int)} {h : Nat} {w : World} {f : Nat} {lb : Array Value} {J : Nat → (Nat → Prop) → World → Prop} (T : Tell key A0 z h w f lb J) (h32 : T32 z) {g3 g6 g7 g8 j : Nat} {Aj : Option Addr} {O : Nat → Prop} {Ds : List Nat} {B8 : Nat} {pre : List (Fo (lv key z j).length)} {W W8 W9 : World} (hin : LvIn key A0 kn c0 z w J g3 g6 g7 g8 j Aj O Ds B8 pre W)
    (hO : ∀ b, O b → b < g8) (hw8 : w.heap.size ≤ g8) (hgs : g3 < g8 ∧ g6 < g8 ∧ g7 < g8) (hB8 : g8 + 2 < B8) (hbl : ∀ b o, Aj = some ⟨b, o, none⟩ → b < g8) (hb : Below W.heap.size W W8) {vu : Value} {ys : List Value} (hrow : W.ownsRow B8 24 32 vu pre.length ys) {g9 c9 i : Nat} {hi : 4 * i < (lv key z j).length} {E : List Int} (hg9 : W8.grownBy W9 vu.ownBlock) (hv9 : Boxed W9 g8 104 vu) (hE : E = nodeF key (padT (zT key j) (fourOf (lv key z j) i))) {zl : List Int} (hzl : zl = zT key j)
    (ho9 : W9.ownsRow B8 24 32 (.slice (some ⟨g9, 0, none⟩) (pre.length + 1) c9) (pre.length + 1) (nums .u8 (upsT key zl (lv key z j) (pre.map (·.1))).flatten ++ nums .u8 E)) :
    ownPostK (KeepTwo (g8 + 1) (g8 + 1 + 1)) (LvIn key A0 kn c0 z w J g3 g6 g7 g8 j Aj O Ds B8) (fun _ _ _ => False) (pre ++ [⟨i, hi⟩]) W .normal { tmps := #[], defers := [] } (W9.setCell ⟨g8, 0, none⟩ (.slice (some ⟨g9, 0, none⟩) (pre.length + 1) c9)) := by
  have hob : ∀ k, vu.ownBlock = some k → B8 ≤ k := fun k hk => own_base hrow k hk
  obtain ⟨X, hX⟩ : ∃ X : Nat → Prop, X = fun b => b = g8 ∨ vu.ownBlock = some b := ⟨_, rfl⟩
  have hKx : Kx X W (W9.setCell ⟨g8, 0, none⟩ (.slice (some ⟨g9, 0, none⟩) (pre.length + 1) c9)) :=
    (Kx.of_below hb).trans ((Kx.of_grown hg9 (fun k e => by rw [hX]; exact .inr e)).trans (Kx.of_grown (grownBy_setCell' W9 g8 _) (fun k e => by rw [hX]; exact .inl (Option.some.inj e).symm)))
  have hKO : KeepsOthers W (W9.setCell ⟨g8, 0, none⟩ (.slice (some ⟨g9, 0, none⟩) (pre.length + 1) c9)) :=
    (KeepsOthers.of_below hb).trans ((KeepsOthers.of_grownBy hg9 (fun q o eq hq => by
      obtain ⟨cells, hc⟩ := own_typed (own_below hrow hb) q eq
      rw [hc] at hq
      cases hq
      rfl)).trans (KeepsOthers.setCell _ _ _))
  have hlow : ∀ k, k < g8 → ¬ X k := fun k hk hx => by
    rw [hX] at hx
    rcases hx with rfl | hx
    · exact Nat.lt_irrefl _ hk
    · have := hob k hx; omega
  have hs8 : B8 ≤ W.heap.size := hin.size
  have hblk : ∀ k, k < g8 → (W9.setCell ⟨g8, 0, none⟩ (.slice (some ⟨g9, 0, none⟩) (pre.length + 1) c9)).heap[k]? = W.heap[k]? := fun k hk => hKx.block k (by omega) (hlow k hk)
  have htwo : ∀ k, g8 < k → k ≤ g8 + 2 → (W9.setCell ⟨g8, 0, none⟩ (.slice (some ⟨g9, 0, none⟩) (pre.length + 1) c9)).heap[k]? = W.heap[k]? := fun k h1 h2 => hKx.block k (by omega) (fun hx => by
    rw [hX] at hx
    rcases hx with rfl | hx
    · exact Nat.lt_irrefl _ h1
    · have := hob k hx; omega)
  refine ⟨hKO, ⟨htwo _ (by omega) (by omega), htwo _ (by omega) (by omega)⟩, ?_⟩
  refine ⟨(hblk _ hgs.1).trans hin.box, ⟨(hblk _ hgs.2.1).trans hin.res.out⟩, ⟨(hblk _ hgs.2.2).trans hin.zero.out⟩, ?_, ?_, hin.marks.keep hKO, ⟨_, hv9.set _, ?_⟩, Nat.le_trans hs8 hKx.size⟩
  · exact hin.row.next (lv_32 key z h32 j) (fun b o hA _ => hblk b (hbl b o hA))
  · exact T.frame _ _ W _ X hin.inv hKx (fun b hx => ⟨by
      rw [hX] at hx
      rcases hx with rfl | hx
      · exact hw8
      · have := hob b hx; omega, fun ho => hlow b (hO b ho) hx⟩)
  · have e1 : (pre ++ [(⟨i, hi⟩ : Fo (lv key z j).length)]).length = pre.length + 1 := by simp
    have e2 : nums .u8 (upsT key (zT key j) (lv key z j) ((pre ++ [(⟨i, hi⟩ : Fo (lv key z j).length)]).map (·.1))).flatten = nums .u8 (upsT key zl (lv key z j) (pre.map (·.1))).flatten ++ nums .u8 E := by
      rw [hE, hzl]
      simp [upsT, nums]
    rw [e1, e2]
    exact ho9.kept (grownBy_setCell' W9 g8 _) (.inr (hv9.not_row (by decide) ho9).symm)
theorem marks_leave' {P : Program} {n : Nat} {fn : Func} {tmps : Array Value} {R : Ending → World → Prop} {X : World → Prop} {base : Nat} (hX : ∀ W D, X W → base ≤ D → W.heap[D]? = some (.deferred (some [])) → X (W.putObj D (.deferred none)))
    {v : Value} (hr : ∀ W, X W → (results fn tmps).run P W = .ok v W) (hR : ∀ W, X W → R (.returned v) W) : ∀ (Ds : List Nat) (W : World), Marks Ds W → (∀ D ∈ Ds, base ≤ D) → X W → LeavesInM Fence.wide n P fn tmps R (Ds.map mark1) .returning W
  | [], W, _, _, hx => ⟨v, hr W hx, hR W hx⟩
  | D :: Ds, W, hm, hb, hx => ⟨by simp, .inl ⟨D, _, rfl, run_takeDeferred (hm.2 D List.mem_cons_self),
      marks_leave' hX hr hR Ds _ (hm.put _) (fun E hE => hb E (List.mem_cons_of_mem _ hE)) (hX W D hx (hb D List.mem_cons_self) (hm.2 D List.mem_cons_self))⟩⟩
theorem marks_ret' {P : Program} {n : Nat} {fn : Func} {R : Ending → World → Prop} {a : Act} {W : World} {v : Value} (Ds : List Nat) (base : Nat) (X : World → Prop) (hd : a.defers = Ds.map mark1) (hr : ∀ W, X W → (results fn a.tmps).run P W = .ok v W) (hm : Marks Ds W) (hb : ∀ D ∈ Ds, base ≤ D)
    (hx : X W) (hX : ∀ W D, X W → base ≤ D → W.heap[D]? = some (.deferred (some [])) → X (W.putObj D (.deferred none))) (hR : ∀ W, X W → R (.returned v) W) : bodyPostM Fence.wide n P fn R .ret a W := by
  show LeavesInM Fence.wide n P fn a.tmps R a.defers .returning W
  rw [hd]
  exact marks_leave' hX hr hR Ds W hm hb hx
def lvAct (A0 : Option Addr) (kn c0 : Nat) (f : Nat) (lb : Array Value) (A : Option Addr) (n c h g3 g6 g7 j : Nat) (Aj : Option Addr) (nj cj : Nat) (u8 u10 u15 u16 u17 u18 u19 u20 u37 u38 u39 u40 u41 u42 u43 u44 u45 : Value) (Ds : List Nat) : Act :=
  { tmps := #[.slice A0 kn c0, .slice Aj nj cj, .func (.func f) #[] lb, .pointer (some ⟨g3, 0, none⟩), undef, undef, .pointer (some ⟨g6, 0, none⟩), .pointer (some ⟨g7, 0, none⟩), u8, undef, u10, .slice A n c, .int .i64 n, .int .i64 h, .int .i64 j, u15, u16, u17, u18, u19, u20, undef, undef, undef, undef, undef, undef, undef, undef, undef, undef, undef, undef, undef, undef, undef, undef, u37, u38, u39, u40, u41, u42, u43, u44, u45, undef, undef, undef, undef, undef, undef, undef], defers := Ds.map mark1 }
structure LvAt (key : List Int) (A0 : Option Addr) (kn c0 : Nat) (z : List (List Int)) (h : Nat) (w : World) (J : Nat → (Nat → Prop) → World → Prop) (g3 g6 g7 j : Nat) (Aj : Option Addr) (cj : Nat) (O : Nat → Prop) (Ds : List Nat) (W : World) : Prop where
  box : Boxed W g3 29 (.slice A0 kn c0)
  res : Arr .u8 24 W g6 (List.replicate 32 0)
  zero : Arr .u8 24 W g7 (zT key j)
  row : Flat W Aj (lv key z j)
  rowO : ∀ b o, Aj = some ⟨b, o, none⟩ → ¬ O b
  cap : (lv key z j).length ≤ cj
  inv : J j O W
  marks : Marks Ds W
  own : ¬ O g3 ∧ ¬ O g6 ∧ ¬ O g7
  dlow : ∀ D ∈ Ds, w.heap.size ≤ D
  size : w.heap.size ≤ W.heap.size
set_option maxHeartbeats 40000000 in
set_option maxRecDepth 100000 in
theorem levels_any (k : Nat) (A0 : Option Addr) (c0 : Nat) (key : List Int) (A : Option Addr) (c : Nat) (z : List (List Int)) (h : Nat) (w : World) (f : Nat) (lb : Array Value) (J : Nat → (Nat → Prop) → World → Prop) (O : Nat → Prop) (T : Tell key A0 z h w f lb J) (hJ : J 0 O w)
    (hc : key.length ≤ c0) (hl : key.length ≤ 1000) (hz : Flat w A z) (h32 : T32 z) (hzO : ∀ b o, A = some ⟨b, o, none⟩ → ¬ O b) (hzc : z.length ≤ c) (hn : z.length ≤ 100) (hh : merkle_Height.f k z.length = some (h : Int)) (hh1 : h ≤ 20) :
    Calls Try.prog 112 #[.slice A0 key.length c0, .slice A z.length c, .func (.func f) #[] lb] w (fun e W => e = .returned (.agg (nums .u8 (rootF key z h)).toArray) ∧ ∃ O, J h O W) := by
  obtain ⟨R, hR⟩ : ∃ R, R = rootF key z h := ⟨_, rfl⟩
  rw [← hR]
  have HRL := Lib.hid (show R.length = 32 by rw [hR]; exact rootF_length key z h32 h)
  have HRR := Lib.hid hR
  clear hR
  have HT := Lib.hid T
  have HJ := Lib.hid hJ
  have HZ := Lib.hid hz
  have HZO := Lib.hid hzO
  have H32 := Lib.hid h32
  have HH := Lib.hid hh
  obtain ⟨kn, hkn⟩ : ∃ n, n = key.length := ⟨_, rfl⟩
  obtain ⟨n, hnn⟩ : ∃ n, n = z.length := ⟨_, rfl⟩
  have HKN := Lib.hid hkn
  have HNN := Lib.hid hnn
  rw [← hkn] at hc hl ⊢
  rw [← hnn] at hzc hn HH ⊢
  have HG := Lib.hid (merkle_Height.calls k n h)
  clear T hJ hz hzO h32 hh hkn hnn
  refine calls_of_marks Try.func112 rfl ?_
  simp only [Try.ntmps112, List.size_toArray, List.length_cons, List.length_nil, Nat.reduceAdd, Nat.reduceSub, Array.replicate_succ, Array.replicate_zero, List.push_toArray, List.append_toArray, List.nil_append, List.cons_append]
  obtain ⟨Z, hZ⟩ : ∃ Z, Z = List.replicate 32 (0 : Int) := ⟨_, rfl⟩
  have HZL := Lib.hid (show Z.length = 32 by rw [hZ]; rfl)
  have HZ0 := Lib.hid hZ
  go_wp2_with (first
    | ((with_reducible refine gate_dst (N := 6) rfl ?_); refine alloc_arr rfl 24 rfl .u8 (List.replicate 32 0) (fun w => Try.zeroValue24 w) (by first | (go_simp; done) | (go_simp; rfl)) ?_; intro w2 hA2 hB2; rw [← HZ0.out] at hA2; have HA2 := Lib.hid hA2; have HB2 := Lib.hid hB2; clear hA2 hB2)
    | ((with_reducible refine gate_dst (N := 10) rfl ?_); refine list_run_g (by rfl) _ (run_build0 rfl _) ?_; rw [← HZ0.out])
    | ((with_reducible refine gate_dst (N := 7) rfl ?_); refine alloc_arr rfl 24 rfl .u8 (List.replicate 32 0) (fun w => Try.zeroValue24 w) (by first | (go_simp; done) | (go_simp; rfl)) ?_; intro w3 hA3 hB3; rw [← HZ0.out] at hA3; have HA3 := Lib.hid hA3; have HB3 := Lib.hid hB3; clear hA3 hB3)
    | ((with_reducible refine gate_store (t := 24) (p := 7) rfl ?_); refine store_arr rfl 24 _ _ rfl w2.heap.size .u8 Z rfl rfl 24 _ HA3.out (by rw [HZL.out]) (by rw [HZL.out]; kernel_rfl) ?_; intro w4 hA4 hw4; have HA4 := Lib.hid hA4; have HW4 := Lib.hid hw4; clear hA4 hw4)
    | (go_at_call 72; refine (HG.out _ HH.out).mono ?_; rintro e w5 ⟨rfl, hD⟩; have HD5 := Lib.hid hD; clear hD))
  obtain ⟨w1, hw1⟩ : ∃ w1, w1 = w.alloc (.cells #[.slice A0 kn c0] 29) := ⟨_, rfl⟩
  have hs1 : w1.heap.size = w.heap.size + 1 := by rw [hw1]; simp
  have hb1 : Boxed w1 w.heap.size 29 (.slice A0 kn c0) := by rw [hw1]; exact Boxed.new w _ _
  have hB1 : Below w.heap.size w w1 := by rw [hw1]; exact (Below.refl _ w).alloc (Nat.le_refl _) _
  rw [← hw1] at HA2 HB2
  have hB2 := below_next hB1 HB2.out
  have hB3 := below_next hB2 HB3.out
  have hB4 := below_setRow hB3 w2.heap.size hB2.size (nums .u8 Z).toArray
  have h12 : w1.heap.size ≤ w2.heap.size := HB2.out.size
  have hb3 : Boxed w3 w.heap.size 29 (.slice A0 kn c0) := (HB3.out.block _ (by omega)).trans ((HB2.out.block _ (by omega)).trans hb1)
  have hb4 : Boxed (w3.setRow w2.heap.size (nums .u8 Z).toArray) w.heap.size 29 (.slice A0 kn c0) := (setRow_other w3 w2.heap.size w.heap.size _ (by omega)).trans hb3
  have h64 := (HA2.out.next HB3.out).setRow_far w2.heap.size (by have := HA2.out.lt; omega) (nums .u8 Z).toArray
  rw [← HW4.out] at hB4 hb4 h64
  have hD := HD5.out.below
  have hB5 := below_next hB4 hD
  have hL : Hid (LvAt key A0 kn c0 z h w J w.heap.size (w.heap.size + 1) w2.heap.size 0 A c O [] w5) := Lib.hid
    { box := (hD.block _ hb4.lt).trans hb4
      res := by rw [← hs1]; rw [← HZ0.out]; exact h64.next hD
      zero := by show Arr _ _ _ _ (List.replicate 32 0); rw [← HZ0.out]; exact HA4.out.next hD
      row := HZ.out.below H32.out hB5
      rowO := HZO.out
      cap := by show z.length ≤ c; rw [← HNN.out]; exact hzc
      inv := HT.out.below HJ.out hB5
      marks := Marks.nil _
      own := ⟨fun h => Nat.lt_irrefl _ (HT.out.lt HJ.out h), fun h => by have := HT.out.lt HJ.out h; omega, fun h => by have := HT.out.lt HJ.out h; omega⟩
      dlow := by simp
      size := hB5.size }
  have hlow : w.heap.size + 1 < w2.heap.size := by have := HA2.out.lt; omega
  clear hB1 hB2 hB3 hB4 hB5 h12 hb1 hb3 hb4 h64 hD HA2 HB2 HA3 HB3 HA4 HW4 HD5 hw1 hs1 HJ HZ HZO HG HH
  generalize hg3 : w.heap.size = g3 at hL hlow ⊢
  generalize hg6 : g3 + 1 = g6 at hL hlow ⊢
  generalize hg7 : w2.heap.size = g7 at hL hlow ⊢
  have HS3 := Lib.hid hg3
  have HS3' := Lib.hid hg3
  have HS6 := Lib.hid hg6
  have HLOW := Lib.hid hlow
  clear hg3 hg6 hg7 hlow
  refine wp_loop (fun a W => ∃ (j : Nat) (Aj : Option Addr) (cj : Nat) (O : Nat → Prop) (Ds : List Nat) (u8 u10 u15 u16 u17 u18 u19 u20 u37 u38 u39 u40 u41 u42 u43 u44 u45 : Value), LvAt key A0 kn c0 z h w J g3 g6 g7 j Aj cj O Ds W ∧ j ≤ h ∧ a = lvAct A0 kn c0 f lb A n c h g3 g6 g7 j Aj (lv key z j).length cj u8 u10 u15 u16 u17 u18 u19 u20 u37 u38 u39 u40 u41 u42 u43 u44 u45 Ds)
    (fun a _ => h - (intOf (a.tmps.getD 14 undef)).toNat) ?_ ?_
  · exact ⟨0, A, c, O, [], undef, _, undef, undef, undef, undef, undef, undef, undef, undef, undef, undef, undef, undef, undef, undef, undef, hL.out, Nat.zero_le _, by unfold lvAct; rw [show (lv key z 0).length = n from HNN.out.symm]; rfl⟩
  clear hL
  rintro _ W ⟨j, Aj, cj, O, Ds, u8, u10, u15, u16, u17, u18, u19, u20, u37, u38, u39, u40, u41, u42, u43, u44, u45, hL, hj, rfl⟩
  have HL := Lib.hid hL
  unfold lvAct
  have HN := Lib.hid (show (lv key z j).length ≤ 100 by have := lv_le key z j; rw [← HNN.out] at this; omega)
  have HRC := Lib.hid hL.cap
  obtain ⟨nj, hnj⟩ : ∃ n, n = (lv key z j).length := ⟨_, rfl⟩
  rw [← hnj] at HN HRC ⊢
  have HNJ := Lib.hid hnj
  clear hL hnj
  by_cases hlt : j < h
  rotate_left
  · have hltz : ¬ (j : Int) < (h : Int) := by omega
    have hjh : j = h := by omega
    subst hjh
    obtain ⟨zl, hzl⟩ : ∃ zl, zl = zT key j := ⟨_, rfl⟩
    have HZLL := Lib.hid (show zl.length = 32 by rw [hzl]; exact zT_length _ _)
    have hz7 := HL.out.zero
    rw [← hzl] at hz7
    have HZ7 := Lib.hid hz7
    have HR6 := Lib.hid HL.out.res
    have HZL := Lib.hid hzl
    have HMK := Lib.hid HL.out.marks
    have HDL := Lib.hid HL.out.dlow
    clear hz7 hzl
    have hend : ∀ W6, W6 = W.setRow g6 (nums .u8 R).toArray → Arr .u8 24 W6 g6 R → ∀ (tmps : Array Value), tmps.getD 6 undef = .pointer (some ⟨g6, 0, none⟩) → bodyPostM Fence.wide 9 Try.prog Try.f112 (fun e W => e = .returned (.agg (nums .u8 R).toArray) ∧ ∃ O, J j O W) .ret { tmps := tmps, defers := Ds.map mark1 } W6 := fun W6 hW hA tmps h6 => by
      refine marks_ret' Ds w.heap.size (fun W' => Arr .u8 24 W' g6 R ∧ ∃ O, J j O W') rfl (fun W' hx => results_arr rfl _ _ g6 .u8 _ _ _ R h6 hx.1 Try.underlying24 (by rw [HRL.out]; kernel_rfl)) ?_ HDL.out ⟨hA, O, ?_⟩ ?_ (fun W' hx => ⟨rfl, hx.2⟩)
      · refine ⟨HMK.out.1, fun D hD => ?_⟩
        rw [hW, setRow_other W g6 D _ (fun e => by
          have h1 := HMK.out.2 D hD
          rw [e, HR6.out.out] at h1
          cases h1)]
        exact HMK.out.2 D hD
      · rw [hW]
        exact HT.out.frame _ _ W _ _ HL.out.inv (Kx.setRow W g6 _) (fun b hb => by
          subst hb
          exact ⟨by have := HS3'.out; have := HS6.out; omega, HL.out.own.2.1⟩)
      · rintro W' D ⟨hA', O', hJ'⟩ hD hDD
        refine ⟨⟨((grownBy_putObj' W' D _).block g6 hA'.lt (fun e => ?_)).trans hA'.out⟩, O', HT.out.frame _ _ W' _ (fun b => b = D) hJ' (Kx.of_grown (grownBy_putObj' W' D _) (fun k e => (Option.some.inj e).symm)) (fun b hb => ?_)⟩
        · have e' := Option.some.inj e
          rw [← e', hA'.out] at hDD
          cases hDD
        · subst hb
          refine ⟨hD, fun hO => ?_⟩
          obtain ⟨o, ho, hc⟩ := HT.out.cells _ _ W' b hJ' hO
          rw [hDD] at ho
          cases ho
          cases hc
    have HEND := Lib.hid hend
    clear hend
    by_cases h0 : nj = 0
    · have hRz : R = zl := by
        rw [HRR.out, HZL.out]
        unfold rootF
        rw [show lv key z j = [] from List.eq_nil_of_length_eq_zero (by rw [← HNJ.out]; exact h0)]
        rfl
      subst hRz
      subst h0
      go_wp2_with (first
        | ((with_reducible refine gate_dst (N := 49) rfl ?_); refine load_row rfl 24 _ rfl g7 rfl .u8 _ _ R HZ7.out Try.underlying24 rfl (by rw [HZLL.out]; kernel_rfl) ?_)
        | ((with_reducible refine gate_store (t := 24) (p := 6) rfl ?_); refine store_arr rfl 24 _ _ rfl g6 .u8 R rfl rfl 24 _ HR6.out (by rw [HZLL.out]; rfl) (by rw [HZLL.out]; kernel_rfl) ?_; intro W6 hA6 hW6; have HA6 := Lib.hid hA6; have HW6 := Lib.hid hW6; clear hA6 hW6))
      exact HEND.out W6 HW6.out HA6.out _ rfl
    · have h0z : ¬ (nj : Int) = 0 := by omega
      have h0p : (0 : Int) < (nj : Int) := by omega
      have hne : lv key z j ≠ [] := fun e => by
        have := HNJ.out
        rw [e] at this
        exact h0 this
      obtain ⟨b, o, hA, hrange⟩ := HL.out.row hne
      have hrg : W.rangeAt b o (nums .u8 R) := by
        have h1 := range_part hrange 0 32
        have e : ((nums .u8 (lv key z j).flatten).drop 0).take 32 = nums .u8 R := by
          rw [HRR.out]
          unfold rootF
          have h32 := lv_32 key z H32.out j
          cases hl : lv key z j with
          | nil => exact absurd hl hne
          | cons x t =>
            rw [hl] at h32
            have hx := h32 x List.mem_cons_self
            simp [nums, List.take_append, hx]
        rw [e] at h1
        exact h1
      have HRG := Lib.hid hrg
      subst hA
      clear hrange hrg hne
      go_wp2_with (first
        | ((with_reducible refine gate_dst (N := 52) rfl ?_); refine list_run_g (by rfl) (.agg (nums .u8 R).toArray) (run_load_rng 24 _ rfl b o rfl .u8 _ R HRG.out Try.underlying24 rfl (by rw [HRL.out]; kernel_rfl)) ?_)
        | ((with_reducible refine gate_store (t := 24) (p := 6) rfl ?_); refine store_arr rfl 24 _ _ rfl g6 .u8 R rfl rfl 24 _ HR6.out (by rw [HRL.out]; rfl) (by rw [HRL.out]; kernel_rfl) ?_; intro W6 hA6 hW6; have HA6 := Lib.hid hA6; have HW6 := Lib.hid hW6; clear hA6 hW6))
      exact HEND.out W6 HW6.out HA6.out _ rfl
  have hltz : (j : Int) < (h : Int) := by omega
  have HE := Lib.hid HT.out.enters
  have henters := HE.out
  go_wp2_with fail
  have hcall := HT.out.call j hlt O W Aj cj HL.out.inv HL.out.row HL.out.cap HL.out.rowO
  rw [← HNJ.out] at hcall
  refine hcall.mono ?_
  clear hcall henters HE
  rintro e W1 ⟨⟨v, rfl⟩, O1, hJ1, hK1, hO1⟩
  have hsz : w.heap.size ≤ W1.heap.size := Nat.le_trans HL.out.size hK1.size
  have hown : ¬ O1 g3 ∧ ¬ O1 g6 ∧ ¬ O1 g7 := by
    have h1 := HL.out.box.lt
    have h2 := HL.out.res.lt
    have h3 := HL.out.zero.lt
    refine ⟨fun h => ?_, fun h => ?_, fun h => ?_⟩
    · rcases hO1 _ h with h | h
      · exact HL.out.own.1 h
      · omega
    · rcases hO1 _ h with h | h
      · exact HL.out.own.2.1 h
      · omega
    · rcases hO1 _ h with h | h
      · exact HL.out.own.2.2 h
      · omega
  have hmk : Marks Ds W1 := ⟨HL.out.marks.1, fun D hD => (hK1.block D (HL.out.marks.lt hD) (fun hO => by
    obtain ⟨o, ho, hc⟩ := HT.out.cells _ _ W D HL.out.inv hO
    rw [HL.out.marks.2 D hD] at ho
    cases ho
    cases hc)).trans (HL.out.marks.2 D hD)⟩
  have hb3 : Boxed W1 g3 29 (.slice A0 kn c0) := (hK1.block _ HL.out.box.lt HL.out.own.1).trans HL.out.box
  have hr6 : Arr .u8 24 W1 g6 (List.replicate 32 0) := ⟨(hK1.block _ HL.out.res.lt HL.out.own.2.1).trans HL.out.res.out⟩
  have hz7 : Arr .u8 24 W1 g7 (zT key j) := ⟨(hK1.block _ HL.out.zero.lt HL.out.own.2.2).trans HL.out.zero.out⟩
  have hfl : Flat W1 Aj (lv key z j) := HL.out.row.next (lv_32 key z H32.out j) (fun b o hA hlt => hK1.block b hlt (HL.out.rowO b o hA))
  have HDL := Lib.hid (HL.out.dlow)
  have HK3 := Lib.hid hb3
  have HR6 := Lib.hid hr6
  have HZ7 := Lib.hid hz7
  have HFL := Lib.hid hfl
  have HMK := Lib.hid hmk
  have HOWN := Lib.hid hown
  have HSZ := Lib.hid hsz
  have HJ1 := Lib.hid hJ1
  clear hsz hown hmk hb3 hr6 hz7 hfl hO1 hK1 hJ1 HL
  have hch := fun W => chunk_any Aj nj cj W
  have HCH := Lib.hid hch
  clear hch
  go_wp2_with (first
    | (go_at_call 127; refine (HCH.out _).mono ?_; rintro e W3 ⟨rfl, hs3, hn3, hB3⟩; have HS3 := Lib.hid hs3; have HN3 := Lib.hid hn3; have HB3 := Lib.hid hB3; clear hs3 hn3 hB3))
  obtain ⟨g8, hg8⟩ : ∃ g, g = W1.heap.size := ⟨_, rfl⟩
  have hE : (W1.alloc (.cells #[.slice none 0 0] 104)).heap.size = W1.heap.size + 1 := by simp
  rw [hE] at HS3 HN3
  rw [← hg8] at HS3 HN3 ⊢
  clear hE
  have hB0 : Below W1.heap.size W1 (W1.alloc (.cells #[.slice none 0 0] 104)) := (Below.refl _ W1).alloc (Nat.le_refl _) _
  have hbx : Boxed (W1.alloc (.cells #[.slice none 0 0] 104)) g8 104 (.slice none 0 0) := by rw [hg8]; exact Boxed.new W1 _ _
  have hbx3 : Boxed W3 g8 104 (.slice none 0 0) := (HB3.out.block _ hbx.lt).trans hbx
  have hB13 := below_next hB0 HB3.out
  have hgs : W1.heap.size + 1 < W3.heap.size := by have := HS3.out.lt; omega
  have hIN : LvIn key A0 kn c0 z w J g3 g6 g7 g8 j Aj O1 Ds W3.heap.size [] W3 :=
    { box := (hB13.block _ HK3.out.lt).trans HK3.out
      res := HR6.out.next hB13
      zero := HZ7.out.next hB13
      row := HFL.out.below (lv_32 key z H32.out j) hB13
      inv := HT.out.below HJ1.out hB13
      marks := HMK.out.below hB13
      up := ⟨_, hbx3, own_nil _ _ _ _⟩
      size := Nat.le_refl _ }
  have HIN := Lib.hid hIN
  have hDl : ∀ D ∈ Ds, D < W3.heap.size := fun D hD => Nat.lt_of_lt_of_le (HMK.out.lt hD) hB13.size
  have hO8 : ∀ b, O1 b → b < g8 := fun b hb => by rw [hg8]; exact HT.out.lt HJ1.out hb
  have HG8 := Lib.hid (show w.heap.size ≤ g8 by rw [hg8]; exact HSZ.out)
  have HG37 := Lib.hid (show g3 < g8 ∧ g6 < g8 ∧ g7 < g8 by rw [hg8]; exact ⟨HK3.out.lt, HR6.out.lt, HZ7.out.lt⟩)
  have hgs3 : g8 < W3.heap.size := by omega
  obtain ⟨b, o, hAe⟩ : ∃ b o, 0 < nj → Aj = some ⟨b, o, none⟩ := by
    by_cases h0 : 0 < nj
    · obtain ⟨b, o, hA, -⟩ := HFL.out (fun e => by rw [HNJ.out, e] at h0; exact Nat.lt_irrefl _ h0)
      exact ⟨b, o, fun _ => hA⟩
    · exact ⟨0, 0, fun h => absurd h h0⟩
  have HAE := Lib.hid hAe
  have HGN := Lib.hid (show g8 + 1 + 1 < W3.heap.size from HN3.out.lt)
  have HRL := Lib.hid (show 0 < nj → b < g8 from fun h0 => by
    obtain ⟨b', o', hA', hr'⟩ := HFL.out (fun e => by rw [HNJ.out, e] at h0; exact Nat.lt_irrefl _ h0)
    rw [hAe h0] at hA'
    obtain ⟨rfl, rfl, -⟩ := Addr.mk.inj (Option.some.inj hA')
    rw [hg8]
    have h1 : 0 < (nums .u8 (lv key z j).flatten).length := by
      simp only [nums, List.length_map, (lv_32 key z H32.out j).flat, ← HNJ.out]
      omega
    exact World.block_lt_of_cell? _ _ (hr' 0 _ (List.getElem?_eq_getElem h1)))
  have HG81 := Lib.hid hg8
  have HDl := Lib.hid hDl
  have HO8 := Lib.hid hO8
  have HGS := Lib.hid hgs3
  have HSZ3 := Lib.hid (show w.heap.size ≤ W3.heap.size from Nat.le_trans HSZ.out hB13.size)
  clear hB0 hbx hbx3 hB13 hgs hIN hDl hO8 hAe hgs3 HK3 HR6 HZ7 HFL HMK HJ1 HSZ HB3 hg8 HG81
  have ee := HNJ.out
  clear HNJ
  subst ee
  refine (wpIn_wide (n := 9)).1 ?_
  apply wpIn_rangeFunc_ownF (F := Fence.wide) (n := 9) rfl (by decide) (gf := 142) (lb := #[.pointer (some ⟨g8 + 1, 0, none⟩), .pointer (some ⟨g8 + 1 + 1, 0, none⟩)]) rfl trivial (enters_of Try.func142 (by kernel_rfl) rfl)
    (chunk_stops Aj b o (lv key z j).length cj (g8 + 1) (g8 + 1 + 1) W3 HS3.out HN3.out HAE.out (by have := HN.out; omega) HRC.out) KeepTwo.t (KeepTwo.b HS3.out.lt HN3.out.lt) (Below.refl _ _) (fun _ => rfl)
    (LvIn key A0 kn c0 z w J g3 g6 g7 g8 j Aj O1 Ds W3.heap.size)
    (fun _ _ _ => False)
    (LvIn.own HT.out H32.out HDl.out HSZ3.out)
    (fun _ _ _ _ _ hs _ _ => hs)
    HIN.out
  · intro l x W K hK
    gi_wp2
    exact hK
  · rintro lp pre x W hin hlt
    have hA := HAE.out
    have hrl := HRL.out
    have hkn := HKN.out
    have hzn : z.length ≤ 100 := by rw [← HNN.out]; exact hn
    have T := HT.out
    have h32 := H32.out
    have hnq : ¬ LetsOut (Exit.inBlock 3 (ownPostK (KeepTwo (g8 + 1) (g8 + 1 + 1)) (LvIn key A0 kn c0 z w J g3 g6 g7 g8 j Aj O1 Ds W3.heap.size) (fun _ _ _ => False) (pre ++ [x]) W)) := fun ⟨_, _, h⟩ => h
    obtain ⟨zl, hzl⟩ : ∃ zl, zl = zT key j := ⟨_, rfl⟩
    have HZLL := Lib.hid (show zl.length = 32 by rw [hzl]; exact zT_length _ _)
    have h32L := lv_32 key z h32 j
    have hLn : (lv key z j).length ≤ 100 := Nat.le_trans (lv_le key z j) hzn
    obtain ⟨i, hi⟩ := x
    have hnpos : 0 < (lv key z j).length := by omega
    have hAe := hA hnpos
    have hbl := hrl hnpos
    have hne : lv key z j ≠ [] := fun e => by rw [e] at hnpos; exact Nat.lt_irrefl _ hnpos
    obtain ⟨b', o', hA', hrange⟩ := hin.row hne
    rw [hAe] at hA'
    obtain ⟨rfl, rfl, -⟩ := Addr.mk.inj (Option.some.inj hA')
    obtain ⟨m, hm⟩ : ∃ m, m = min 4 ((lv key z j).length - 4 * i) := ⟨_, rfl⟩
    have hcl : (fourOf (lv key z j) i).length = m := by unfold fourOf; rw [List.length_take, List.length_drop, hm]
    have hc32 : T32 (fourOf (lv key z j) i) := (h32L.drop _).take _
    have hm1 : 1 ≤ m := by omega
    have hm4 : m ≤ 4 := by omega
    have hcr : W.rangeAt b (o + i * 128) (nums .u8 (fourOf (lv key z j) i).flatten) := by
      have h := range_part hrange (i * 128) 128
      have e : ((nums .u8 (lv key z j).flatten).drop (i * 128)).take 128 = nums .u8 (fourOf (lv key z j) i).flatten := by
        unfold fourOf nums
        rw [flat_take _ _ (h32L.drop _), flat_drop _ _ h32L, ← List.map_drop, ← List.map_take, show 4 * i * 32 = i * 128 from by omega]
      rw [e] at h
      exact h
    have hcv : chunkV b o (lv key z j).length i = .slice (some ⟨b, o + i * 128, none⟩) m m := by unfold chunkV; rw [hm]
    rw [hcv]
    obtain ⟨c, hcc⟩ : ∃ c, c = fourOf (lv key z j) i := ⟨_, rfl⟩
    rw [← hcc] at hcl hc32 hcr
    have HCC := Lib.hid hcc
    have HIN := Lib.hid hin
    have HCR := Lib.hid hcr
    have HCL := Lib.hid hcl
    have HC32 := Lib.hid hc32
    have HZL := Lib.hid hzl
    have HM := Lib.hid hm
    have HT := Lib.hid T
    obtain ⟨vu, hvu, hrow⟩ := hin.up
    have hz7 := hin.zero
    rw [← hzl] at hz7 hrow
    have HZ7 := Lib.hid hz7
    have HVU := Lib.hid hvu
    have HROW := Lib.hid hrow
    have HSZ := Lib.hid hin.size
    have HBX := Lib.hid hin.box
    have HKEY := Lib.hid (T.key _ _ W hin.inv)
    have HPL := Lib.hid (show pre.length ≤ 100 by omega)
    have hnode : ∀ W', Below W.heap.size W W' → Calls Try.prog 81 #[.slice A0 kn c0, .agg (nums .u8 (padT zl c)).toArray] W' (GivesArr .u8 (nodeF key (padT zl c)) W') := fun W' hb => by
      have h := node_any A0 c0 key (padT zl c) (padT_length zl c HZLL.out hc32 (by omega)) W' (Kd.C_below HKEY.out hb) (by rw [← hkn]; exact hc) (by rw [← hkn]; exact hl)
      rw [← hkn] at h
      exact h
    obtain ⟨E, hE⟩ : ∃ E, E = nodeF key (padT zl c) := ⟨_, rfl⟩
    rw [← hE] at hnode
    have HE := Lib.hid (show E = nodeF key (padT (zT key j) (fourOf (lv key z j) i)) by rw [hE, hzl, hcc])
    have HEL := Lib.hid (show E.length = 32 by rw [hE]; exact nodeF_length _ _)
    have HPD := Lib.hid (show (padT zl c).length = 128 from padT_length zl c HZLL.out hc32 (by omega))
    clear hE
    have HNODE := Lib.hid hnode
    have HOO := Lib.hid HO8.out
    have HW8 := HG8
    have HBL := Lib.hid (show ∀ b' o', Aj = some ⟨b', o', none⟩ → b' < g8 from fun b' o' e => by rw [hAe] at e; cases e; exact hbl)
    have HB8 := Lib.hid (show g8 + 2 < W3.heap.size from HGN.out)
    have hS9 : ∀ (u u' : World), ((Boxed u g3 29 (.slice A0 kn c0) ∧ Arr .u8 24 u g7 zl) ∧ Boxed u g8 104 vu) → u.grownBy u' vu.ownBlock → (∀ k, vu.ownBlock = some k → g8 + 2 < k) → ((Boxed u' g3 29 (.slice A0 kn c0) ∧ Arr .u8 24 u' g7 zl) ∧ Boxed u' g8 104 vu) := fun u u' h hg hk => ⟨⟨h.1.1.kept hg (fun e => by have := hk _ e.symm; have := HG37.out; omega), ⟨(hg.block g7 h.1.2.lt (fun e => by have := hk _ e.symm; have := HG37.out; omega)).trans h.1.2.out⟩⟩, h.2.kept hg (fun e => by have := hk _ e.symm; omega)⟩
    have HS9 := Lib.hid hS9
    clear hS9
    have hclone : ∀ W', Below W.heap.size W W' → Calls Try.prog 128 #[.slice (some ⟨b, o + i * 128, none⟩) m m] W' (GivesRow c W') := fun W' hb => clone_any b (o + i * 128) m m c W' (fun q u hu => (hb.cell (p := ⟨b, o + i * 128 + q, none⟩) (World.block_lt_of_cell? _ _ (HCR.out q u hu))).trans (HCR.out q u hu)) HCL.out (by omega) HC32.out
    have HCLONE := Lib.hid hclone
    clear hnode hclone hz7 hvu hrow hzl hm hcc hcl hc32 hcr hcv hin hrange T hA' hAe hA hrl h32L hne
    refine wpIn_block ?_
    refine l_region_in lp _ (fun u => (Boxed u g3 29 (.slice A0 kn c0) ∧ Arr .u8 24 u g7 zl) ∧ Boxed u g8 104 vu) 15 (by kernel_rfl) (by kernel_rfl) hnq 16 (by kernel_rfl) ⟨⟨HBX.out, HZ7.out.drew⟩, HVU.out⟩ (fun hS => ?_)
    have hSn : ∀ (u u' : World), ((Boxed u g3 29 (.slice A0 kn c0) ∧ Arr .u8 24 u g7 zl) ∧ Boxed u g8 104 vu) → Below u.heap.size u u' → ((Boxed u' g3 29 (.slice A0 kn c0) ∧ Arr .u8 24 u' g7 zl) ∧ Boxed u' g8 104 vu) := fun u u' h hb => ⟨⟨(hb.block _ h.1.1.lt).trans h.1.1, h.1.2.next hb⟩, (hb.block _ h.2.lt).trans h.2⟩
    have HSN := Lib.hid hSn
    clear hSn
    have HD := Lib.hid (below_drew (Below.refl W.heap.size W))
    obtain ⟨Wd, hWd⟩ : ∃ Wd, Wd = W.drew := ⟨_, rfl⟩
    rw [← hWd] at hS HD ⊢
    have HWD := Lib.hid (show Wd.heap = W.heap by rw [hWd]; rfl)
    have HSD := Lib.hid hS
    have HDS := Lib.hid (show W.heap.size = Wd.heap.size by rw [hWd]; rfl)
    clear hWd
    refine l_take 0 (vu) hS rfl (by kernel_rfl) (by kernel_rfl) (by kernel_rfl) (by kernel_rfl) (fun _ _ _ h => h) rfl (fun w' hw' => by (have hc0 := Boxed.cell hw'.2; unfold execOp; simp [go_sem, Act.put, Act.eval, hc0])) ?_
    simp only [Act.put, List.setIfInBounds_toArray, List.set_cons_zero, List.set_cons_succ]
    refine l_take 1 (.slice A0 kn c0) hS rfl (by kernel_rfl) (by kernel_rfl) (by kernel_rfl) (by kernel_rfl) (fun _ _ _ h => h) rfl (fun w' hw' => by (have hc0 := Boxed.cell hw'.1.1; unfold execOp; simp [go_sem, Act.put, Act.eval, hc0])) ?_
    simp only [Act.put, List.setIfInBounds_toArray, List.set_cons_zero, List.set_cons_succ]
    refine l_take 2 (.slice (some ⟨b, o + i * 128, none⟩) m m) hS rfl (by kernel_rfl) (by kernel_rfl) (by kernel_rfl) (by kernel_rfl) (fun _ _ _ h => h) rfl (fun w' hw' => by (unfold execOp; simp [go_sem, Act.put, Act.eval])) ?_
    simp only [Act.put, List.setIfInBounds_toArray, List.set_cons_zero, List.set_cons_succ]
    refine l_take 4 (.agg (nums .u8 zl).toArray) hS rfl (by kernel_rfl) (by kernel_rfl) (by kernel_rfl) (by kernel_rfl) (fun _ _ _ h => h) rfl (fun w' hw' => run_load_row 24 _ rfl g7 rfl .u8 _ _ zl hw'.1.2 Try.underlying24 rfl (by rw [HZLL.out]; kernel_rfl)) ?_
    simp only [Act.put, List.setIfInBounds_toArray, List.set_cons_zero, List.set_cons_succ]
    refine l_take 5 (.agg (nums .u8 zl).toArray) hS rfl (by kernel_rfl) (by kernel_rfl) (by kernel_rfl) (by kernel_rfl) (fun _ _ _ h => h) rfl (fun w' hw' => run_load_row 24 _ rfl g7 rfl .u8 _ _ zl hw'.1.2 Try.underlying24 rfl (by rw [HZLL.out]; kernel_rfl)) ?_
    simp only [Act.put, List.setIfInBounds_toArray, List.set_cons_zero, List.set_cons_succ]
    refine l_take 6 (.agg (nums .u8 zl).toArray) hS rfl (by kernel_rfl) (by kernel_rfl) (by kernel_rfl) (by kernel_rfl) (fun _ _ _ h => h) rfl (fun w' hw' => run_load_row 24 _ rfl g7 rfl .u8 _ _ zl hw'.1.2 Try.underlying24 rfl (by rw [HZLL.out]; kernel_rfl)) ?_
    simp only [Act.put, List.setIfInBounds_toArray, List.set_cons_zero, List.set_cons_succ]
    refine l_two 3 7 rfl rfl (by kernel_rfl) ?_ ?_
    · refine gl_call rfl 128 _ _ Try.func128 (by kernel_rfl) rfl _ _ #[.slice (some ⟨b, o + i * 128, none⟩) m m] rfl (by simp [Act.put, Act.eval]) (HCLONE.out Wd HD.out) ?_
      rintro e W4 ⟨v4, rfl, ho4, hb4⟩
      refine ⟨v4, rfl, HSN.out _ _ hS hb4, ?_⟩
      simp only [Act.put, List.setIfInBounds_toArray, List.set_cons_zero, List.set_cons_succ]
      have hS4 := HSN.out _ _ hS hb4
      clear hS
      have hbb : Below W4.heap.size W4 (W4.alloc (.cells (nums .u8 [zl, zl, zl].flatten).toArray 24)) := (Below.refl _ W4).alloc (Nat.le_refl _) _
      refine l_one 7 rfl (by kernel_rfl) (gl_event (.slice (some ⟨W4.heap.size, 0, none⟩) 3 3) (W4.alloc (.cells (nums .u8 [zl, zl, zl].flatten).toArray 24)) rfl (run_bs3 (.tmp 26) (.tmp 27) (.tmp 28) rfl zl zl zl rfl rfl rfl (fun y hy => by simp at hy; rw [hy]; exact HZLL.out) _) (HSN.out _ _ hS4 hbb) (fun hS => ?_))
      simp only [Act.put, List.setIfInBounds_toArray, List.set_cons_zero, List.set_cons_succ]
      have HO5 := Lib.hid (own_below ho4 hbb)
      have HR5 := Lib.hid (show (W4.alloc (.cells (nums .u8 [zl, zl, zl].flatten).toArray 24)).rangeAt W4.heap.size 0 (nums .u8 [zl, zl, zl].flatten) from new_range _ _ _)
      have HB5 := Lib.hid (below_next hb4 hbb)
      have HBS := Lib.hid (show Wd.heap.size ≤ Wd.heap.size ∧ Wd.heap.size ≤ (W4.alloc (.cells (nums .u8 [zl, zl, zl].flatten).toArray 24)).heap.size from ⟨Nat.le_refl _, HB5.out.size⟩)
      generalize (W4.alloc (.cells (nums .u8 [zl, zl, zl].flatten).toArray 24)) = W5 at *
      generalize W4.heap.size = gt at *
      clear hbb ho4 hb4 hS4
      rw [HCL.out] at HO5
      refine l_one 8 rfl (by kernel_rfl) (gl_append_tags rfl (.tmp 25) (.tmp 29) rfl _ v4 m _ rfl HO5.out gt 0 3 3 rfl [zl, zl, zl].flatten (by simp [HZLL.out]) HR5.out (by omega) HBS.out.2 ?_)
      intro v5 W6 ho6 hg6 _
      have hB6 : Below Wd.heap.size Wd W6 := HB5.out.grown hg6 HB5.out.size (fun k hk => Nat.le_trans HBS.out.1 (own_base HO5.out k hk))
      clear hS
      have hS := HSN.out _ _ HSD.out hB6
      refine ⟨hS, ?_⟩
      simp only [Act.put, List.setIfInBounds_toArray, List.set_cons_zero, List.set_cons_succ]
      obtain ⟨g5, c5, rfl⟩ := ownsRow_succ (k := m + 2) ho6
      have hc5 : 4 ≤ c5 := by
        obtain ⟨A, c, e, hc⟩ := own_slice ho6
        obtain ⟨-, -, rfl⟩ := Value.slice.inj e
        omega
      have hrg : W6.rangeAt g5 0 (nums .u8 (padT zl c)) := fun q u hu => by
        rw [padT_nums zl c HC32.out HZLL.out] at hu
        have hu' : (nums .u8 c.flatten ++ nums .u8 [zl, zl, zl].flatten)[q]? = some u := by
          rw [List.getElem?_take] at hu
          split at hu
          · exact hu
          · cases hu
        have hh := World.ownsRow.cells ho6 (g := g5) rfl q u hu'
        rw [add_plain] at hh
        rw [Nat.zero_add]
        exact hh
      refine l_take 9 (.slice (some ⟨g5, 0, none⟩) 4 c5) hS rfl (by kernel_rfl) (by kernel_rfl) (by kernel_rfl) (by kernel_rfl) (fun _ _ _ h => h) rfl (fun w' hw' => exec_slice_h (.tmp 30) _ rfl g5 _ c5 rfl rfl hc5 w') ?_
      simp only [Act.put, List.setIfInBounds_toArray, List.set_cons_zero, List.set_cons_succ]
      refine l_take 10 (.pointer (some ⟨g5, 0, none⟩)) hS rfl (by kernel_rfl) (by kernel_rfl) (by kernel_rfl) (by kernel_rfl) (fun _ _ _ h => h) rfl (fun w' hw' => exec_arr4 (.tmp 31) rfl g5 c5 rfl w') ?_
      simp only [Act.put, List.setIfInBounds_toArray, List.set_cons_zero, List.set_cons_succ]
      refine l_one 11 rfl (by kernel_rfl) (gl_event (.agg (nums .u8 (padT zl c)).toArray) W6 rfl (run_load_rng 123 (.tmp 32) rfl g5 0 rfl .u8 _ (padT zl c) hrg Try.underlying123 rfl (by rw [HPD.out]; kernel_rfl)) hS (fun _ => ?_))
      simp only [Act.put, List.setIfInBounds_toArray, List.set_cons_zero, List.set_cons_succ]
      refine l_one 12 rfl (by kernel_rfl) (gl_call rfl 81 _ _ Try.func81 (by kernel_rfl) rfl _ _ #[.slice A0 kn c0, .agg (nums .u8 (padT zl c)).toArray] rfl (by simp [Act.put, Act.eval]) (HNODE.out W6 (below_next HD.out hB6)) ?_)
      rintro e W7 ⟨rfl, hb7⟩
      have hS7 := HSN.out _ _ hS hb7
      refine ⟨_, rfl, hS7, ?_⟩
      simp only [Act.put, List.setIfInBounds_toArray, List.set_cons_zero, List.set_cons_succ]
      have hbb : Below W7.heap.size W7 (W7.alloc (.cells (nums .u8 E).toArray 24)) := (Below.refl _ W7).alloc (Nat.le_refl _) _
      have hB8' := below_next (below_next (below_next HD.out hB6) hb7) hbb
      have hr8 : (W7.alloc (.cells (nums .u8 E).toArray 24)).rangeAt W7.heap.size 0 (nums .u8 E) := new_range _ _ _
      refine l_one 13 rfl (by kernel_rfl) (gl_event (.slice (some ⟨W7.heap.size, 0, none⟩) 1 1) (W7.alloc (.cells (nums .u8 E).toArray 24)) rfl (run_bs1 (.tmp 34) rfl E rfl HEL.out _) (HSN.out _ _ hS7 hbb) (fun hS8 => ?_))
      simp only [Act.put, List.setIfInBounds_toArray, List.set_cons_zero, List.set_cons_succ]
      clear hS hS7 hbb hb7 hrg ho6 hg6
      generalize (W7.alloc (.cells (nums .u8 E).toArray 24)) = W8 at *
      generalize W7.heap.size = g7' at *
      refine l_one 14 rfl (by kernel_rfl) (gl_append_tags rfl (.tmp 22) (.tmp 35) rfl _ vu pre.length _ rfl (own_below HROW.out hB8') g7' 0 1 1 rfl E (by rw [HEL.out]) hr8 (by have := HPL.out; omega) (Nat.le_trans HSZ.out hB8'.size) ?_)
      intro v9 W9 ho9 hg9 _
      have hob : ∀ k, vu.ownBlock = some k → g8 + 2 < k := fun k hk => Nat.lt_of_lt_of_le HB8.out (own_base HROW.out k hk)
      have hS9 := HS9.out W8 W9 hS8 hg9 hob
      refine ⟨hS9, ?_⟩
      simp only [Act.put, List.setIfInBounds_toArray, List.set_cons_zero, List.set_cons_succ]
      obtain ⟨g9, c9, rfl⟩ := ownsRow_succ (k := pre.length) ho9
      have hcx := hS9.2.cell
      have hfx := hS9.2.frozen
      refine l_one 15 rfl (by kernel_rfl) (gl_last (W9.setCell ⟨g8, 0, none⟩ (.slice (some ⟨g9, 0, none⟩) (pre.length + 1) c9)) rfl rfl (by (unfold execOp; simp [go_sem, Act.put, Act.eval, hcx, hfx])) ?_)
      simp only [Act.put, List.setIfInBounds_toArray, List.set_cons_zero, List.set_cons_succ]
      refine l_done (by kernel_rfl) ?_
      exact lv_end HT.out H32.out HIN.out HOO.out HW8.out HG37.out HB8.out HBL.out hB8' HROW.out hg9 hS9.2 HE.out HZL.out ho9
    · have hbb : Below Wd.heap.size Wd (Wd.alloc (.cells (nums .u8 [zl, zl, zl].flatten).toArray 24)) := (Below.refl _ Wd).alloc (Nat.le_refl _) _
      refine gl_event (.slice (some ⟨Wd.heap.size, 0, none⟩) 3 3) (Wd.alloc (.cells (nums .u8 [zl, zl, zl].flatten).toArray 24)) rfl (run_bs3 (.tmp 26) (.tmp 27) (.tmp 28) rfl zl zl zl rfl rfl rfl (fun y hy => by simp at hy; rw [hy]; exact HZLL.out) _) (HSN.out _ _ hS hbb) (fun hS4 => ?_)
      simp only [Act.put, List.setIfInBounds_toArray, List.set_cons_zero, List.set_cons_succ]
      have hr4 : (Wd.alloc (.cells (nums .u8 [zl, zl, zl].flatten).toArray 24)).rangeAt Wd.heap.size 0 (nums .u8 [zl, zl, zl].flatten) := new_range _ _ _
      clear hS
      generalize hW4 : (Wd.alloc (.cells (nums .u8 [zl, zl, zl].flatten).toArray 24)) = W4 at *
      clear hW4
      obtain ⟨gt, hgt⟩ : ∃ g, g = Wd.heap.size := ⟨_, rfl⟩
      rw [← hgt] at hr4
      rw [show (Value.slice (some ⟨Wd.heap.size, 0, none⟩) 3 3) = .slice (some ⟨gt, 0, none⟩) 3 3 from by rw [hgt]]
      clear hgt
      refine l_one 3 rfl (by kernel_rfl) (gl_call rfl 128 _ _ Try.func128 (by kernel_rfl) rfl _ _ #[.slice (some ⟨b, o + i * 128, none⟩) m m] rfl (by simp [Act.put, Act.eval]) (HCLONE.out W4 (below_next HD.out hbb)) ?_)
      rintro e W5 ⟨v4, rfl, ho4, hb4⟩
      refine ⟨v4, rfl, HSN.out _ _ hS4 hb4, ?_⟩
      simp only [Act.put, List.setIfInBounds_toArray, List.set_cons_zero, List.set_cons_succ]
      have hS := HSN.out _ _ hS4 hb4
      have HO5 := Lib.hid ho4
      have HR5 := Lib.hid (show W5.rangeAt gt 0 (nums .u8 [zl, zl, zl].flatten) from fun q u hu => (hb4.cell (p := ⟨gt, 0 + q, none⟩) (World.block_lt_of_cell? _ _ (hr4 q u hu))).trans (hr4 q u hu))
      have HB5 := Lib.hid (below_next hbb hb4)
      have HBS := Lib.hid (show Wd.heap.size ≤ W4.heap.size ∧ W4.heap.size ≤ W5.heap.size from ⟨hbb.size, hb4.size⟩)
      clear hbb ho4 hb4 hS4 hr4
      rw [HCL.out] at HO5
      refine l_one 8 rfl (by kernel_rfl) (gl_append_tags rfl (.tmp 25) (.tmp 29) rfl _ v4 m _ rfl HO5.out gt 0 3 3 rfl [zl, zl, zl].flatten (by simp [HZLL.out]) HR5.out (by omega) HBS.out.2 ?_)
      intro v5 W6 ho6 hg6 _
      have hB6 : Below Wd.heap.size Wd W6 := HB5.out.grown hg6 HB5.out.size (fun k hk => Nat.le_trans HBS.out.1 (own_base HO5.out k hk))
      clear hS
      have hS := HSN.out _ _ HSD.out hB6
      refine ⟨hS, ?_⟩
      simp only [Act.put, List.setIfInBounds_toArray, List.set_cons_zero, List.set_cons_succ]
      obtain ⟨g5, c5, rfl⟩ := ownsRow_succ (k := m + 2) ho6
      have hc5 : 4 ≤ c5 := by
        obtain ⟨A, c, e, hc⟩ := own_slice ho6
        obtain ⟨-, -, rfl⟩ := Value.slice.inj e
        omega
      have hrg : W6.rangeAt g5 0 (nums .u8 (padT zl c)) := fun q u hu => by
        rw [padT_nums zl c HC32.out HZLL.out] at hu
        have hu' : (nums .u8 c.flatten ++ nums .u8 [zl, zl, zl].flatten)[q]? = some u := by
          rw [List.getElem?_take] at hu
          split at hu
          · exact hu
          · cases hu
        have hh := World.ownsRow.cells ho6 (g := g5) rfl q u hu'
        rw [add_plain] at hh
        rw [Nat.zero_add]
        exact hh
      refine l_take 9 (.slice (some ⟨g5, 0, none⟩) 4 c5) hS rfl (by kernel_rfl) (by kernel_rfl) (by kernel_rfl) (by kernel_rfl) (fun _ _ _ h => h) rfl (fun w' hw' => exec_slice_h (.tmp 30) _ rfl g5 _ c5 rfl rfl hc5 w') ?_
      simp only [Act.put, List.setIfInBounds_toArray, List.set_cons_zero, List.set_cons_succ]
      refine l_take 10 (.pointer (some ⟨g5, 0, none⟩)) hS rfl (by kernel_rfl) (by kernel_rfl) (by kernel_rfl) (by kernel_rfl) (fun _ _ _ h => h) rfl (fun w' hw' => exec_arr4 (.tmp 31) rfl g5 c5 rfl w') ?_
      simp only [Act.put, List.setIfInBounds_toArray, List.set_cons_zero, List.set_cons_succ]
      refine l_one 11 rfl (by kernel_rfl) (gl_event (.agg (nums .u8 (padT zl c)).toArray) W6 rfl (run_load_rng 123 (.tmp 32) rfl g5 0 rfl .u8 _ (padT zl c) hrg Try.underlying123 rfl (by rw [HPD.out]; kernel_rfl)) hS (fun _ => ?_))
      simp only [Act.put, List.setIfInBounds_toArray, List.set_cons_zero, List.set_cons_succ]
      refine l_one 12 rfl (by kernel_rfl) (gl_call rfl 81 _ _ Try.func81 (by kernel_rfl) rfl _ _ #[.slice A0 kn c0, .agg (nums .u8 (padT zl c)).toArray] rfl (by simp [Act.put, Act.eval]) (HNODE.out W6 (below_next HD.out hB6)) ?_)
      rintro e W7 ⟨rfl, hb7⟩
      have hS7 := HSN.out _ _ hS hb7
      refine ⟨_, rfl, hS7, ?_⟩
      simp only [Act.put, List.setIfInBounds_toArray, List.set_cons_zero, List.set_cons_succ]
      have hbb : Below W7.heap.size W7 (W7.alloc (.cells (nums .u8 E).toArray 24)) := (Below.refl _ W7).alloc (Nat.le_refl _) _
      have hB8' := below_next (below_next (below_next HD.out hB6) hb7) hbb
      have hr8 : (W7.alloc (.cells (nums .u8 E).toArray 24)).rangeAt W7.heap.size 0 (nums .u8 E) := new_range _ _ _
      refine l_one 13 rfl (by kernel_rfl) (gl_event (.slice (some ⟨W7.heap.size, 0, none⟩) 1 1) (W7.alloc (.cells (nums .u8 E).toArray 24)) rfl (run_bs1 (.tmp 34) rfl E rfl HEL.out _) (HSN.out _ _ hS7 hbb) (fun hS8 => ?_))
      simp only [Act.put, List.setIfInBounds_toArray, List.set_cons_zero, List.set_cons_succ]
      clear hS hS7 hbb hb7 hrg ho6 hg6
      generalize (W7.alloc (.cells (nums .u8 E).toArray 24)) = W8 at *
      generalize W7.heap.size = g7' at *
      refine l_one 14 rfl (by kernel_rfl) (gl_append_tags rfl (.tmp 22) (.tmp 35) rfl _ vu pre.length _ rfl (own_below HROW.out hB8') g7' 0 1 1 rfl E (by rw [HEL.out]) hr8 (by have := HPL.out; omega) (Nat.le_trans HSZ.out hB8'.size) ?_)
      intro v9 W9 ho9 hg9 _
      have hob : ∀ k, vu.ownBlock = some k → g8 + 2 < k := fun k hk => Nat.lt_of_lt_of_le HB8.out (own_base HROW.out k hk)
      have hS9 := HS9.out W8 W9 hS8 hg9 hob
      refine ⟨hS9, ?_⟩
      simp only [Act.put, List.setIfInBounds_toArray, List.set_cons_zero, List.set_cons_succ]
      obtain ⟨g9, c9, rfl⟩ := ownsRow_succ (k := pre.length) ho9
      have hcx := hS9.2.cell
      have hfx := hS9.2.frozen
      refine l_one 15 rfl (by kernel_rfl) (gl_last (W9.setCell ⟨g8, 0, none⟩ (.slice (some ⟨g9, 0, none⟩) (pre.length + 1) c9)) rfl rfl (by (unfold execOp; simp [go_sem, Act.put, Act.eval, hcx, hfx])) ?_)
      simp only [Act.put, List.setIfInBounds_toArray, List.set_cons_zero, List.set_cons_succ]
      refine l_done (by kernel_rfl) ?_
      exact lv_end HT.out H32.out HIN.out HOO.out HW8.out HG37.out HB8.out HBL.out hB8' HROW.out hg9 hS9.2 HE.out HZL.out ho9
  · rintro D xs W hD hxs hin hDD
    simp only [Exit.inBlock, Exit.then]
    have HD := Lib.hid hD
    have HDD := Lib.hid hDD
    have hcb := hin.box.cell
    obtain ⟨vu, hvu, hrow⟩ := hin.up
    have hup : upsT key (zT key j) (lv key z j) (xs.map (·.1)) = lv key z (j + 1) := by rw [hxs]; rfl
    have hxl : xs.length = (lv key z (j + 1)).length := by
      rw [← hup]
      simp [upsT]
    rw [hup, hxl] at hrow
    obtain ⟨A', c', rfl, hc'⟩ := own_slice hrow
    have HROW := Lib.hid hrow
    have HC' := Lib.hid hc'
    obtain ⟨n1, hn1⟩ : ∃ n1, n1 = (lv key z (j + 1)).length := ⟨_, rfl⟩
    rw [← hn1] at hvu
    have HN1 := Lib.hid hn1
    have HVU := Lib.hid hvu
    have HMK := Lib.hid (Marks.cons hin.marks hDD (fun E hE => Nat.lt_of_lt_of_le (HDl.out E hE) hD))
    have HIN2 := Lib.hid hin
    clear hin hD hDD hxs hup hxl hrow hc' hn1 hvu
    obtain ⟨zl, hzl⟩ : ∃ zl, zl = zT key j := ⟨_, rfl⟩
    have HZLL := Lib.hid (show zl.length = 32 by rw [hzl]; exact zT_length _ _)
    have hz7 := HIN2.out.zero
    rw [← hzl] at hz7
    have HZ7 := Lib.hid hz7
    have hnode : Calls Try.prog 81 #[.slice A0 kn c0, .agg (nums .u8 [zl, zl, zl, zl].flatten).toArray] W (GivesArr .u8 (nodeF key [zl, zl, zl, zl].flatten) W) := by
      have h := node_any A0 c0 key [zl, zl, zl, zl].flatten (by simp [HZLL.out]) W (HT.out.key _ _ W HIN2.out.inv) (by rw [← HKN.out]; exact hc) (by rw [← HKN.out]; exact hl)
      rw [← HKN.out] at h
      exact h
    obtain ⟨q4, hq4⟩ : ∃ q, q = [zl, zl, zl, zl].flatten := ⟨_, rfl⟩
    rw [← hq4] at hnode
    obtain ⟨E, hE⟩ : ∃ E, E = nodeF key q4 := ⟨_, rfl⟩
    rw [← hE] at hnode
    have HQ4 := Lib.hid hq4
    have HNODE := Lib.hid hnode
    have HEL := Lib.hid (show E.length = 32 by rw [hE]; exact nodeF_length _ _)
    have HE := Lib.hid (show E = zT key (j + 1) by rw [hE, hq4, hzl]; rfl)
    clear hE hnode hz7 hzl hq4
    go_wp2_with (first
      | ((with_reducible refine gate_dst (N := 38) rfl ?_); refine load_row rfl 24 _ rfl g7 rfl .u8 _ _ zl HZ7.out Try.underlying24 rfl (by rw [HZLL.out]; kernel_rfl) ?_)
      | ((with_reducible refine gate_dst (N := 39) rfl ?_); refine load_row rfl 24 _ rfl g7 rfl .u8 _ _ zl HZ7.out Try.underlying24 rfl (by rw [HZLL.out]; kernel_rfl) ?_)
      | ((with_reducible refine gate_dst (N := 40) rfl ?_); refine load_row rfl 24 _ rfl g7 rfl .u8 _ _ zl HZ7.out Try.underlying24 rfl (by rw [HZLL.out]; kernel_rfl) ?_)
      | ((with_reducible refine gate_dst (N := 41) rfl ?_); refine load_row rfl 24 _ rfl g7 rfl .u8 _ _ zl HZ7.out Try.underlying24 rfl (by rw [HZLL.out]; kernel_rfl) ?_)
      | ((with_reducible refine gate_dst (N := 42) rfl ?_); refine list_run_g (by rfl) (.agg (nums .u8 q4).toArray) (by rw [HQ4.out]; exact run_build4 (.tmp 38) (.tmp 39) (.tmp 40) (.tmp 41) rfl zl zl zl zl rfl rfl rfl rfl (fun x hx => by simp at hx; rw [hx]; exact HZLL.out) _) ?_)
      | (go_at_call 81; refine HNODE.out.mono ?_; rintro e W5 ⟨rfl, hb5⟩; have HB5 := Lib.hid hb5; clear hb5)
      | ((with_reducible refine gate_store (t := 24) (p := 7) rfl ?_); refine store_arr rfl 24 _ _ rfl g7 .u8 E rfl rfl 24 _ (HZ7.out.next HB5.out) (by rw [HZLL.out, HEL.out]) (by rw [HEL.out]; kernel_rfl) ?_; intro W6 hA6 hW6; have HA6 := Lib.hid hA6; have HW6 := Lib.hid hW6; have hb6 : Boxed W6 g8 104 (.slice A' n1 c') := (by rw [hW6]; exact (setRow_other W5 g7 g8 _ (Nat.ne_of_gt HG37.out.2.2)).trans ((HB5.out.block _ HVU.out.lt).trans HVU.out)); have hv6 : W6.cell? ⟨g8, 0, none⟩ = some (.slice A' n1 c') := hb6.cell; clear hA6 hW6 hb6))
    have hrs := setRow_size' W5 g7 (nums .u8 E).toArray
    have hblk : ∀ k, k < W.heap.size → k ≠ g7 → W6.heap[k]? = W.heap[k]? := fun k hk hne => by
      rw [HW6.out]
      exact (setRow_other W5 g7 k _ hne).trans (HB5.out.block k hk)
    have hKx : Kx (fun b => b = g7) W W6 := by
      rw [HW6.out]
      exact (Kx.of_below HB5.out).trans (Kx.setRow W5 g7 _)
    have h37 : g3 < g7 ∧ g6 < g7 := by have := HS6.out; have := HLOW.out; omega
    have hD3 := HD.out
    refine ⟨⟨j + 1, A', c', O1, D :: Ds, .pointer (some ⟨g8, 0, none⟩), u10, .bool true, .func (.func f) #[] lb, .slice Aj (lv key z j).length cj, v, .slice Aj (lv key z j).length cj, .func (.func 142) #[] #[.pointer (some ⟨g8 + 1, 0, none⟩), .pointer (some ⟨g8 + 1 + 1, 0, none⟩)], .slice A0 kn c0, .agg (nums .u8 zl).toArray, .agg (nums .u8 zl).toArray, .agg (nums .u8 zl).toArray, .agg (nums .u8 zl).toArray, .agg (nums .u8 q4).toArray, .agg (nums .u8 E).toArray, .slice A' n1 c', .int .i64 ((j : Int) + 1), ?_, hlt, ?_⟩, ?_⟩
    rotate_left
    · rw [HN1.out]
      rfl
    · show h - (intOf (.int .i64 ((j : Int) + 1))).toNat < h - (intOf (.int .i64 (j : Int))).toNat
      simp only [intOf]
      omega
    · have hrow := HROW.out
      have h8 := HG8.out
      exact
      { box := (hblk _ HIN2.out.box.lt (by omega)).trans HIN2.out.box
        res := ⟨(hblk _ HIN2.out.res.lt (by omega)).trans HIN2.out.res.out⟩
        zero := by rw [← HE.out]; exact HA6.out
        row := (Flat.of_own (v := undef) hrow (lv_32 key z H32.out (j + 1))).next (lv_32 key z H32.out (j + 1)) (fun b o hA hlt => hblk b hlt (fun e => by
          have h1 := own_base hrow b (by rw [hA]; rfl)
          have := HG37.out
          have := HGS.out
          omega))
        rowO := fun b o hA hO => by
          have h1 := own_base hrow b (by rw [hA]; rfl)
          have h2 := HO8.out b hO
          have := HGS.out
          omega
        cap := HC'.out
        inv := HT.out.frame _ _ W W6 _ HIN2.out.inv hKx (fun b hb => by
          subst hb
          exact ⟨by have := HS3'.out; omega, HOWN.out.2.2⟩)
        marks := ⟨HMK.out.1, fun D' hD' => (hblk D' (HMK.out.lt hD') (fun e => by
          have h1 := HMK.out.2 D' hD'
          rw [e, HIN2.out.zero.out] at h1
          cases h1)).trans (HMK.out.2 D' hD')⟩
        own := HOWN.out
        dlow := fun D' hD' => by
          rcases List.mem_cons.1 hD' with rfl | hD'
          · exact Nat.le_trans HSZ3.out hD3
          · exact HDL.out D' hD'
        size := Nat.le_trans (Nat.le_trans HG8.out (Nat.le_of_lt HVU.out.lt)) hKx.size }
  · rintro D c pre W hD hS h hK
    exact h.elim
end Go.Proofs.Ytoiiacbbfhlocaa.HMa
end
section
set_option linter.unusedVariables false
set_option linter.unusedSimpArgs false
namespace Go.Proofs.Ytoiiacbbfhlocaa.HMa
open Go.RowKit Go.Shelf Go.Proofs.YtoiiacbbfhlocaaW.PrintWords Go.Proofs.YtoiiacbbfhlocaaW.PrintLast Go.Proofs.YtoiiacbbfhlocaaW.PrintMore Go.Proofs.Ytoiiacbbfhlocaa.Kit Go.Proofs.Ytoiiacbbfhlocaa.HHa Go.Proofs.Ytoiiacbbfhlocaa.HSa Go.Proofs.Ytoiiacbbfhlocaa.Mr
attribute [local irreducible] sumF padX inF hmF jN jF kF padK
theorem root1_any (A : Option Addr) (n c : Nat) (w : World) : Calls Try.prog 113 #[.slice A n c] w fun e w' => (∃ v, e = .returned v) ∧ w' = w := by
  go_enter Try.func113, Try.ntmps113
  go_wp2
  go_end0
  exact ⟨⟨_, rfl⟩, rfl⟩
theorem root_tell (key : List Int) (A0 : Option Addr) (z : List (List Int)) (h : Nat) (w0 w : World) (hr : Kd.C (Kd.int .u8) w0 A0 key.length key) (hw : w0.heap.size ≤ w.heap.size) :
    Tell key A0 z h w 113 #[] (fun _ O W => (∀ b, ¬ O b) ∧ Below w0.heap.size w0 W) where
  enters := enters_of Try.func113 (by kernel_rfl) rfl
  call := fun j hj O W A c hJ _ _ _ => (root1_any A _ c W).mono (by
    rintro e W' ⟨hv, rfl⟩
    exact ⟨hv, O, hJ, Kx.refl _ _, fun b hb => .inl hb⟩)
  frame := fun j O W W' X hJ hK hX => ⟨hJ.1, Kx.below hJ.2 hK hJ.2.size (fun b hb => Nat.le_trans hw (hX b hb).1)⟩
  cells := fun j O W b hJ hb => absurd hb (hJ.1 b)
  key := fun j O W hJ => Kd.C_below hr hJ.2
set_option maxRecDepth 100000 in
theorem root_any (k : Nat) (A0 : Option Addr) (c0 : Nat) (key : List Int) (A : Option Addr) (c : Nat) (z : List (List Int)) (h : Nat) (w : World) (hr : Kd.C (Kd.int .u8) w A0 key.length key)
    (hc : key.length ≤ c0) (hl : key.length ≤ 1000) (hz : Flat w A z) (h32 : T32 z) (hzc : z.length ≤ c) (hn : z.length ≤ 100) (hh : merkle_Height.f k z.length = some (h : Int)) (hh1 : h ≤ 20) :
    Calls Try.prog 71 #[.slice A0 key.length c0, .slice A z.length c] w (GivesArr .u8 (rootF key z h) w) := by
  have hlv : ∀ w1, Below w.heap.size w w1 → Calls Try.prog 112 #[.slice A0 key.length c0, .slice A z.length c, .func (.func 113) #[] #[]] w1 (GivesArr .u8 (rootF key z h) w1) := fun w1 hb => by
    refine (levels_any k A0 c0 key A c z h w1 _ _ _ (fun _ => False) (root_tell key A0 z h w1 w1 (Kd.C_below hr hb) (Nat.le_refl _)) ⟨fun _ h => h, Below.refl _ _⟩ hc hl (hz.below h32 hb) h32 (fun _ _ _ h => h) hzc hn hh hh1).mono ?_
    rintro e W ⟨rfl, O, hJ⟩
    exact ⟨rfl, hJ.2⟩
  have HLV := Lib.hid hlv
  obtain ⟨R, hR⟩ : ∃ R, R = rootF key z h := ⟨_, rfl⟩
  have HRL := Lib.hid (show R.length = 32 by rw [hR]; exact rootF_length key z h32 h)
  rw [← hR] at HLV ⊢
  obtain ⟨kn, hkn⟩ : ∃ n, n = key.length := ⟨_, rfl⟩
  obtain ⟨n, hnn⟩ : ∃ n, n = z.length := ⟨_, rfl⟩
  rw [← hkn, ← hnn] at HLV ⊢
  clear hr hc hl hz hzc hn hh hlv hR hkn hnn h32
  go_enter Try.func71, Try.ntmps71
  go_wp2_with (first
    | ((with_reducible refine gate_dst (N := 4) rfl ?_); refine alloc_arr rfl 24 rfl .u8 (List.replicate 32 0) (fun w => Try.zeroValue24 w) (by first | (go_simp; done) | (go_simp; rfl)) ?_; intro w2 hA2 hB2; have HA2 := Lib.hid hA2; have HB2 := Lib.hid hB2; clear hA2 hB2)
    | (go_at_call 112; refine (HLV.out _ HB2.out).mono ?_; rintro e w3 ⟨rfl, hb3⟩; have HB3 := Lib.hid (below_next HB2.out hb3); have HA3 := Lib.hid (HA2.out.next hb3); clear hb3)
    | ((with_reducible refine gate_store (t := 24) (p := 4) rfl ?_); refine store_arr rfl 24 _ _ rfl w.heap.size .u8 R rfl rfl 24 _ HA3.out (by rw [HRL.out]; rfl) (by rw [HRL.out]; kernel_rfl) ?_; intro w7 hA7 hw7; have hB7 := below_setRow HB3.out w.heap.size (Nat.le_refl _) (nums .u8 R).toArray; rw [← hw7] at hB7; have HA7 := Lib.hid hA7; have HB7 := Lib.hid hB7; clear hw7 hA7 hB7))
  exact bodyPost_ret (results_arr rfl _ _ w.heap.size .u8 _ _ _ R rfl HA7.out Try.underlying24 (by rw [HRL.out]; kernel_rfl)) rfl ⟨rfl, HB7.out⟩
theorem copy_tags {T : TypeId} (w : World) (ty : TypeId) (g6 : Nat) (xs : List Int) (hd : Arr .u8 T w g6 xs) (b o sl sc : Nat) (ys : List Int) (hx : xs.length = 128) (hy : ys.length = Nat.min sl 4 * 32) (hr : w.rangeAt b o (nums .u8 ys)) :
    (Builtin.copy_ #[104, 104] ty #[.slice (some ⟨g6, 0, none⟩) 4 4, .slice (some ⟨b, o, none⟩) sl sc]).run Try.prog w = .ok (goInt (Nat.min sl 4)) (w.setRow g6 (nums .u8 (ys ++ xs.drop ys.length)).toArray) := by
  obtain ⟨ie, hie, hzz⟩ := Option.map_eq_some_iff.1 infoTag
  simp only [Prod.mk.injEq] at hzz
  obtain ⟨hz0, hz1, hz2⟩ := hzz
  have hlen : (nums .u8 ys).length = Nat.min sl 4 * 32 := by simp [nums, hy]
  have hm : Nat.min sl 4 ≤ 4 := Nat.min_le_right _ _
  have hl := run_loadCells_list (P := Try.prog) w ⟨b, o, none⟩ (nums .u8 ys) (fun j u hu => by rw [Addr.add_mid]; exact hr j u hu)
  have hst := run_storeCells_at Try.prog g6 0 T (nums .u8 ys) 0 _ w hd.out (by simp only [hlen]; simp [nums, hx]; omega) (fun u hu => by unfold nums at hu; obtain ⟨n, _, rfl⟩ := List.mem_map.1 hu; rfl)
  rw [hlen] at hl
  simp [Builtin.copy_, run_underlying Try.underlying104, Builtin.lenOf, Builtin.firstCells, sizeOf, typeInfo, hie, hz1, hl, hst]
  simp [nums, List.map_drop]
theorem padT_copy (zl : List Int) (c : List (List Int)) (hz : zl.length = 32) (hc : T32 c) (h1 : 1 ≤ c.length) (h4 : c.length ≤ 4) : c.flatten ++ [zl, zl, zl, zl].flatten.drop c.flatten.length = padT zl c := by
  have h32 : T32 [zl, zl, zl, zl] := fun x hx => by simp at hx; rw [hx]; exact hz
  unfold padT
  rw [hc.flat, ← flat_drop _ _ h32, ← List.flatten_append]
  congr 1
  match c, h1, h4 with
  | [a], _, _ => rfl
  | [a, b], _, _ => rfl
  | [a, b, d], _, _ => rfl
  | [a, b, d, e], _, _ => rfl
def wayG (key : List Int) (z : List (List Int)) (place : Nat) : Nat → List (List Int)
  | 0 => []
  | j + 1 => wayG key z place j ++ [padT (zT key j) (fourOf (lv key z j) (place / 4 ^ j / 4))]
theorem wayG_length (key : List Int) (z : List (List Int)) (place : Nat) : ∀ j, (wayG key z place j).length = j
  | 0 => rfl
  | j + 1 => by rw [wayG, List.length_append, wayG_length key z place j]; rfl
end Go.Proofs.Ytoiiacbbfhlocaa.HMa
end
section
set_option linter.unusedVariables false
set_option linter.unusedSimpArgs false
namespace Go.Proofs.Ytoiiacbbfhlocaa.HMa
open Go.RowKit Go.Shelf Go.Proofs.YtoiiacbbfhlocaaW.PrintWords Go.Proofs.YtoiiacbbfhlocaaW.PrintLast Go.Proofs.YtoiiacbbfhlocaaW.PrintMore Go.Proofs.Ytoiiacbbfhlocaa.Kit Go.Proofs.Ytoiiacbbfhlocaa.HHa Go.Proofs.Ytoiiacbbfhlocaa.HSa Go.Proofs.Ytoiiacbbfhlocaa.Mr
attribute [local irreducible] sumF padX inF hmF jN jF kF padK
def T128 (z : List (List Int)) : Prop := ∀ x ∈ z, x.length = 128
theorem T128.flat : ∀ {z : List (List Int)}, T128 z → z.flatten.length = z.length * 128
  | [], _ => rfl
  | x :: z, h => by
    rw [List.flatten_cons, List.length_append, h x List.mem_cons_self, T128.flat (fun y hy => h y (List.mem_cons_of_mem _ hy)), List.length_cons]
    omega
theorem run_bs1w {o : Oper} {a : Act} (x0 : Operand) (ho : o.op = .buildSlice 112 1 #[(0, x0)]) (a0 : List Int) (h0 : a.eval x0 = .agg (nums .u8 a0).toArray)
    (h128 : a0.length = 128) (w : World) : (execOp a.eval o).run Try.prog w = .ok (.value (.slice (some ⟨w.heap.size, 0, none⟩) 1 1)) (w.alloc (.cells (nums .u8 a0).toArray 123)) := by
  obtain ⟨ie, hie, hzz⟩ := Option.map_eq_some_iff.1 infoTag4
  simp only [Prod.mk.injEq] at hzz
  obtain ⟨hz0, hz1, hz2⟩ := hzz
  have h := run_buildSlice (P := Try.prog) w 112 123 1 #[(0, a.eval x0)] (nums .u8 [a0].flatten).toArray ie _ Try.underlying112 hie hz0 (by rw [hz1]; decide) (by rw [hz1]; decide) (by
    rw [hz1]
    rw [h0]
    have := Great.fill_whole (s := 128) (by decide) ([a0].map fun x => Value.agg (nums .u8 x).toArray) ((Array.range (1 * 128)).map ((Value.agg (nums .u8 (List.replicate 128 0)).toArray).cells[· % (Value.agg (nums .u8 (List.replicate 128 0)).toArray).cells.size]!)) (by
      intro v hv
      obtain ⟨x, hx, rfl⟩ := List.mem_map.1 hv
      obtain rfl := List.mem_singleton.1 hx
      simp [Value.cells, nums, h128]) (by simp)
    rw [flat_cells] at this
    exact this)
  rw [show [a0].flatten = a0 from by simp] at h
  unfold execOp
  simp only [ho]
  simp [Sem.run_bind, h, Result.andThen]
theorem ev_append_fours {ops : Array Oper} {rest : List Oper} {oo : Oper} {a : Act} {w : World} {Q : Exit → Act → World → Prop} (hw : Region.wanted oo (yielded ops a.tmps) = true) (s x : Operand) (ho : oo.op = .call { callee := .builtin .append, args := #[s, x], argTypes := #[112, 112] }) (base : Nat) (v : Value) (n : Nat) (xs : List Value) (hs : a.eval s = v) (hown : w.ownsRow base 123 128 v n xs) (b o m c : Nat) (hx : a.eval x = .slice (some ⟨b, o, none⟩) m c)
    (ys : List Int) (hl : ys.length = m * 128) (hr : w.rangeAt b o (nums .u8 ys)) (hn : n + m ≤ 1000) (hbase : base ≤ w.heap.size)
    (h : ∀ v' w', w'.ownsRow base 123 128 v' (n + m) (xs ++ nums .u8 ys) → w.grownBy w' v.ownBlock → (v'.ownBlock = v.ownBlock ∨ v'.ownBlock = some w.heap.size) → wpList Try.prog ops Q rest (a.put oo.dst v') w') : wpList Try.prog ops Q (oo :: rest) a w := by
  obtain ⟨i0, hi, hzz⟩ := Option.map_eq_some_iff.1 infoTag4
  simp only [Prod.mk.injEq] at hzz
  obtain ⟨hz0, hz1, hz2⟩ := hzz
  obtain ⟨v', w', h1, h2, h3, -, h5⟩ := run_append_own_at (P := Try.prog) w base 112 oo.type 123 i0 _ 128 128 Try.underlying112 hi hz0 hz1 hz2 (by simp [Value.cells, nums]) (by decide) v n xs hown ⟨b, o, none⟩ m c (nums .u8 ys) (by simp [nums, hl])
    (fun j u hu => by rw [Addr.add_mid]; exact hr j u hu) (fun u hu => by unfold nums at hu; obtain ⟨n, _, rfl⟩ := List.mem_map.1 hu; rfl) (by simp only [maxLen]; omega) (by omega) hbase
  refine list_event hw v' w' ?_ (h v' w' h2 h3 h5)
  unfold execOp
  simp only [ho, resolve, invoke, builtin, Sem.run_bind, Sem.run_pure, Result.andThen_ok, List.map_toArray, List.map_cons, List.map_nil, hs, hx, h1]
structure WayAt (A0 : Option Addr) (kn c0 gz gp go gk B : Nat) (zl : List Int) (p : Nat) (ws : List (List Int)) (v : Value) (W : World) : Prop where
  zero : Arr .u8 24 W gz zl
  place : Boxed W gp 3 (.int .i64 (p : Int))
  outs : Boxed W go 112 v
  row : W.ownsRow B 123 128 v ws.length (nums .u8 ws.flatten)
  box : Boxed W gk 29 (.slice A0 kn c0)
theorem blocks_ne {W : World} {g g' : Nat} {o o' : Obj} (h : W.heap[g]? = some o) (h' : W.heap[g']? = some o') (hne : o ≠ o') : g ≠ g' := fun e => by
  subst e
  rw [h] at h'
  exact hne (Option.some.inj h')
theorem obj_ne {c c' : Array Value} {t t' : TypeId} {m m' : Nat × Nat} (h : t ≠ t') : Obj.cells c t m ≠ Obj.cells c' t' m' := fun e => by cases e; exact h rfl
theorem own_not {W : World} {base e size n g : Nat} {v : Value} {xs : List Value} (hr : W.ownsRow base e size v n xs) {c : Array Value} {t : TypeId} {m : Nat × Nat} (h : W.heap[g]? = some (.cells c t m)) (hne : t ≠ e) : v.ownBlock ≠ some g := fun eq => by
  obtain ⟨cs, hc⟩ := own_typed hr g eq
  rw [h] at hc
  cases hc
  exact hne rfl
theorem store_box {P : Program} {ops : Array Oper} {rest : List Oper} {o : Oper} {a : Act} {w : World} {Q : Exit → Act → World → Prop} (hgd : o.guard = none) (ty : TypeId) (x y : Operand) (ho : o.op = .store ty x y) (g : Nat) (hx : a.eval x = .pointer (some ⟨g, 0, none⟩)) (v : Value) (hy : a.eval y = v) (h1 : v.oneCell' = true)
    (t : TypeId) (old : Value) (hB : Boxed w g t old) (hi : (P.info? ty).map (·.size) = some 1) (h : ∀ w', Boxed w' g t v → Kx (fun b => b = g) w w' → wpList P ops Q rest (a.put o.dst undef) w') : wpList P ops Q (o :: rest) a w := by
  subst hy
  exact Go.wpList_store_one hgd ty x y ho g hx h1 t old hB hi (h _ (setRow_heap w g _ _ t _ hB) (Kx.setRow w g _))
theorem Kx.box {X : Nat → Prop} {w w' : World} (h : Kx X w w') {g : Nat} {t : TypeId} {v : Value} (hB : Boxed w g t v) (hX : ¬ X g) : Boxed w' g t v := (h.block g hB.lt hX).trans hB
theorem Kx.arr {X : Nat → Prop} {w w' : World} (h : Kx X w w') {k : IntKind} {T : TypeId} {g : Nat} {xs : List Int} (hA : Arr k T w g xs) (hX : ¬ X g) : Arr k T w' g xs := ⟨(h.block g hA.lt hX).trans hA.out⟩
theorem Kx.row {X : Nat → Prop} {w w' : World} (h : Kx X w w') {base e size n : Nat} {v : Value} {xs : List Value} (hr : w.ownsRow base e size v n xs) (hX : ∀ b, v.ownBlock = some b → ¬ X b) : w'.ownsRow base e size v n xs := by
  refine ⟨hr.1, ?_⟩
  rcases hr.2 with h0 | ⟨g, cap, cur, rfl, hg, hh, r⟩
  · exact .inl h0
  · exact .inr ⟨g, cap, cur, rfl, hg, (h.block g (Array.getElem?_eq_some_iff.1 hh).1 (hX g rfl)).trans hh, r⟩
theorem Kx.imp {X Y : Nat → Prop} {w w' : World} (h : Kx X w w') (hXY : ∀ b, b < w.heap.size → X b → Y b) : Kx Y w w' := ⟨h.os, h.tape, h.output, h.size, fun k hk hy => h.block k hk (fun hx => hy (hXY k hk hx))⟩
set_option maxRecDepth 100000 in
set_option maxHeartbeats 4000000 in
theorem way1_any (A0 : Option Addr) (key : List Int) (kn c0 gz gp go gk B : Nat) (zl : List Int) (p : Nat) (ws : List (List Int)) (v : Value) (A : Option Addr) (cj : Nat) (L : List (List Int)) (W : World) (hW : WayAt A0 kn c0 gz gp go gk B zl p ws v W) (hkey : ∀ W', Kx (fun b => b = gz ∨ b = gp ∨ b = go ∨ v.ownBlock = some b) W W' → Kd.C (Kd.int .u8) W' A0 kn key) (hkn : kn = key.length) (hc : kn ≤ c0) (hl : kn ≤ 1000)
    (hL : Flat W A L) (h32 : T32 L) (hcap : L.length ≤ cj) (hp : p < L.length) (hn : L.length ≤ 100) (hzl : zl.length = 32) (hws : T128 ws) (hwn : ws.length ≤ 30) (hB : B ≤ W.heap.size) :
    Calls Try.prog 115 #[.slice A L.length cj, .pointer (some ⟨gz, 0, none⟩), .pointer (some ⟨gp, 0, none⟩), .pointer (some ⟨go, 0, none⟩), .pointer (some ⟨gk, 0, none⟩)] W fun e W' => (∃ u, e = .returned u) ∧ ∃ v', WayAt A0 kn c0 gz gp go gk B (nodeF key [zl, zl, zl, zl].flatten) (p / 4) (ws ++ [padT zl (fourOf L (p / 4))]) v' W' ∧ Kx (fun b => b = gz ∨ b = gp ∨ b = go ∨ v.ownBlock = some b) W W' ∧ (v'.ownBlock = v.ownBlock ∨ ∃ b, v'.ownBlock = some b ∧ W.heap.size ≤ b) := by
  have HW := Lib.hid hW
  have HKEY := Lib.hid hkey
  have HKN := Lib.hid hkn
  have H32 := Lib.hid h32
  have HZL := Lib.hid hzl
  have HWS := Lib.hid hws
  have hne : L ≠ [] := fun e => by rw [e] at hp; exact Nat.not_lt_zero _ hp
  obtain ⟨b, o, rfl, hrange⟩ := hL hne
  have HRG := Lib.hid hrange
  have h4 : T32 [zl, zl, zl, zl] := fun y hy => by simp at hy; rw [hy]; exact hzl
  have H4 := Lib.hid h4
  obtain ⟨n, hnn⟩ : ∃ n, n = L.length := ⟨_, rfl⟩
  have HNN := Lib.hid hnn
  rw [← hnn] at hcap hp hn ⊢
  obtain ⟨Z4, hZ4⟩ : ∃ z, z = [zl, zl, zl, zl].flatten := ⟨_, rfl⟩
  have HZ4 := Lib.hid hZ4
  have HZ4L := Lib.hid (show Z4.length = 128 by rw [hZ4]; simp [hzl])
  obtain ⟨NX, hNX⟩ : ∃ x, x = nodeF key Z4 := ⟨_, rfl⟩
  have HNX := Lib.hid hNX
  have HNXL := Lib.hid (show NX.length = 32 by rw [hNX]; exact nodeF_length _ _)
  have hnode : ∀ W', Kx (fun b => b = gz ∨ b = gp ∨ b = go ∨ v.ownBlock = some b) W W' → Calls Try.prog 81 #[.slice A0 kn c0, .agg (nums .u8 Z4).toArray] W' (GivesArr .u8 NX W') := fun W' hb => by
    have h := node_any A0 c0 key Z4 HZ4L.out W' (by rw [← HKN.out]; exact HKEY.out W' hb) (by rw [← HKN.out]; exact hc) (by rw [← HKN.out]; exact hl)
    rw [← HKN.out, ← HNX.out] at h
    exact h
  have HNODE := Lib.hid hnode
  rw [← hZ4, ← hNX]
  clear hW hkey hkn h32 hzl hws hne hrange h4 hnn hZ4 hNX hnode hL
  have hcp := HW.out.place.cell
  have hco := HW.out.outs.cell
  have hck := HW.out.box.cell
  go_enter Try.func115, Try.ntmps115
  go_wp2_with (first
    | ((with_reducible refine gate_dst (N := 7) rfl ?_); refine load_row rfl 24 _ rfl gz rfl .u8 _ _ zl HW.out.zero Try.underlying24 rfl (by rw [HZL.out]; kernel_rfl) ?_)
    | ((with_reducible refine gate_dst (N := 8) rfl ?_); refine load_row rfl 24 _ rfl gz rfl .u8 _ _ zl HW.out.zero Try.underlying24 rfl (by rw [HZL.out]; kernel_rfl) ?_)
    | ((with_reducible refine gate_dst (N := 9) rfl ?_); refine load_row rfl 24 _ rfl gz rfl .u8 _ _ zl HW.out.zero Try.underlying24 rfl (by rw [HZL.out]; kernel_rfl) ?_)
    | ((with_reducible refine gate_dst (N := 10) rfl ?_); refine load_row rfl 24 _ rfl gz rfl .u8 _ _ zl HW.out.zero Try.underlying24 rfl (by rw [HZL.out]; kernel_rfl) ?_)
    | ((with_reducible refine gate_dst (N := 11) rfl ?_); refine list_run_g (by rfl) _ (run_build4 _ _ _ _ rfl zl zl zl zl rfl rfl rfl rfl H4.out _) ?_; rw [← HZ4.out])
    | ((with_reducible refine gate_dst (N := 6) rfl ?_); refine alloc_arr rfl 123 rfl .u8 (List.replicate 128 0) (fun w => Try.zeroValue123 w) (by first | (go_simp; done) | (go_simp; rfl)) ?_; intro w2 hA2 hB2; have HA2 := Lib.hid hA2; have HB2 := Lib.hid hB2; clear hA2 hB2)
    | ((with_reducible refine gate_store (t := 123) (p := 6) rfl ?_); refine store_arr rfl 123 _ _ rfl W.heap.size .u8 Z4 rfl rfl 123 _ HA2.out (by rw [HZ4L.out]; rfl) (by rw [HZ4L.out]; kernel_rfl) ?_; intro w3 hA3 hw3; have hB3 := below_setRow HB2.out W.heap.size (Nat.le_refl _) (nums .u8 Z4).toArray; rw [← hw3] at hB3; have HA3 := Lib.hid hA3; have HB3 := Lib.hid hB3; clear hA3 hw3 hB3))
  obtain ⟨g6, hg6⟩ : ∃ g, g = W.heap.size := ⟨_, rfl⟩
  have HG6 := Lib.hid hg6
  rw [← hg6] at HA3 ⊢
  have HW3 : Hid (WayAt A0 kn c0 gz gp go gk B zl p ws v w3) := Lib.hid ⟨HW.out.zero.next HB3.out, (HB3.out.block _ HW.out.place.lt).trans HW.out.place, (HB3.out.block _ HW.out.outs.lt).trans HW.out.outs, own_below HW.out.row HB3.out, (HB3.out.block _ HW.out.box.lt).trans HW.out.box⟩
  obtain ⟨q, hq⟩ : ∃ q, q = p / 4 := ⟨_, rfl⟩
  have HQ := Lib.hid hq
  have hq1 : (p : Int).tdiv 4 = (q : Int) := by rw [Int.tdiv_eq_ediv_of_nonneg (by omega)]; omega
  have hq2 : 4 * q < n := by omega
  have HRG3 := Lib.hid (show w3.rangeAt b o (nums .u8 L.flatten) from range_below HRG.out (HB3.out.block b (by
    have h0 : 0 < (nums .u8 L.flatten).length := by
      simp only [nums, List.length_map, H32.out.flat, ← HNN.out]
      omega
    exact World.block_lt_of_cell? _ _ (HRG.out 0 _ (List.getElem?_eq_getElem h0)))))
  clear hg6 hq HA2 HB2 hcp hco hck
  have hp3 : (q : Int) * 4 = ((4 * q : Nat) : Int) := by omega
  have hq3 : q ≤ 9223372036854775807 / 8 := by omega
  have hqw := IntWalk.i64_in (4 * (q : Int)) (by omega)
  have hwq := IntWalk.i64_in (q : Int) (by omega)
  refine s_region (fun u => Boxed u gp 3 (.int .i64 (p : Int))) (by kernel_rfl) 7 (by kernel_rfl) HW3.out.place (fun hS => ?_)
  refine s_take 0 (.slice (some ⟨g6, 0, none⟩) 4 4) hS rfl (by kernel_rfl) (by kernel_rfl) (by kernel_rfl) (fun _ _ _ h => h) rfl (fun w' hw' => by (unfold execOp; simp [go_sem, Act.put, Act.eval, Try.underlying123])) ?_
  simp only [Act.put, List.setIfInBounds_toArray, List.set_cons_zero, List.set_cons_succ]
  refine s_take 1 (.slice (some ⟨b, o, none⟩) n cj) hS rfl (by kernel_rfl) (by kernel_rfl) (by kernel_rfl) (fun _ _ _ h => h) rfl (fun w' hw' => by (unfold execOp; simp [go_sem, Act.put, Act.eval])) ?_
  simp only [Act.put, List.setIfInBounds_toArray, List.set_cons_zero, List.set_cons_succ]
  refine s_take 2 (.int .i64 (p : Int)) hS rfl (by kernel_rfl) (by kernel_rfl) (by kernel_rfl) (fun _ _ _ h => h) rfl (fun w' hw' => by (have hc0 := Boxed.cell hw'; unfold execOp; simp [go_sem, Act.put, Act.eval, hc0])) ?_
  simp only [Act.put, List.setIfInBounds_toArray, List.set_cons_zero, List.set_cons_succ]
  refine s_take 3 (.int .i64 (q : Int)) hS rfl (by kernel_rfl) (by kernel_rfl) (by kernel_rfl) (fun _ _ _ h => h) rfl (fun w' hw' => by (have hc0 := hwq; have hc1 := hq1; unfold execOp; simp [go_sem, Act.put, Act.eval, hc0, hc1])) ?_
  simp only [Act.put, List.setIfInBounds_toArray, List.set_cons_zero, List.set_cons_succ]
  refine s_take 4 (.int .i64 ((4 * q : Nat) : Int)) hS rfl (by kernel_rfl) (by kernel_rfl) (by kernel_rfl) (fun _ _ _ h => h) rfl (fun w' hw' => by (have hc0 := hqw; have hc1 := hp3; unfold execOp; simp [go_sem, Act.put, Act.eval, hc0, hc1])) ?_
  simp only [Act.put, List.setIfInBounds_toArray, List.set_cons_zero, List.set_cons_succ]
  refine s_take 5 (.slice (some ⟨b, o + 4 * q * 32, none⟩) (n - 4 * q) (cj - 4 * q)) hS rfl (by kernel_rfl) (by kernel_rfl) (by kernel_rfl) (fun _ _ _ h => h) rfl (fun w' hw' => exec_slice_l (.tmp 13) (.tmp 16) rfl b o n cj _ (4 * q) rfl rfl rfl hq2 hcap w') ?_
  simp only [Act.put, List.setIfInBounds_toArray, List.set_cons_zero, List.set_cons_succ]
  obtain ⟨Y, hY⟩ : ∃ Y, Y = fourOf L q := ⟨_, rfl⟩
  have hmin : Nat.min (n - 4 * q) 4 = Y.length := by rw [hY]; unfold fourOf; rw [List.length_take, List.length_drop, ← HNN.out]; exact Nat.min_comm _ _
  have hY32 : T32 Y := by rw [hY]; exact (H32.out.drop _).take _
  have hYr : w3.drew.rangeAt b (o + 4 * q * 32) (nums .u8 Y.flatten) := by
    have h := range_part HRG3.out (4 * q * 32) 128
    have e : ((nums .u8 L.flatten).drop (4 * q * 32)).take 128 = nums .u8 Y.flatten := by
      rw [hY]
      unfold fourOf nums
      rw [flat_take _ _ (H32.out.drop _), flat_drop _ _ H32.out, ← List.map_drop, ← List.map_take]
    rw [e] at h
    exact h
  have hcopy := copy_tags w3.drew 3 g6 Z4 HA3.out.drew b (o + 4 * q * 32) (n - 4 * q) (cj - 4 * q) Y.flatten HZ4L.out (by rw [hY32.flat, ← hmin]) hYr
  rw [show Y.flatten ++ Z4.drop Y.flatten.length = padT zl Y from by
    rw [HZ4.out]
    exact padT_copy zl Y HZL.out hY32 (by rw [← hmin]; exact Nat.le_min.2 ⟨by omega, by decide⟩) (by rw [← hmin]; exact Nat.min_le_right _ _)] at hcopy
  have HPL := Lib.hid (show (padT zl Y).length = 128 from padT_length zl Y HZL.out hY32 (by rw [← hmin]; exact Nat.le_min.2 ⟨by omega, by decide⟩))
  obtain ⟨X, hX⟩ : ∃ X, X = padT zl Y := ⟨_, rfl⟩
  rw [← hX] at hcopy HPL
  have HX := Lib.hid (show X = padT zl (fourOf L q) from by rw [hX, hY])
  have hne6 : gp ≠ g6 := blocks_ne HW3.out.place HA3.out.out (obj_ne (by decide))
  refine s_event 6 (goInt (Nat.min (n - 4 * q) 4)) (w3.drew.setRow g6 (nums .u8 X).toArray) rfl (by kernel_rfl) rfl (by (have hc0 := hcopy; unfold execOp; simp [go_sem, Act.put, Act.eval, hc0])) ((setRow_other w3.drew g6 gp _ hne6).trans HW3.out.place) ?_
  intro hS4
  simp only [Act.put, List.setIfInBounds_toArray, List.set_cons_zero, List.set_cons_succ]
  refine s_done (by kernel_rfl) ?_
  have hB4 : Below W.heap.size W (w3.drew.setRow g6 (nums .u8 X).toArray) := below_setRow (below_drew HB3.out) g6 (by rw [HG6.out]; exact Nat.le_refl _) _
  obtain ⟨w4, hw4⟩ : ∃ w, w = w3.drew.setRow g6 (nums .u8 X).toArray := ⟨_, rfl⟩
  have hA4 : Arr .u8 123 w4 g6 X := by rw [hw4]; exact ⟨setRow_heap _ g6 _ _ _ _ HA3.out.drew.out⟩
  rw [← hw4] at hB4 ⊢
  have HB4 := Lib.hid hB4
  have HA4 := Lib.hid hA4
  have HW4 : Hid (WayAt A0 kn c0 gz gp go gk B zl p ws v w4) := Lib.hid ⟨HW.out.zero.next hB4, (hB4.block _ HW.out.place.lt).trans HW.out.place, (hB4.block _ HW.out.outs.lt).trans HW.out.outs, own_below HW.out.row hB4, (hB4.block _ HW.out.box.lt).trans HW.out.box⟩
  clear hS hS4 hw4 hA4 hB4 hcopy hX hY hYr hY32 hmin hne6 HA3 HW3 HRG3 HB3 HRG
  generalize goInt (Nat.min (n - 4 * q) 4) = gi
  have hco := HW4.out.outs.cell
  have hcf := HW4.out.outs.frozen
  obtain ⟨m, hm⟩ : ∃ m, m = ws.length := ⟨_, rfl⟩
  have HM := Lib.hid hm
  go_wp2_with (first
    | ((with_reducible refine gate_dst (N := 20) rfl ?_); refine load_row rfl 123 _ rfl g6 rfl .u8 _ _ X HA4.out Try.underlying123 rfl (by rw [HPL.out]; kernel_rfl) ?_)
    | ((with_reducible refine gate_dst (N := 21) rfl ?_); refine list_event (by rfl) _ _ (run_bs1w _ rfl X rfl HPL.out _) ?_)
    | ((with_reducible refine gate_builtin (b := .append) (xs := #[.tmp 19, .tmp 21]) rfl ?_); at_builtin; refine blk ?_))
  have hn5 : Below w4.heap.size w4 (w4.alloc (.cells (nums .u8 X).toArray 123)) := (Below.refl _ w4).alloc (Nat.le_refl _) _
  refine ⟨ev_append_fours rfl (.tmp 19) (.tmp 21) rfl B v ws.length _ rfl (own_below HW4.out.row hn5) w4.heap.size 0 1 1 rfl X (by rw [HPL.out]) (new_range _ _ _) (by omega) (Nat.le_trans hB (Nat.le_trans HB4.out.size hn5.size)) ?_⟩
  intro v5 w6 ho6 hg6 hat6
  have hK6 : Kx (fun b => v.ownBlock = some b) w4 w6 := (Kx.of_below hn5).trans (Kx.of_grown hg6 (fun k e => e))
  have hz6 : Arr .u8 24 w6 gz zl := hK6.arr HW4.out.zero (own_not HW4.out.row HW4.out.zero.out (by decide))
  have hp6 : Boxed w6 gp 3 (.int .i64 (p : Int)) := hK6.box HW4.out.place (own_not HW4.out.row HW4.out.place (by decide))
  have ho6b : Boxed w6 go 112 v := hK6.box HW4.out.outs (own_not HW4.out.row HW4.out.outs (by decide))
  have hk6 : Boxed w6 gk 29 (.slice A0 kn c0) := hK6.box HW4.out.box (own_not HW4.out.row HW4.out.box (by decide))
  have hnp : gp ≠ go := blocks_ne hp6 ho6b (obj_ne (by decide))
  have hnz : gz ≠ go := blocks_ne hz6.out ho6b (obj_ne (by decide))
  have hnk : gk ≠ go := blocks_ne hk6 ho6b (obj_ne (by decide))
  have hzp : gz ≠ gp := blocks_ne hz6.out hp6 (obj_ne (by decide))
  have hkp : gk ≠ gp := blocks_ne hk6 hp6 (obj_ne (by decide))
  have hkz : gk ≠ gz := blocks_ne hk6 hz6.out (obj_ne (by decide))
  obtain ⟨g5, c5, e5⟩ := ownsRow_succ (k := ws.length) ho6
  have hv5 : v5.oneCell' = true := by rw [e5]; rfl
  have HK06 := Lib.hid (show Kx (fun b => b = gz ∨ b = gp ∨ b = go ∨ v.ownBlock = some b) W w6 from (Kx.of_below HB4.out).trans (hK6.imp (fun b hb h => .inr (.inr (.inr h)))))
  have HO6 := Lib.hid ho6
  have HK6 := Lib.hid hK6
  have HAT := Lib.hid hat6
  have HZ6 := Lib.hid hz6
  have HP6 := Lib.hid hp6
  have HO6B := Lib.hid ho6b
  have HK6B := Lib.hid hk6
  have hsz : W.heap.size ≤ w4.heap.size := HB4.out.size
  have hs46 : w4.heap.size ≤ w6.heap.size := hK6.size
  have HV5 := Lib.hid e5
  clear ho6 hg6 hK6 hat6 hz6 hp6 ho6b hk6 e5 hn5 hco hcf HA4
  go_wp2_with (first
    | ((with_reducible refine gate_store (t := 112) (p := 3) rfl ?_); refine store_box rfl 112 _ _ rfl go rfl v5 rfl hv5 _ v HO6B.out (by kernel_rfl) ?_; intro w7 hb7 hK7; have HO7 := Lib.hid hb7; have HK7 := Lib.hid hK7; have HP7 := Lib.hid (hK7.box HP6.out hnp); have hcp := HP7.out.cell; clear hb7 hK7)
    | ((with_reducible refine gate_store (t := 3) (p := 2) rfl ?_); refine store_box rfl 3 _ _ rfl gp rfl (.int .i64 (q : Int)) rfl rfl _ _ HP7.out (by kernel_rfl) ?_; intro w8 hb8 hK8; have HP8 := Lib.hid hb8; have HK8 := Lib.hid hK8; have hZ8 := hK8.arr (HK7.out.arr HZ6.out hnz) hzp; have hK8b := hK8.box (HK7.out.box HK6B.out hnk) hkp; have HZ8 := Lib.hid hZ8; have HK8B := Lib.hid hK8b; have hck := hK8b.cell; clear hcp hb8 hK8 hZ8 hK8b)
    | ((with_reducible refine gate_dst (N := 26) rfl ?_); refine load_row rfl 24 _ rfl gz rfl .u8 _ _ zl HZ8.out Try.underlying24 rfl (by rw [HZL.out]; kernel_rfl) ?_)
    | ((with_reducible refine gate_dst (N := 27) rfl ?_); refine load_row rfl 24 _ rfl gz rfl .u8 _ _ zl HZ8.out Try.underlying24 rfl (by rw [HZL.out]; kernel_rfl) ?_)
    | ((with_reducible refine gate_dst (N := 28) rfl ?_); refine load_row rfl 24 _ rfl gz rfl .u8 _ _ zl HZ8.out Try.underlying24 rfl (by rw [HZL.out]; kernel_rfl) ?_)
    | ((with_reducible refine gate_dst (N := 29) rfl ?_); refine load_row rfl 24 _ rfl gz rfl .u8 _ _ zl HZ8.out Try.underlying24 rfl (by rw [HZL.out]; kernel_rfl) ?_)
    | ((with_reducible refine gate_dst (N := 30) rfl ?_); refine list_run_g (by rfl) _ (run_build4 _ _ _ _ rfl zl zl zl zl rfl rfl rfl rfl H4.out _) ?_; rw [← HZ4.out])
    | (go_at_call 81; refine (HNODE.out w8 (HK06.out.trans ((HK7.out.imp (fun _ _ h => .inr (.inr (.inl h)))).trans (HK8.out.imp (fun _ _ h => .inr (.inl h)))))).mono ?_; rintro e w9 ⟨rfl, hb9⟩; have HB9 := Lib.hid hb9; have HZ9 := Lib.hid (HZ8.out.next hb9); clear hb9)
    | ((with_reducible refine gate_store (t := 24) (p := 1) rfl ?_); refine store_arr rfl 24 _ _ rfl gz .u8 NX rfl rfl 24 _ HZ9.out (by rw [HNXL.out, HZL.out]) (by rw [HNXL.out]; kernel_rfl) ?_; intro w10 hA10 hw10; have HA10 := Lib.hid hA10; have HW10 := Lib.hid hw10; clear hA10 hw10))
  go_end0
  refine ⟨⟨_, rfl⟩, v5, ?_, ?_, ?_⟩
  · have hpz : gp ≠ gz := fun e => hzp e.symm
    have hoz : go ≠ gz := fun e => hnz e.symm
    have hop : go ≠ gp := fun e => hnp e.symm
    have hvz : ∀ b', v5.ownBlock = some b' → b' ≠ gz := fun b' hb' e => own_not HO6.out HZ6.out.out (by decide) (e ▸ hb')
    have hvp : ∀ b', v5.ownBlock = some b' → b' ≠ gp := fun b' hb' e => own_not HO6.out HP6.out (by decide) (e ▸ hb')
    have hvo : ∀ b', v5.ownBlock = some b' → b' ≠ go := fun b' hb' e => own_not HO6.out HO6B.out (by decide) (e ▸ hb')
    have hO8 : w8.ownsRow B 123 128 v5 (ws.length + 1) (nums .u8 ws.flatten ++ nums .u8 X) := HK8.out.row (HK7.out.row HO6.out hvo) hvp
    have hO9 := own_below hO8 HB9.out
    have hO10 : w10.ownsRow B 123 128 v5 (ws.length + 1) (nums .u8 ws.flatten ++ nums .u8 X) := by
      rw [HW10.out]
      exact (Kx.setRow w9 gz _).row hO9 hvz
    refine ⟨HA10.out, ?_, ?_, ?_, ?_⟩
    · rw [HW10.out, ← HQ.out]
      exact (setRow_other w9 gz gp _ hpz).trans ((HB9.out.block _ HP8.out.lt).trans HP8.out)
    · rw [HW10.out]
      have h8 := HK8.out.box HO7.out hop
      exact (setRow_other w9 gz go _ hoz).trans ((HB9.out.block _ h8.lt).trans h8)
    · rw [← HQ.out, ← HX.out]
      have e1 : (ws ++ [X]).length = ws.length + 1 := by simp
      have e2 : nums .u8 (ws ++ [X]).flatten = nums .u8 ws.flatten ++ nums .u8 X := by simp [nums]
      rw [e1, e2]
      exact hO10
    · rw [HW10.out]
      exact (setRow_other w9 gz gk _ hkz).trans ((HB9.out.block _ HK8B.out.lt).trans HK8B.out)
  · rw [HW10.out]
    exact HK06.out.trans ((HK7.out.imp (fun _ _ h => .inr (.inr (.inl h)))).trans ((HK8.out.imp (fun _ _ h => .inr (.inl h))).trans ((Kx.of_below HB9.out).trans ((Kx.setRow w9 gz _).imp (fun _ _ h => .inl h)))))
  · rcases HAT.out with h | h
    · exact .inl h
    · exact .inr ⟨_, h, by simp; omega⟩
end Go.Proofs.Ytoiiacbbfhlocaa.HMa
end
section
set_option linter.unusedVariables false
set_option linter.unusedSimpArgs false
namespace Go.Proofs.Ytoiiacbbfhlocaa.HMa
attribute [local irreducible] nodeF
def fullL (key : List Int) (z : List (List Int)) (m j : Nat) : List (List Int) := lv key z j ++ List.replicate (m - (lv key z j).length) (zT key j)
def upRow (key : List Int) (L : List (List Int)) : List (List Int) := (List.range ((L.length + 3) / 4)).map fun i => nodeF key (fourOf L i).flatten
theorem upRow_length (key : List Int) (L : List (List Int)) : (upRow key L).length = (L.length + 3) / 4 := by simp [upRow]
theorem fullL_length (key : List Int) (z : List (List Int)) (m j : Nat) (h : (lv key z j).length ≤ m) : (fullL key z m j).length = m := by
  unfold fullL
  rw [List.length_append, List.length_replicate]
  omega
theorem fullL_32 (key : List Int) (z : List (List Int)) (m j : Nat) (hz : T32 z) : T32 (fullL key z m j) :=
  (lv_32 key z hz j).append (fun x hx => by rw [List.eq_of_mem_replicate hx]; exact zT_length _ _)
theorem lv_succ_le (key : List Int) (z : List (List Int)) (m j : Nat) (h : (lv key z j).length ≤ 4 * m) : (lv key z (j + 1)).length ≤ m := by
  show (upF _ _ _).length ≤ _
  rw [upF_length]
  omega
theorem four_full (key : List Int) (z : List (List Int)) (m j i : Nat) (h : (lv key z j).length ≤ 4 * m) (hi : i < m) : (fourOf (fullL key z (4 * m) j) i).flatten = if 4 * i < (lv key z j).length then padT (zT key j) (fourOf (lv key z j) i) else [zT key j, zT key j, zT key j, zT key j].flatten := by
  unfold fourOf fullL
  obtain ⟨L, hL⟩ : ∃ L, L = lv key z j := ⟨_, rfl⟩
  obtain ⟨zl, hzl⟩ : ∃ zl, zl = zT key j := ⟨_, rfl⟩
  rw [← hL] at h ⊢
  rw [← hzl]
  by_cases hlt : 4 * i < L.length
  · rw [if_pos hlt]
    unfold padT
    congr 1
    apply List.ext_getElem?
    intro k
    by_cases hk : k < 4
    · rw [List.getElem?_take_of_lt hk, List.getElem?_take_of_lt hk, List.getElem?_drop]
      by_cases h1 : 4 * i + k < L.length
      · rw [List.getElem?_append_left h1, List.getElem?_append_left (by rw [List.length_take, List.length_drop]; omega), List.getElem?_take_of_lt hk, List.getElem?_drop]
      · have hl : ((L.drop (4 * i)).take 4).length = L.length - 4 * i := by rw [List.length_take, List.length_drop]; omega
        rw [List.getElem?_append_right (by omega), List.getElem?_append_right (by omega), hl, List.getElem?_replicate, if_pos (by omega)]
        have h3 : k - (L.length - 4 * i) < 3 := by omega
        match k - (L.length - 4 * i), h3 with
        | 0, _ => rfl
        | 1, _ => rfl
        | 2, _ => rfl
    · rw [List.getElem?_eq_none (by rw [List.length_take]; omega), List.getElem?_eq_none (by rw [List.length_take]; omega)]
  · rw [if_neg hlt]
    congr 1
    apply List.ext_getElem?
    intro k
    by_cases hk : k < 4
    · rw [List.getElem?_take_of_lt hk, List.getElem?_drop, List.getElem?_append_right (by omega), List.getElem?_replicate, if_pos (by omega)]
      match k, hk with
      | 0, _ => rfl
      | 1, _ => rfl
      | 2, _ => rfl
      | 3, _ => rfl
    · rw [List.getElem?_eq_none (by rw [List.length_take]; omega), List.getElem?_eq_none (by simp; omega)]
theorem upRow_full (key : List Int) (z : List (List Int)) (m j : Nat) (h : (lv key z j).length ≤ 4 * m) : upRow key (fullL key z (4 * m) j) = fullL key z m (j + 1) := by
  have hs := lv_succ_le key z m j h
  apply List.ext_getElem?
  intro i
  by_cases hi : i < m
  · unfold upRow
    rw [fullL_length key z (4 * m) j h, List.getElem?_map, List.getElem?_range (by omega), Option.map_some, four_full key z m j i h hi]
    unfold fullL
    have hl : (lv key z (j + 1)).length = ((lv key z j).length + 3) / 4 := upF_length _ _ _
    by_cases hlt : 4 * i < (lv key z j).length
    · rw [if_pos hlt, List.getElem?_append_left (by omega)]
      show _ = (upF key (zT key j) (lv key z j))[i]?
      unfold upF
      rw [List.getElem?_map, List.getElem?_range (by omega)]
      rfl
    · rw [if_neg hlt, List.getElem?_append_right (by omega), List.getElem?_replicate, if_pos (by omega)]
      rfl
  · rw [List.getElem?_eq_none (by rw [upRow_length, fullL_length key z (4 * m) j h]; omega), List.getElem?_eq_none (by rw [fullL_length key z m (j + 1) hs]; omega)]
def rowN (key : List Int) (L : List (List Int)) : Nat → List (List Int)
  | 0 => L
  | j + 1 => upRow key (rowN key L j)
theorem lv_pow (key : List Int) (z : List (List Int)) (h : Nat) (hz : z.length ≤ 4 ^ h) : ∀ j, j ≤ h → (lv key z j).length ≤ 4 ^ (h - j)
  | 0, _ => hz
  | j + 1, hj => by
    have h1 := lv_pow key z h hz j (by omega)
    refine lv_succ_le key z _ j ?_
    rw [show h - j = (h - (j + 1)) + 1 by omega, Nat.pow_succ] at h1
    omega
theorem rowN_eq (key : List Int) (z : List (List Int)) (h : Nat) (hz : z.length ≤ 4 ^ h) : ∀ j, j ≤ h → rowN key (fullL key z (4 ^ h) 0) j = fullL key z (4 ^ (h - j)) j
  | 0, _ => rfl
  | j + 1, hj => by
    rw [rowN, rowN_eq key z h hz j (by omega)]
    have h1 := lv_pow key z h hz j (by omega)
    rw [show h - j = (h - (j + 1)) + 1 by omega, Nat.pow_succ, Nat.mul_comm] at h1 ⊢
    exact upRow_full key z _ j h1
theorem rowN_root (key : List Int) (z : List (List Int)) (h : Nat) (hz : z.length ≤ 4 ^ h) : rowN key (fullL key z (4 ^ h) 0) h = [rootF key z h] := by
  rw [rowN_eq key z h hz h (Nat.le_refl _), Nat.sub_self]
  have h1 := lv_pow key z h hz h (Nat.le_refl _)
  rw [Nat.sub_self] at h1
  unfold fullL rootF
  cases hl : lv key z h with
  | nil => rfl
  | cons x t =>
    rw [hl] at h1
    have ht : t = [] := List.eq_nil_of_length_eq_zero (by rw [List.length_cons] at h1; omega)
    rw [ht]
    rfl
theorem div_pow_lt (p h j : Nat) (hp : p < 4 ^ h) (hj : j < h) : p / 4 ^ j / 4 < 4 ^ (h - (j + 1)) := by
  rw [Nat.div_div_eq_div_mul, Nat.div_lt_iff_lt_mul (by have := Nat.pow_pos (n := j) (show 0 < 4 by decide); omega)]
  rw [show 4 ^ (h - (j + 1)) * (4 ^ j * 4) = 4 ^ h from by rw [← Nat.pow_succ, ← Nat.pow_add]; congr 1; omega]
  exact hp
theorem way_full (key : List Int) (z : List (List Int)) (h place : Nat) (hz : z.length ≤ 4 ^ h) (hp : place < z.length) (j : Nat) (hj : j < h) :
    (fourOf (rowN key (fullL key z (4 ^ h) 0) j) (place / 4 ^ j / 4)).flatten = padT (zT key j) (fourOf (lv key z j) (place / 4 ^ j / 4)) ∧ place / 4 ^ j < (lv key z j).length := by
  have hlt : ∀ j, place / 4 ^ j < (lv key z j).length := by
    intro j
    induction j with
    | zero => rw [Nat.pow_zero, Nat.div_one]; exact hp
    | succ j ih =>
      show _ < (upF _ _ _).length
      rw [upF_length, Nat.pow_succ, ← Nat.div_div_eq_div_mul]
      omega
  refine ⟨?_, hlt j⟩
  rw [rowN_eq key z h hz j (by omega)]
  have h1 := lv_pow key z h hz j (by omega)
  rw [show h - j = (h - (j + 1)) + 1 by omega, Nat.pow_succ, Nat.mul_comm] at h1 ⊢
  rw [four_full key z _ j _ h1 (div_pow_lt place h j (by omega) hj), if_pos (by have := hlt j; omega)]
theorem quad_flat (L : List (List Int)) (h : T32 L) (q : Nat) (x : List Int) (hx : L[q]? = some x) : quad L.flatten q = x := by
  unfold quad
  rw [← flat_drop L q h]
  obtain ⟨hq, rfl⟩ := List.getElem?_eq_some_iff.1 hx
  rw [List.drop_eq_getElem_cons hq, List.flatten_cons, List.take_append_of_le_length (by rw [h _ (List.getElem_mem hq)]; exact Nat.le_refl _), List.take_of_length_le (by rw [h _ (List.getElem_mem hq)]; exact Nat.le_refl _)]
theorem padT_quad (zl : List Int) (c : List (List Int)) (hz : zl.length = 32) (hc : T32 c) (q : Nat) (x : List Int) (hq : q < 4) (hx : c[q]? = some x) : quad (padT zl c) q = x := by
  have h32 : T32 (c ++ [zl, zl, zl]) := hc.append (fun y hy => by simp at hy; rw [hy]; exact hz)
  refine quad_flat _ (h32.take 4) q x ?_
  rw [List.getElem?_take_of_lt hq, List.getElem?_append_left (List.getElem?_eq_some_iff.1 hx).1, hx]
theorem wayG_at (key : List Int) (z : List (List Int)) (place : Nat) : ∀ (h j : Nat) (hj : j < h), (wayG key z place h)[j]'(by rw [wayG_length]; exact hj) = padT (zT key j) (fourOf (lv key z j) (place / 4 ^ j / 4))
  | 0, j, hj => by omega
  | h + 1, j, hj => by
    by_cases he : j < h
    · have := wayG_at key z place h j he
      rw [← this]
      exact List.getElem_append_left (by rw [wayG_length]; exact he)
    · obtain rfl : j = h := by omega
      have e : (wayG key z place (j + 1)) = wayG key z place j ++ [padT (zT key j) (fourOf (lv key z j) (place / 4 ^ j / 4))] := rfl
      simp [e, wayG_length]
theorem check_way (key : List Int) (z : List (List Int)) (h32 : T32 z) (place h : Nat) (hp : place < z.length) (hz : z.length ≤ 4 ^ h) (root : List Int) : ∀ (d j : Nat), d + j = h → ∀ leaf, (lv key z j)[place / 4 ^ j]? = some leaf →
    checkF key root ((wayG key z place h).drop j) (place / 4 ^ j) leaf = decide (rootF key z h = root)
  | 0, j, hd, leaf, hl => by
    obtain rfl : j = h := by omega
    have h1 := lv_pow key z j hz j (Nat.le_refl _)
    rw [Nat.sub_self] at h1
    have h0 : place / 4 ^ j = 0 := Nat.div_eq_of_lt (by omega)
    rw [List.drop_eq_nil_of_le (by rw [wayG_length]; exact Nat.le_refl _), h0, checkF]
    rw [h0] at hl
    have hr : rootF key z j = leaf := by
      unfold rootF
      cases hc : lv key z j with
      | nil => rw [hc] at hl; cases hl
      | cons x t => rw [hc] at hl; exact Option.some.inj hl
    rw [hr]
    simp
  | d + 1, j, hd, leaf, hl => by
    have hj : j < h := by omega
    have hwl : j < (wayG key z place h).length := by rw [wayG_length]; exact hj
    have hlt := (List.getElem?_eq_some_iff.1 hl).1
    rw [List.drop_eq_getElem_cons hwl, wayG_at key z place h j hj, checkF]
    have hq := padT_quad (zT key j) (fourOf (lv key z j) (place / 4 ^ j / 4)) (zT_length _ _) (((lv_32 key z h32 j).drop _).take 4) (place / 4 ^ j % 4) leaf (Nat.mod_lt _ (by decide)) (by
      unfold fourOf
      rw [List.getElem?_take_of_lt (Nat.mod_lt _ (by decide)), List.getElem?_drop, Nat.div_add_mod]
      exact hl)
    rw [if_pos hq, Nat.div_div_eq_div_mul, ← Nat.pow_succ]
    refine check_way key z h32 place h hp hz root d (j + 1) (by omega) _ ?_
    show (upF _ _ _)[_]? = _
    unfold upF
    rw [List.getElem?_map, Nat.pow_succ, ← Nat.div_div_eq_div_mul, List.getElem?_range (by omega)]
    rfl
theorem way_says (key : List Int) (z : List (List Int)) (h32 : T32 z) (place h : Nat) (hp : place < z.length) (hz : z.length ≤ 4 ^ h) (hh : 0 < h) (leaf x : List Int) (hx : z[place]? = some x) : wayF key (rootF key z h) (wayG key z place h) place leaf = decide (leaf = x) := by
  have hne : (wayG key z place h).isEmpty = false := by
    cases hw : wayG key z place h with
    | nil => have := wayG_length key z place h; rw [hw] at this; simp at this; omega
    | cons a t => rfl
  unfold wayF
  rw [hne, show decide (0 ≤ (place : Int)) = true from decide_eq_true (by omega), Int.toNat_natCast]
  simp only [Bool.not_false, Bool.true_and]
  by_cases he : leaf = x
  · subst he
    have h1 := check_way key z h32 place h hp hz (rootF key z h) h 0 (by omega) leaf (by rw [Nat.pow_zero, Nat.div_one]; exact hx)
    simp at h1
    rw [h1]
    simp
  · rw [decide_eq_false he]
    have hwl : 0 < (wayG key z place h).length := by rw [wayG_length]; exact hh
    have hd : wayG key z place h = (wayG key z place h)[0] :: (wayG key z place h).drop 1 := by
      have := List.drop_eq_getElem_cons hwl
      simpa using this
    rw [hd, wayG_at key z place h 0 hh, checkF]
    have hq := padT_quad (zT key 0) (fourOf (lv key z 0) (place / 4 ^ 0 / 4)) (zT_length _ _) (((lv_32 key z h32 0).drop _).take 4) (place % 4) x (Nat.mod_lt _ (by decide)) (by
      unfold fourOf
      rw [Nat.pow_zero, Nat.div_one, List.getElem?_take_of_lt (Nat.mod_lt _ (by decide)), List.getElem?_drop, Nat.div_add_mod]
      exact hx)
    rw [hq, if_neg (fun e => he e.symm)]
end Go.Proofs.Ytoiiacbbfhlocaa.HMa
end
section
set_option linter.unusedVariables false
set_option linter.unusedSimpArgs false
namespace Go.Proofs.Ytoiiacbbfhlocaa.HMa
open Go.RowKit Go.Shelf Go.Proofs.YtoiiacbbfhlocaaW.PrintWords Go.Proofs.YtoiiacbbfhlocaaW.PrintLast Go.Proofs.YtoiiacbbfhlocaaW.PrintMore Go.Proofs.Ytoiiacbbfhlocaa.Kit Go.Proofs.Ytoiiacbbfhlocaa.HHa Go.Proofs.Ytoiiacbbfhlocaa.HSa Go.Proofs.Ytoiiacbbfhlocaa.Mr
attribute [local irreducible] sumF padX inF hmF jN jF kF padK nodeF
def PartR (W : World) (v : Value) (x : List (List Int)) (u : Value) : Prop := ∃ (ad : Addr) (c : Nat), u = .slice (some ad) x.length c ∧ x.length ≤ c ∧ SRow W (some ad) x ∧ ad.block < W.heap.size ∧ v.ownBlock ≠ some ad.block
theorem PartR.grown {W W1 : World} {v v1 u : Value} {x : List (List Int)} (h : PartR W v x u) (hg : W.grownBy W1 v.ownBlock) (hat : v1.ownBlock = v.ownBlock ∨ ∃ b, v1.ownBlock = some b ∧ W.heap.size ≤ b) : PartR W1 v1 x u := by
  obtain ⟨ad, c, hu, hc, hC, hlt, hne⟩ := h
  refine ⟨ad, c, hu, hc, hC.same (hg.block _ hlt (fun e => hne e.symm)), Nat.lt_of_lt_of_le hlt hg.size, ?_⟩
  rcases hat with hat | ⟨b, hb, hle⟩
  · rw [hat]; exact hne
  · rw [hb]; intro e; have := Option.some.inj e; omega
theorem PartR.next {W W1 : World} {v u : Value} {x : List (List Int)} (h : PartR W v x u) (hb : Below W.heap.size W W1) : PartR W1 v x u := by
  obtain ⟨ad, c, hu, hc, hC, hlt, hne⟩ := h
  exact ⟨ad, c, hu, hc, hC.next hb, Nat.lt_of_lt_of_le hlt hb.size, hne⟩
theorem SRow.part {W : World} {b o : Nat} {z : List (List Int)} (h : SRow W (some ⟨b, o, none⟩) z) (k m : Nat) : SRow W (some ⟨b, o + k, none⟩) ((z.drop k).take m) := fun i x hx => by
  have hx' : z[k + i]? = some x := by
    rw [List.getElem?_take] at hx
    split at hx
    · rw [List.getElem?_drop] at hx; exact hx
    · cases hx
  obtain ⟨b', o', hA, hc⟩ := h (k + i) x hx'
  obtain ⟨rfl, rfl, -⟩ := Addr.mk.inj (Option.some.inj hA)
  exact ⟨b, o + k, rfl, by rw [Nat.add_assoc]; exact hc⟩
theorem nodeR_flat (key : List Int) (four : List (List Int)) (h4 : four.length = 4) (h32 : T32 four) : nodeR key four = nodeF key four.flatten := by
  rw [← nodeR_eq]
  congr 1
  match four, h4 with
  | [a, b, c, d], _ =>
    rw [quad_flat [a, b, c, d] h32 0 a rfl, quad_flat [a, b, c, d] h32 1 b rfl, quad_flat [a, b, c, d] h32 2 c rfl, quad_flat [a, b, c, d] h32 3 d rfl]
def RowsOut (Ls : List (List (List Int))) (w : World) (e : Ending) (w' : World) : Prop := ∃ b o c, e = .returned (.slice (some ⟨b, o, none⟩) Ls.length c) ∧ Ls.length ≤ c ∧ Below w.heap.size w w' ∧ ∀ (i : Nat) (x : List (List Int)), Ls[i]? = some x → ∃ (ad : Addr) (cc : Nat), w'.cell? ⟨b, o + i, none⟩ = some (.slice (some ad) x.length cc) ∧ x.length ≤ cc ∧ SRow w' (some ad) x
def rowsF (key : List Int) (L : List (List Int)) (h : Nat) : List (List (List Int)) := (List.range (h + 1)).map fun j => rowN key L j
theorem own_lower {W : World} {base base' e size n : Nat} {v : Value} {xs : List Value} (h : W.ownsRow base e size v n xs) (hb : base' ≤ base) : W.ownsRow base' e size v n xs := by
  refine ⟨h.1, ?_⟩
  rcases h.2 with h0 | ⟨g, cap, cur, rfl, hg, r⟩
  · exact .inl h0
  · exact .inr ⟨g, cap, cur, rfl, Nat.le_trans hb hg, r⟩
theorem rowsF_length (key : List Int) (L : List (List Int)) (h : Nat) : (rowsF key L h).length = h + 1 := by simp [rowsF]
theorem rowsF_at (key : List Int) (L : List (List Int)) (h j : Nat) (hj : j ≤ h) : (rowsF key L h)[j]? = some (rowN key L j) := by
  unfold rowsF
  rw [List.getElem?_map, List.getElem?_range (by omega)]
  rfl
theorem SRow.cells {W : World} {A : Option Addr} {z : List (List Int)} (h : SRow W A z) (h0 : 0 < z.length) : ∃ ad, A = some ad ∧ ∀ j u, (strC z)[j]? = some u → W.cell? (ad.add j) = some u := by
  obtain ⟨b, o, rfl, -⟩ := h 0 z[0] (List.getElem?_eq_getElem h0)
  refine ⟨_, rfl, fun j u hu => ?_⟩
  unfold strC at hu
  rw [List.getElem?_map] at hu
  obtain ⟨x, hx, rfl⟩ := Option.map_eq_some_iff.1 hu
  obtain ⟨b', o', hA, hc⟩ := h j x hx
  obtain ⟨rfl, rfl, -⟩ := Addr.mk.inj (Option.some.inj hA)
  rw [Addr.add_mid]
  exact hc
theorem strC_length (l : List (List Int)) : (strC l).length = l.length := by simp [strC]
theorem upRow_bytes (key : List Int) (L : List (List Int)) : ∀ x ∈ upRow key L, Bytes x := fun x hx => by
  obtain ⟨i, -, rfl⟩ := List.mem_map.1 hx
  exact nodeF_bytes _ _
theorem zT_bytes (key : List Int) : ∀ j, Bytes (zT key j)
  | 0 => fun y hy => by rw [List.eq_of_mem_replicate hy]; decide
  | j + 1 => nodeF_bytes _ _
theorem rowN_bytes (key : List Int) (L : List (List Int)) (h : ∀ x ∈ L, Bytes x) : ∀ j, ∀ x ∈ rowN key L j, Bytes x
  | 0 => h
  | j + 1 => upRow_bytes _ _
theorem upRow_32 (key : List Int) (L : List (List Int)) : T32 (upRow key L) := fun x hx => by
  obtain ⟨i, -, rfl⟩ := List.mem_map.1 hx
  exact nodeF_length _ _
theorem rowN_32 (key : List Int) (L : List (List Int)) (h : T32 L) : ∀ j, T32 (rowN key L j)
  | 0 => h
  | j + 1 => upRow_32 _ _
theorem rowN_length (key : List Int) (L : List (List Int)) (h : Nat) (hL : L.length = 4 ^ h) : ∀ j, j ≤ h → (rowN key L j).length = 4 ^ (h - j)
  | 0, _ => hL
  | j + 1, hj => by
    have h1 := rowN_length key L h hL j (by omega)
    rw [rowN, upRow_length, h1, show h - j = (h - (j + 1)) + 1 by omega, Nat.pow_succ]
    omega
theorem own_some {W : World} {base e size n c : Nat} {A : Option Addr} {xs : List Value} (h : W.ownsRow base e size (.slice A n c) n xs) (h0 : 0 < n) : ∃ g, A = some ⟨g, 0, none⟩ ∧ base ≤ g ∧ g < W.heap.size ∧ n ≤ c := by
  rcases h.2 with ⟨hv, h1⟩ | ⟨g, cap, cur, hv, hg, hh, hnc, -⟩
  · obtain ⟨rfl, rfl, rfl⟩ := Value.slice.inj hv
    exact absurd h0 (Nat.lt_irrefl _)
  · obtain ⟨rfl, -, rfl⟩ := Value.slice.inj hv
    exact ⟨g, rfl, hg, (Array.getElem?_eq_some_iff.1 hh).1, hnc⟩
theorem part_of_own {W : World} {base base' n c : Nat} {A : Option Addr} {z : List (List Int)} (h : W.ownsRow base 9 1 (.slice A n c) n (strC z)) (hn : z.length = n) (h0 : 0 < n) {v : Value} {size m : Nat} {us : List Value} (hv : W.ownsRow base' 94 size v m us) : PartR W v z (.slice A n c) := by
  obtain ⟨g, rfl, hg, hlt, hnc⟩ := own_some h h0
  refine ⟨⟨g, 0, none⟩, c, by rw [hn], by rw [hn]; exact hnc, SRow.of_own h, hlt, fun e => ?_⟩
  obtain ⟨cs, hc⟩ := own_typed hv g e
  obtain ⟨cs', hc'⟩ := own_typed h g rfl
  rw [hc] at hc'
  cases hc'
set_option maxRecDepth 100000 in
set_option maxHeartbeats 8000000 in
theorem rrows_any (k0 g : Nat) (key : List Int) (AK : Option Addr) (cK : Nat) (AR : Option Addr) (cR : Nat) (AC : Option Addr) (cC : Nat) (A1 : Option Addr) (c1 : Nat) (z : List (List Int)) (h m : Nat) (w : World) (hK : KeyAt w g (padK key) AK cK AR cR AC cC) (hkb : Bytes key)
    (hz : SRow w A1 z) (h32 : T32 z) (hzb : ∀ x ∈ z, Bytes x) (hc : z.length ≤ c1) (hn : z.length ≤ 100) (hm : m = 4 ^ h) (hw : padlockref08_Whole.f k0 z.length = some ((m : Int), (h : Int))) (hzm : z.length ≤ m) (hm4 : m ≤ 1000) (hh : h ≤ 8) :
    Calls Try.prog 114 #[.pointer (some ⟨g, 0, none⟩), .slice A1 z.length c1] w (RowsOut (rowsF key (fullL key z m 0) h) w) := by
  have HK := Lib.hid hK
  have HZ := Lib.hid hz
  have HM := Lib.hid hm
  obtain ⟨n, hnn⟩ : ∃ n, n = z.length := ⟨_, rfl⟩
  have HNN := Lib.hid hnn
  have hwh := fun W => padlockref08_Whole.calls k0 _ _ _ W hw
  rw [← hnn] at hc hn hzm hwh ⊢
  have HWH := Lib.hid hwh
  have hzero := fun W => padlockref08_Zero.calls (strOfNums (List.replicate 32 0)) W (by unfold padlockref08_Zero.f; rw [if_pos (by decide)])
  have HZERO := Lib.hid hzero
  have h1m : 1 ≤ m := by rw [hm]; exact Nat.pow_pos (by decide)
  obtain ⟨L, hL⟩ : ∃ L, L = fullL key z m 0 := ⟨_, rfl⟩
  have HLL := Lib.hid (show L.length = m by rw [hL]; exact fullL_length key z m 0 (by show z.length ≤ m; rw [← hnn]; exact hzm))
  have HL32 := Lib.hid (show T32 L by rw [hL]; exact fullL_32 key z m 0 h32)
  have HLB := Lib.hid (show ∀ x ∈ L, Bytes x from fun x hx => by
    rw [hL] at hx
    rcases List.mem_append.1 hx with hx | hx
    · exact hzb x hx
    · rw [List.eq_of_mem_replicate hx]; exact zT_bytes _ _)
  have HLK := Lib.hid (show ∀ k, n ≤ k → k ≤ m → L.take k = z ++ List.replicate (k - n) (List.replicate 32 0) from fun k h1 h2 => by
    rw [hL]
    unfold fullL
    rw [List.take_append, List.take_of_length_le (show (lv key z 0).length ≤ k from by show z.length ≤ k; omega), List.take_replicate]
    show z ++ List.replicate (min (k - z.length) (m - z.length)) _ = _
    rw [← hnn, Nat.min_eq_left (by omega)]
    rfl)
  rw [← hL]
  clear hK hz hm hnn hwh hzero hL h32 hzb hw
  go_enter Try.func114, Try.ntmps114
  go_wp2_with (first
    | (go_at_call 70; refine (HWH.out _).mono ?_; rintro e w5 ⟨rfl, hD⟩; have HD5 := Lib.hid hD; clear hD)
    | ((with_reducible refine gate_builtin (b := .append) (xs := #[.tmp 18, .tmp 19]) rfl ?_); at_builtin; refine blk ?_))
  have HB5 := Lib.hid HD5.out.below
  have hBa : Below w.heap.size w (w5.alloc (.cells #[] 9)) := HB5.out.alloc HB5.out.size _
  have hZa := HZ.out.next hBa
  refine ⟨ev_append 94 9 (.string ⟨#[]⟩) 1 16 rfl (.tmp 18) (.tmp 19) rfl Try.underlying94 infoS rfl (by decide) (by decide) w5.heap.size _ 0 [] rfl (own_zero w5 _ _) A1 n c1 rfl (strC z) (by rw [strC_length, HNN.out, Nat.mul_one]) (fun h0 => hZa.cells (by rw [← HNN.out]; exact h0)) (fun u hu => by
    unfold strC at hu
    obtain ⟨x, -, rfl⟩ := List.mem_map.1 hu
    rfl) (by omega) (by simp) ?_⟩
  intro v7 w7 ho7 hg7 hat7
  have hB7 : Below w.heap.size w w7 := hBa.grown hg7 hBa.size (fun k hk => Nat.le_trans HB5.out.size (own_base (own_zero w5 9 1) k hk))
  rw [Nat.zero_add, List.nil_append] at ho7
  have HO7 := Lib.hid (show w7.ownsRow w.heap.size 9 1 v7 n (strC z) from own_lower ho7 HB5.out.size)
  have HB7 := Lib.hid hB7
  clear ho7 hg7 hat7 hBa hZa hB7 HD5 HWH HZ
  go_wp2
  go_loopg [7] m (fun gg v7 wr => ∃ k : Nat, n ≤ k ∧ k ≤ m ∧ m - k ≤ gg ∧ Aside0 (Below w.heap.size w wr) ∧ Aside0 (wr.ownsRow w.heap.size 9 1 v7 k (strC (L.take k))))
  case atStart => exact ⟨n, Nat.le_refl _, hzm, by omega, ⟨HB7.out⟩, ⟨by rw [HLK.out n (Nat.le_refl _) hzm, Nat.sub_self, List.replicate_zero, List.append_nil]; exact HO7.out⟩⟩
  case round =>
    clear HO7 HB7 HB5
    obtain ⟨k, hk1, hk2, hg, BW, HO⟩ := hrel
    obtain ⟨A7, c7, e7, hc7⟩ := own_slice HO.out
    subst e7
    by_cases hlt : k < m
    · have hltz : (k : Int) < (m : Int) := by omega
      go_wp2_with (first
        | (go_at_call 129; refine (HZERO.out _).mono ?_; rintro e w8 ⟨rfl, hb8⟩; have HB8 := Lib.hid (below_next BW.out hb8); have HO8 := Lib.hid (own_below HO.out hb8); clear hb8)
        | ((with_reducible refine gate_builtin (b := .append) (xs := #[.tmp 25, .tmp 27]) rfl ?_); at_builtin; refine blk ?_))
      refine ⟨?_⟩
      refine print_append_cells (w0 := w) w.heap.size rfl (.tmp 25) (.tmp 27) 94 9 (.string ⟨#[]⟩) 1 16 rfl Try.underlying94 infoS rfl (by decide) (by decide) _ k (strC (L.take k)) [.string (strOfNums (List.replicate 32 0))] rfl rfl rfl (by simp [Value.oneCell']) HO8.out HB8.out HB8.out.size (by omega) ?_
      intro v1 w9 ho hb hg9 hat
      have HO9 := Lib.hid ho
      have HB9 := Lib.hid hb
      clear ho hb hg9 hat
      go_wp2
      go_roundg (m - (k + 1))
      case measure => omega
      case rel => exact ⟨k + 1, by omega, by omega, by omega, ⟨HB9.out⟩, ⟨by
        have e : L.take (k + 1) = L.take k ++ [List.replicate 32 0] := by
          rw [HLK.out (k + 1) (by omega) (by omega), HLK.out k hk1 hk2, show k + 1 - n = (k - n) + 1 by omega, List.replicate_succ', List.append_assoc]
        rw [e, strC_snoc]
        exact HO9.out⟩⟩
    · have hltz : ¬ (k : Int) < (m : Int) := by omega
      obtain rfl : k = m := by omega
      rw [List.take_of_length_le (by rw [HLL.out]; exact Nat.le_refl _)] at HO
      obtain ⟨g7, rfl, hg7, hl7, hn7⟩ := own_some HO.out (by omega)
      have hrl := rowN_length key L h (by rw [HLL.out]; exact HM.out)
      have HRL := Lib.hid hrl
      clear hrl
      go_wp2
      obtain ⟨w9, hw9⟩ : ∃ w9, w9 = wr.alloc (.cells #[.slice (some ⟨g7, 0, none⟩) k c7] 94) := ⟨_, rfl⟩
      have hs9 : w9.heap.size = wr.heap.size + 1 := by rw [hw9]; simp
      have hB9 : Below w.heap.size w w9 := by rw [hw9]; exact BW.out.alloc BW.out.size _
      have hO9 : w9.ownsRow w.heap.size 94 1 (.slice (some ⟨wr.heap.size, 0, none⟩) 1 1) 1 [.slice (some ⟨g7, 0, none⟩) k c7] := by
        rw [hw9]
        exact ⟨rfl, .inr ⟨wr.heap.size, 1, #[.slice (some ⟨g7, 0, none⟩) k c7], rfl, BW.out.size, heap_alloc_new wr _, Nat.le_refl _, by decide, rfl, rfl⟩⟩
      have hr9 : w9.ownsRow w.heap.size 9 1 (.slice (some ⟨g7, 0, none⟩) k c7) k (strC L) := by rw [hw9]; exact HO.out.alloc _
      have hp9 := part_of_own hr9 HLL.out (by omega) hO9
      have HP9 := Lib.hid hp9
      have HO9 := Lib.hid hO9
      have HB9 := Lib.hid hB9
      have HW9 := Lib.hid hw9
      rw [← hw9]
      clear hw9 hs9 hB9 hO9 hr9 hp9 HO BW hg hk1 hk2 hlt
      go_loopg [7, 8, 9] h (fun gg v7 v8 s9 wr => ∃ (j : Nat) (us : List Value), j ≤ h ∧ h - j ≤ gg ∧ s9 = .int .i64 j ∧ us.length = j + 1 ∧ Aside0 (us[j]? = some v7) ∧ Aside0 (Below w.heap.size w wr) ∧ Aside0 (wr.ownsRow w.heap.size 94 1 v8 (j + 1) us) ∧ Aside0 (∀ (i : Nat) (x : List (List Int)) (u : Value), (rowsF key L h)[i]? = some x → us[i]? = some u → PartR wr v8 x u))
      case atStart => exact ⟨0, [.slice (some ⟨g7, 0, none⟩) k c7], Nat.zero_le _, by omega, rfl, rfl, ⟨rfl⟩, ⟨HB9.out⟩, ⟨HO9.out⟩, ⟨fun i x u hx hu => by
        have hi : i = 0 := by
          have := (List.getElem?_eq_some_iff.1 hu).1
          simp at this
          exact this
        subst hi
        rw [rowsF_at key L h 0 (Nat.zero_le _)] at hx
        obtain rfl := Option.some.inj hx
        simp at hu
        rw [← hu]
        exact HP9.out⟩⟩
      case round =>
        clear HP9 HO9 HB9 HW9
        obtain ⟨j, us, hj, hg, rfl, hus, HU7, BW, HO, HP⟩ := hrel
        have HUS := Lib.hid hus
        clear hus
        by_cases hlt : j < h
        · have hltz : (j : Int) < (h : Int) := by omega
          obtain ⟨X, hX⟩ : ∃ X, X = rowN key L j := ⟨_, rfl⟩
          have hpx := HP.out j X u7 (by rw [hX]; exact rowsF_at key L h j hj) HU7.out
          obtain ⟨ad, c, e7, hxc, hS, hblt, hbne⟩ := hpx
          have hxl : X.length = 4 * 4 ^ (h - (j + 1)) := by
            rw [hX, HRL.out j hj, show h - j = (h - (j + 1)) + 1 by omega, Nat.pow_succ, Nat.mul_comm]
          obtain ⟨nx, hnx⟩ : ∃ n, n = X.length := ⟨_, rfl⟩
          obtain ⟨nu, hnu⟩ : ∃ n, n = 4 ^ (h - (j + 1)) := ⟨_, rfl⟩
          have h4 : nx = 4 * nu := by rw [hnx, hxl, hnu]
          have hnu1 : 1 ≤ nu := by rw [hnu]; exact Nat.pow_pos (by decide)
          have hnx2 : nx ≤ 1000 := by
            have h1 : 4 ^ (h - j) ≤ 4 ^ h := Nat.pow_le_pow_right (by decide) (by omega)
            rw [← HM.out] at h1
            have h2 := HRL.out j hj
            rw [← hX, ← hnx] at h2
            omega
          obtain ⟨b, o, hA, -⟩ := hS 0 (X[0]'(by omega)) (List.getElem?_eq_getElem (by omega))
          cases hA
          rw [← hnx] at e7 hxc
          subst e7
          have HS := Lib.hid hS
          have HX := Lib.hid hX
          have HNX := Lib.hid hnx
          have HUL : Hid ((upRow key X).length = nu) := Lib.hid (by rw [upRow_length, ← hnx]; omega)
          have HX32 := Lib.hid (show T32 X by rw [hX]; exact rowN_32 key L HL32.out j)
          have HXB := Lib.hid (show ∀ x ∈ X, Bytes x by rw [hX]; exact rowN_bytes key L HLB.out j)
          have hnu2 : nu ≤ 250 := by omega
          have H4N := Lib.hid h4
          clear hS hX hnx hxl hnu hblt hbne h4
          go_wp2
          obtain ⟨wo, hwo⟩ : ∃ wo : World, wo = wr := ⟨_, rfl⟩
          subst hwo
          go_loopg [10, 11] nu (fun gg v10 s11 wr => ∃ k p : Nat, k ≤ nu ∧ nu - k ≤ gg ∧ p = 4 * k ∧ s11 = .int .i64 p ∧ Aside0 (Below wo.heap.size wo wr) ∧ Aside0 (wr.ownsRow wo.heap.size 9 1 v10 k (strC ((upRow key X).take k))))
          case atStart => exact ⟨0, 0, Nat.zero_le _, by omega, rfl, rfl, ⟨Below.refl _ _⟩, ⟨by rw [List.take_zero]; exact own_nil _ _ _ _⟩⟩
          case round =>
            obtain ⟨q, p, hq, hgq, hp, rfl, BI, HI⟩ := hrel
            have HP4 := Lib.hid hp
            have h4 := H4N.out
            by_cases hlq : q < nu
            · have hpz : (p : Int) < (nx : Int) := by omega
              have hp0 : ¬ (p : Int) < 0 := by omega
              have hp4 : (p : Int) + 4 ≤ c := by omega
              have hp5 : (p : Int) ≤ (p : Int) + 4 := by omega
              have hp6 : p ≤ 9223372036854775000 := by omega
              have h4l : (fourOf X q).length = 4 := by unfold fourOf; rw [List.length_take, List.length_drop, ← HNX.out]; omega
              have h432 : T32 (fourOf X q) := (HX32.out.drop _).take _
              have hup : (upRow key X).take (q + 1) = (upRow key X).take q ++ [nodeR key (fourOf X q)] := by
                rw [List.take_add_one, List.getElem?_eq_getElem (by rw [HUL.out]; exact hlq), nodeR_flat key _ h4l h432]
                unfold upRow
                simp
              have hnode := rnode_any g key AK cK AR cR AC cC (some ⟨b, o + p, none⟩) (c - p) (fourOf X q) wr (HK.out.next (below_next BW.out BI.out)) hkb h4l h432 (fun x hx => HXB.out x (List.mem_of_mem_drop (List.mem_of_mem_take hx))) (by rw [HP4.out]; exact (HS.out.next BI.out).part (4 * q) 4)
              have HNODE := Lib.hid hnode
              have HUP := Lib.hid hup
              clear hp h4 hnode h4l h432 hup
              go_wp2_with (first
                | (go_at_call 116; refine HNODE.out.mono ?_; rintro e w8 ⟨rfl, hb8⟩; have HB8 := Lib.hid (below_next BI.out hb8); have HO8 := Lib.hid (own_below HI.out hb8); clear hb8)
                | ((with_reducible refine gate_builtin (b := .append) (xs := #[.tmp 42, .tmp 50]) rfl ?_); at_builtin; refine blk ?_))
              refine ⟨?_⟩
              refine print_append_cells (w0 := wo) wo.heap.size rfl (.tmp 42) (.tmp 50) 94 9 (.string ⟨#[]⟩) 1 16 rfl Try.underlying94 infoS rfl (by decide) (by decide) _ q (strC ((upRow key X).take q)) [.string (strOfNums (nodeR key (fourOf X q)))] rfl rfl rfl (by simp [Value.oneCell']) HO8.out HB8.out HB8.out.size (by omega) ?_
              intro v1 w9 ho hb hg9 hat
              have HO9 := Lib.hid ho
              have HB9 := Lib.hid hb
              clear ho hb hg9 hat
              go_wp2
              go_roundg (nu - (q + 1))
              case measure => omega
              case rel => exact ⟨q + 1, p + 4, by omega, by omega, by have := HP4.out; omega, by go_num, ⟨HB9.out⟩, ⟨by
                rw [HUP.out, strC_snoc]
                exact HO9.out⟩⟩
            · have hpz : ¬ (p : Int) < (nx : Int) := by omega
              obtain rfl : q = nu := by omega
              rw [List.take_of_length_le (by rw [HUL.out]; exact Nat.le_refl _)] at HI
              obtain ⟨A10, c10, e10, hc10⟩ := own_slice HI.out
              subst e10
              clear hp h4
              go_wp2_with (((with_reducible refine gate_builtin (b := .append) (xs := #[.tmp 53, .tmp 55]) rfl ?_); at_builtin; refine blk ?_))
              refine ⟨?_⟩
              have HBI := Lib.hid (below_next BW.out BI.out)
              have hOo := own_below HO.out BI.out
              have hpn := part_of_own HI.out HUL.out (by omega) hOo
              refine print_append_cells (w0 := w) w.heap.size rfl (.tmp 53) (.tmp 55) 116 94 (.slice none 0 0) 1 24 rfl Try.underlying116 infoSS rfl (by decide) (by decide) _ (j + 1) us [.slice A10 q c10] rfl rfl rfl (by simp [Value.oneCell']) hOo HBI.out HBI.out.size (by omega) ?_
              intro v1 w9 ho hb hg9 hat
              have HO9 := Lib.hid ho
              have HB9 := Lib.hid hb
              have HP9 := Lib.hid (show ∀ (i : Nat) (x : List (List Int)) (u : Value), (rowsF key L h)[i]? = some x → (us ++ [.slice A10 q c10])[i]? = some u → PartR w9 v1 x u from fun i x u hx hu => by
                by_cases hi : i < j + 1
                · rw [List.getElem?_append_left (by rw [HUS.out]; exact hi)] at hu
                  exact ((HP.out i x u hx hu).next BI.out).grown hg9 hat
                · have hij : i = j + 1 := by
                    have := (List.getElem?_eq_some_iff.1 hu).1
                    rw [List.length_append, List.length_singleton, HUS.out] at this
                    omega
                  subst hij
                  rw [List.getElem?_append_right (by rw [HUS.out]; exact Nat.le_refl _), HUS.out, Nat.sub_self] at hu
                  simp only [List.getElem?_cons_zero, Option.some.injEq] at hu
                  subst hu
                  rw [rowsF_at key L h (j + 1) (by omega)] at hx
                  obtain rfl := Option.some.inj hx
                  rw [show rowN key L (j + 1) = upRow key X from by rw [HX.out]; rfl]
                  exact hpn.grown hg9 hat)
              have HU9 := Lib.hid (show (us ++ [Value.slice A10 q c10])[j + 1]? = some (.slice A10 q c10) from by
                rw [List.getElem?_append_right (by rw [HUS.out]; exact Nat.le_refl _), HUS.out, Nat.sub_self]
                rfl)
              clear ho hb hg9 hat hOo hpn
              go_wp2
              go_roundg (h - (j + 1))
              case measure => omega
              case rel => exact ⟨j + 1, _, by omega, by omega, by go_num, by rw [List.length_append, List.length_singleton, HUS.out], ⟨HU9.out⟩, ⟨HB9.out⟩, ⟨HO9.out⟩, ⟨HP9.out⟩⟩
        · have hltz : ¬ (j : Int) < (h : Int) := by omega
          obtain rfl : j = h := by omega
          obtain ⟨A8, c8, e8, hc8⟩ := own_slice HO.out
          subst e8
          obtain ⟨g8, rfl, hg8, hl8, hn8⟩ := own_some HO.out (by omega)
          go_wp2
          go_ret
          refine ⟨g8, 0, c8, by rw [rowsF_length]; rfl, by rw [rowsF_length]; exact hn8, BW.out, fun i x hx => ?_⟩
          have hi : i < us.length := by
            have := (List.getElem?_eq_some_iff.1 hx).1
            rw [rowsF_length] at this
            rw [HUS.out]
            exact this
          obtain ⟨ad, cc, e, hcc, hS, -, -⟩ := HP.out i x _ hx (List.getElem?_eq_getElem hi)
          have hcell := World.ownsRow.cells HO.out (g := g8) rfl i _ (List.getElem?_eq_getElem hi)
          rw [add_plain, e] at hcell
          rw [Nat.zero_add]
          exact ⟨ad, cc, hcell, hcc, hS⟩
end Go.Proofs.Ytoiiacbbfhlocaa.HMa
end
section
set_option linter.unusedVariables false
set_option linter.unusedSimpArgs false
namespace Go.Proofs.Ytoiiacbbfhlocaa.HMa
open Go.RowKit Go.Shelf Go.Proofs.YtoiiacbbfhlocaaW.PrintWords Go.Proofs.YtoiiacbbfhlocaaW.PrintLast Go.Proofs.YtoiiacbbfhlocaaW.PrintMore Go.Proofs.Ytoiiacbbfhlocaa.Kit Go.Proofs.Ytoiiacbbfhlocaa.HHa Go.Proofs.Ytoiiacbbfhlocaa.HSa Go.Proofs.Ytoiiacbbfhlocaa.Mr
attribute [local irreducible] sumF padX inF hmF jN jF kF padK nodeF
theorem own_kept' {W W' : World} {base e size n : Nat} {v : Value} {xs : List Value} (h : W.ownsRow base e size v n xs) (hk : ∀ b, v.ownBlock = some b → W'.heap[b]? = W.heap[b]?) : W'.ownsRow base e size v n xs := by
  refine ⟨h.1, ?_⟩
  rcases h.2 with h0 | ⟨g, cap, cur, rfl, hg, hh, r⟩
  · exact .inl h0
  · exact .inr ⟨g, cap, cur, rfl, hg, (hk g rfl).trans hh, r⟩
theorem wayG_128 (key : List Int) (z : List (List Int)) (h32 : T32 z) (place h : Nat) (hp : place < z.length) (hz : z.length ≤ 4 ^ h) : ∀ j, j ≤ h → T128 (wayG key z place j)
  | 0, _ => fun x hx => by cases hx
  | j + 1, hj => fun x hx => by
    rw [wayG] at hx
    rcases List.mem_append.1 hx with hx | hx
    · exact wayG_128 key z h32 place h hp hz j (by omega) x hx
    · obtain rfl := List.mem_singleton.1 hx
      have h1 := (way_full key z h place hz hp j (by omega)).2
      refine padT_length _ _ (zT_length _ _) (((lv_32 key z h32 j).drop _).take 4) ?_
      unfold fourOf
      rw [List.length_take, List.length_drop]
      omega
def WayJ (key : List Int) (z : List (List Int)) (p : Nat) (A0 : Option Addr) (kn c0 gz gp go gk B : Nat) (w0 : World) (j : Nat) (O : Nat → Prop) (W : World) : Prop :=
  ∃ v, WayAt A0 kn c0 gz gp go gk B (zT key j) (p / 4 ^ j) (wayG key z p j) v W ∧ (∀ b, O b ↔ (b = gz ∨ b = gp ∨ b = go ∨ v.ownBlock = some b)) ∧ Below w0.heap.size w0 W
theorem way_tell (key : List Int) (z : List (List Int)) (h32 : T32 z) (p h : Nat) (hp : p < z.length) (hz : z.length ≤ 4 ^ h) (hn : z.length ≤ 100) (hh : h ≤ 20) (A0 : Option Addr) (kn c0 gz gp go gk B : Nat) (w0 w : World) (hkey : Kd.C (Kd.int .u8) w0 A0 kn key) (hkn : kn = key.length) (hc : kn ≤ c0) (hl : kn ≤ 1000)
    (hB : B = w0.heap.size) (hw : w0.heap.size ≤ w.heap.size) (hgk : gk < w.heap.size) (hgz : w0.heap.size ≤ gz) (hgp : w0.heap.size ≤ gp) (hgo : w0.heap.size ≤ go) :
    Tell key A0 z h w 115 #[.pointer (some ⟨gz, 0, none⟩), .pointer (some ⟨gp, 0, none⟩), .pointer (some ⟨go, 0, none⟩), .pointer (some ⟨gk, 0, none⟩)] (WayJ key z p A0 kn c0 gz gp go gk B w0) where
  enters := enters_of Try.func115 (by kernel_rfl) rfl
  call := fun j hj O W A c hJ hF hcap _ => by
    obtain ⟨v, hW, hO, hb⟩ := hJ
    have h1 := way_full key z h p hz hp j hj
    have hOB : ∀ b, (b = gz ∨ b = gp ∨ b = go ∨ v.ownBlock = some b) → w0.heap.size ≤ b := fun b hb' => by
      rcases hb' with rfl | rfl | rfl | hb'
      · exact hgz
      · exact hgp
      · exact hgo
      · rw [← hB]; exact own_base hW.row b hb'
    refine (way1_any A0 key kn c0 gz gp go gk B (zT key j) (p / 4 ^ j) (wayG key z p j) v A c (lv key z j) W hW (fun W' hK => Kd.C_below hkey (Kx.below hb hK hb.size hOB)) hkn hc hl hF (lv_32 key z h32 j) hcap h1.2 (Nat.le_trans (lv_le key z j) hn) (zT_length _ _) (wayG_128 key z h32 p h hp hz j (by omega)) (by rw [wayG_length]; omega) (by rw [hB]; exact hb.size)).mono ?_
    rintro e W' ⟨hv, v', hW', hK, hat⟩
    refine ⟨hv, fun b => b = gz ∨ b = gp ∨ b = go ∨ v'.ownBlock = some b, ⟨v', ?_, fun b => Iff.rfl, Kx.below hb hK hb.size hOB⟩, ?_, ?_⟩
    · rw [Nat.div_div_eq_div_mul, ← Nat.pow_succ] at hW'
      rw [show (p / 4 ^ (j + 1)) = p / 4 ^ (j + 1) from rfl]
      have e : wayG key z p (j + 1) = wayG key z p j ++ [padT (zT key j) (fourOf (lv key z j) (p / 4 ^ (j + 1)))] := by
        rw [wayG, Nat.div_div_eq_div_mul, ← Nat.pow_succ]
      rw [e]
      exact hW'
    · exact ⟨hK.os, hK.tape, hK.output, hK.size, fun k hk hx => hK.block k hk (fun h => hx ((hO k).2 h))⟩
    · rintro b (rfl | rfl | rfl | hb')
      · exact .inl ((hO _).2 (.inl rfl))
      · exact .inl ((hO _).2 (.inr (.inl rfl)))
      · exact .inl ((hO _).2 (.inr (.inr (.inl rfl))))
      · rcases hat with hat | ⟨b2, hb2, hle⟩
        · exact .inl ((hO _).2 (.inr (.inr (.inr (hat.symm.trans hb')))))
        · rw [hb'] at hb2
          obtain rfl := Option.some.inj hb2
          exact .inr hle
  frame := fun j O W W' X hJ hK hX => by
    obtain ⟨v, hW, hO, hb⟩ := hJ
    have keep : ∀ b, O b → b < W.heap.size → W'.heap[b]? = W.heap[b]? := fun b ho hlt => hK.block b hlt (fun hx => (hX b hx).2 ho)
    refine ⟨v, ⟨⟨(keep _ ((hO _).2 (.inl rfl)) hW.zero.lt).trans hW.zero.out⟩, (keep _ ((hO _).2 (.inr (.inl rfl))) hW.place.lt).trans hW.place, (keep _ ((hO _).2 (.inr (.inr (.inl rfl)))) hW.outs.lt).trans hW.outs, own_kept' hW.row (fun b hb' => keep b ((hO _).2 (.inr (.inr (.inr hb')))) (own_lt hW.row b hb')), ?_⟩, hO, Kx.below hb hK hb.size (fun b hx => Nat.le_trans hw (hX b hx).1)⟩
    exact (hK.block gk hW.box.lt (fun hx => by have := (hX gk hx).1; omega)).trans hW.box
  cells := fun j O W b hJ hb => by
    obtain ⟨v, hW, hO, -⟩ := hJ
    rcases (hO b).1 hb with rfl | rfl | rfl | hb'
    · exact ⟨_, hW.zero.out, rfl⟩
    · exact ⟨_, hW.place, rfl⟩
    · exact ⟨_, hW.outs, rfl⟩
    · obtain ⟨cs, hc⟩ := own_typed hW.row b hb'
      exact ⟨_, hc, rfl⟩
  key := fun j O W hJ => by
    obtain ⟨v, hW, hO, hb⟩ := hJ
    rw [← hkn]
    exact Kd.C_below hkey hb
def WayOut (z : List (List Int)) (w : World) (e : Ending) (w' : World) : Prop := ∃ v, e = .returned (.tuple #[v, .int .i64 0]) ∧ w'.ownsRow w.heap.size 123 128 v z.length (nums .u8 z.flatten) ∧ Below w.heap.size w w'
theorem way_bad (A0 : Option Addr) (kn c0 : Nat) (A : Option Addr) (n c : Nat) (place : Int) (w : World) (h : place < 0 ∨ (n : Int) ≤ place) :
    Calls Try.prog 75 #[.slice A0 kn c0, .slice A n c, .int .i64 place] w fun e w' => e = .returned (.tuple #[.slice none 0 0, .int .i64 1]) ∧ Below w.heap.size w w' := by
  have hB : Below w.heap.size w ((w.alloc (.cells #[.slice A0 kn c0] 29)).alloc (.cells #[.int .i64 place] 3)) := ((Below.refl _ w).alloc (Nat.le_refl _) _).alloc (by simp) _
  by_cases h0 : place < 0
  · go_enter Try.func75, Try.ntmps75
    go_wp2_with fail
    go_ret2
    exact ⟨rfl, hB⟩
  · have h1 : (n : Int) ≤ place := by omega
    go_enter Try.func75, Try.ntmps75
    go_wp2_with fail
    go_ret2
    exact ⟨rfl, hB⟩
theorem three_boxes (w : World) (v1 v2 v3 : Value) (t1 t2 t3 : TypeId) :
    Boxed (((w.alloc (.cells #[v1] t1)).alloc (.cells #[v2] t2)).alloc (.cells #[v3] t3)) w.heap.size t1 v1 ∧ Boxed (((w.alloc (.cells #[v1] t1)).alloc (.cells #[v2] t2)).alloc (.cells #[v3] t3)) (w.heap.size + 1) t2 v2 ∧
    Boxed (((w.alloc (.cells #[v1] t1)).alloc (.cells #[v2] t2)).alloc (.cells #[v3] t3)) (w.heap.size + 1 + 1) t3 v3 ∧ Below w.heap.size w (((w.alloc (.cells #[v1] t1)).alloc (.cells #[v2] t2)).alloc (.cells #[v3] t3)) := by
  refine ⟨((Boxed.new w t1 v1).alloc _).alloc _, Boxed.alloc ?_ _, ?_, (((Below.refl _ w).alloc (Nat.le_refl _) _).alloc (by simp) _).alloc (by simp; omega) _⟩
  · have h := Boxed.new (w.alloc (.cells #[v1] t1)) t2 v2
    simpa using h
  · have h := Boxed.new ((w.alloc (.cells #[v1] t1)).alloc (.cells #[v2] t2)) t3 v3
    simpa using h
set_option maxRecDepth 100000 in
set_option maxHeartbeats 4000000 in
theorem way_any (k : Nat) (A0 : Option Addr) (c0 : Nat) (key : List Int) (A : Option Addr) (c : Nat) (z : List (List Int)) (h p : Nat) (w : World) (hr : Kd.C (Kd.int .u8) w A0 key.length key)
    (hc : key.length ≤ c0) (hl : key.length ≤ 1000) (hz : Flat w A z) (h32 : T32 z) (hzc : z.length ≤ c) (hn : z.length ≤ 100) (hh : merkle_Height.f k z.length = some (h : Int)) (hh1 : h ≤ 20) (hzh : z.length ≤ 4 ^ h) (hp : p < z.length) :
    Calls Try.prog 75 #[.slice A0 key.length c0, .slice A z.length c, .int .i64 p] w (WayOut (wayG key z p h) w) := by
  have HT := Lib.hid (way_tell key z h32 p h hp hzh hn hh1)
  have HLV := Lib.hid (levels_any k A0 c0 key A c z h)
  have HR := Lib.hid hr
  have HZ := Lib.hid hz
  have H32 := Lib.hid h32
  have HH := Lib.hid hh
  have HWL := Lib.hid (wayG_length key z p h)
  obtain ⟨kn, hkn⟩ : ∃ n, n = key.length := ⟨_, rfl⟩
  obtain ⟨n, hnn⟩ : ∃ n, n = z.length := ⟨_, rfl⟩
  have HKN := Lib.hid hkn
  have HNN := Lib.hid hnn
  rw [← hkn] at hc hl ⊢
  rw [← hnn] at hzc hn hp ⊢
  have h1 : ¬ (p : Int) < 0 := by omega
  have h2 : ¬ (n : Int) ≤ (p : Int) := by omega
  have h3 : p ≤ 9223372036854775807 := by omega
  clear hr hz h32 hh hkn hnn hzh
  go_enter Try.func75, Try.ntmps75
  have hcall : ∀ w4, Below w.heap.size w w4 → Boxed w4 w.heap.size 29 (.slice A0 kn c0) → Boxed w4 (w.heap.size + 1) 3 (.int .i64 (p : Int)) → Boxed w4 (w.heap.size + 1 + 1) 112 (.slice none 0 0) → Arr .u8 24 w4 (w.heap.size + 1 + 1 + 1) (List.replicate 32 0) →
      Calls Try.prog 112 #[.slice A0 kn c0, .slice A n c, .func (.func 115) #[] #[.pointer (some ⟨w.heap.size + 1 + 1 + 1, 0, none⟩), .pointer (some ⟨w.heap.size + 1, 0, none⟩), .pointer (some ⟨w.heap.size + 1 + 1, 0, none⟩), .pointer (some ⟨w.heap.size, 0, none⟩)]] w4 (fun e w5 => e = .returned (.agg (nums .u8 (rootF key z h)).toArray) ∧ ∃ v5, Boxed w5 (w.heap.size + 1 + 1) 112 v5 ∧ w5.ownsRow w.heap.size 123 128 v5 h (nums .u8 (wayG key z p h).flatten) ∧ Below w.heap.size w w5) := fun w4 hb hk hp' ho hz' => by
    have hlev := HLV.out w4 115 #[.pointer (some ⟨w.heap.size + 1 + 1 + 1, 0, none⟩), .pointer (some ⟨w.heap.size + 1, 0, none⟩), .pointer (some ⟨w.heap.size + 1 + 1, 0, none⟩), .pointer (some ⟨w.heap.size, 0, none⟩)] (WayJ key z p A0 kn c0 (w.heap.size + 1 + 1 + 1) (w.heap.size + 1) (w.heap.size + 1 + 1) w.heap.size w.heap.size w) (fun b => b = w.heap.size + 1 + 1 + 1 ∨ b = w.heap.size + 1 ∨ b = w.heap.size + 1 + 1 ∨ (Value.slice none 0 0).ownBlock = some b)
      (HT.out A0 kn c0 _ _ _ _ _ w w4 (by rw [HKN.out]; exact HR.out) HKN.out hc hl rfl hb.size hk.lt (by omega) (by omega) (by omega))
      ⟨.slice none 0 0, ⟨hz', by rw [Nat.pow_zero, Nat.div_one]; exact hp', ho, own_nil _ _ _ _, hk⟩, fun b => Iff.rfl, hb⟩
      (by rw [← HKN.out]; exact hc) (by rw [← HKN.out]; exact hl) (HZ.out.below H32.out hb) H32.out (fun b o hA hO => by
        have hlt : b < w.heap.size := by
          have hne : z ≠ [] := fun e => by
            have := HNN.out
            rw [e] at this
            simp at this
            omega
          obtain ⟨b', o', hA', hr'⟩ := HZ.out hne
          rw [hA] at hA'
          obtain ⟨rfl, rfl, -⟩ := Addr.mk.inj (Option.some.inj hA')
          have h1 : 0 < (nums .u8 z.flatten).length := by
            simp only [nums, List.length_map, H32.out.flat, ← HNN.out]
            omega
          exact World.block_lt_of_cell? _ _ (hr' 0 _ (List.getElem?_eq_getElem h1))
        rcases hO with h | h | h | h
        · omega
        · omega
        · omega
        · cases h) (by rw [← HNN.out]; exact hzc) (by rw [← HNN.out]; exact hn) HH.out hh1
    rw [← HKN.out, ← HNN.out] at hlev
    refine hlev.mono ?_
    rintro e w5 ⟨rfl, O, v5, hW5, -, hb5⟩
    refine ⟨rfl, v5, hW5.outs, ?_, hb5⟩
    have h5 := hW5.row
    rw [HWL.out] at h5
    exact h5
  have HCALL := Lib.hid hcall
  clear hcall
  obtain ⟨hk2, hp2, ho2, hB2⟩ := three_boxes w (.slice A0 kn c0) (.int .i64 (p : Int)) (.slice none 0 0) 29 3 112
  obtain ⟨w2, hw2⟩ : ∃ w2, w2 = (((w.alloc (.cells #[.slice A0 kn c0] 29)).alloc (.cells #[.int .i64 (p : Int)] 3)).alloc (.cells #[.slice none 0 0] 112)) := ⟨_, rfl⟩
  have hs2 : w2.heap.size = w.heap.size + 1 + 1 + 1 := by rw [hw2]; simp
  rw [← hw2] at hk2 hp2 ho2 hB2
  have HW2 := Lib.hid hw2
  have HS2 := Lib.hid hs2
  have HK2 := Lib.hid hk2
  have HP2 := Lib.hid hp2
  have HO2 := Lib.hid ho2
  have HB2 := Lib.hid hB2
  clear hw2 hs2 hk2 hp2 ho2 hB2
  go_wp2_with (first
    | ((with_reducible refine gate_dst (N := 9) rfl ?_); rw [← HW2.out]; refine alloc_arr rfl 24 rfl .u8 (List.replicate 32 0) (fun w => Try.zeroValue24 w) (by first | (go_simp; done) | (go_simp; rfl)) ?_; rw [HS2.out]; intro w3 hA3 hB3; have HA3 := Lib.hid hA3; have HB3 := Lib.hid hB3; clear hA3 hB3)
    | ((with_reducible refine gate_dst (N := 18) rfl ?_); refine list_run_g (by rfl) _ (run_build0 rfl _) ?_)
    | ((with_reducible refine gate_store (t := 24) (p := 9) rfl ?_); refine store_arr rfl 24 _ _ rfl _ .u8 (List.replicate 32 0) rfl rfl 24 _ HA3.out rfl (by kernel_rfl) ?_; intro w4 hA4 hw4; have hB3' : Below w2.heap.size w2 w3 := (by rw [HS2.out]; exact HB3.out); have hk4 : Boxed w4 w.heap.size 29 (.slice A0 kn c0) := (by rw [hw4]; exact (setRow_other w3 _ _ _ (by omega)).trans ((hB3'.block _ (by rw [HS2.out]; omega)).trans HK2.out)); have hp4 : Boxed w4 (w.heap.size + 1) 3 (.int .i64 (p : Int)) := (by rw [hw4]; exact (setRow_other w3 _ _ _ (by omega)).trans ((hB3'.block _ (by rw [HS2.out]; omega)).trans HP2.out)); have ho4 : Boxed w4 (w.heap.size + 1 + 1) 112 (.slice none 0 0) := (by rw [hw4]; exact (setRow_other w3 _ _ _ (by omega)).trans ((hB3'.block _ (by rw [HS2.out]; omega)).trans HO2.out)); have hB4 : Below w.heap.size w w4 := (by rw [hw4]; exact below_setRow (below_next HB2.out hB3') _ (by omega) _); have hcck := hk4.cell; have HK4 := Lib.hid hk4; have HP4 := Lib.hid hp4; have HO4 := Lib.hid ho4; have HB4 := Lib.hid hB4; have HA4 := Lib.hid hA4; clear hA4 hw4 hk4 hp4 ho4 hB4 hB3')
    | (go_at_call 112; refine (HCALL.out w4 HB4.out HK4.out HP4.out HO4.out HA4.out).mono ?_; rintro e w5 ⟨rfl, v5, hx5, ho5, hb5⟩; have hcc5 := hx5.cell; have HX5 := Lib.hid hx5; have HO5 := Lib.hid ho5; have HB5 := Lib.hid hb5; clear hcck hx5 ho5 hb5))
  go_ret2
  refine ⟨v5, rfl, ?_, HB5.out⟩
  rw [HWL.out]
  exact HO5.out
end Go.Proofs.Ytoiiacbbfhlocaa.HMa
end
section
set_option linter.unusedVariables false
set_option linter.unusedSimpArgs false
namespace Go.Proofs.Ytoiiacbbfhlocaa.HMa
open Go.RowKit Go.Shelf Go.Proofs.YtoiiacbbfhlocaaW.PrintWords Go.Proofs.YtoiiacbbfhlocaaW.PrintLast Go.Proofs.YtoiiacbbfhlocaaW.PrintMore Go.Proofs.Ytoiiacbbfhlocaa.Kit Go.Proofs.Ytoiiacbbfhlocaa.HHa Go.Proofs.Ytoiiacbbfhlocaa.HSa Go.Proofs.Ytoiiacbbfhlocaa.Mr
attribute [local irreducible] sumF padX inF hmF jN jF kF padK nodeF
theorem below_drewN {B : Nat} {w W : World} (h : Below B w W) {q : Nat} : Below B w (W.drewN q) := ⟨h.os, h.tape, h.output, h.size, h.block⟩
theorem fourF_flat (L : List (List Int)) (h4 : L.length = 4) (h32 : T32 L) : fourF L.flatten = L := by
  match L, h4 with
  | [a, b, c, d], _ =>
    unfold fourF
    rw [quad_flat [a, b, c, d] h32 0 a rfl, quad_flat [a, b, c, d] h32 1 b rfl, quad_flat [a, b, c, d] h32 2 c rfl, quad_flat [a, b, c, d] h32 3 d rfl]
set_option maxRecDepth 100000 in
theorem rroot_any (k0 g : Nat) (key : List Int) (AK : Option Addr) (cK : Nat) (AR : Option Addr) (cR : Nat) (AC : Option Addr) (cC : Nat) (A1 : Option Addr) (c1 : Nat) (z : List (List Int)) (h m : Nat) (w : World) (hK : KeyAt w g (padK key) AK cK AR cR AC cC) (hkb : Bytes key)
    (hz : SRow w A1 z) (h32 : T32 z) (hzb : ∀ x ∈ z, Bytes x) (hc : z.length ≤ c1) (hn : z.length ≤ 100) (hm : m = 4 ^ h) (hw : padlockref08_Whole.f k0 z.length = some ((m : Int), (h : Int))) (hzm : z.length ≤ m) (hm4 : m ≤ 1000) (hh : h ≤ 8) :
    Calls Try.prog 73 #[.pointer (some ⟨g, 0, none⟩), .slice A1 z.length c1] w (TellsS (rootF key z h) w) := by
  have hr := rrows_any k0 g key AK cK AR cR AC cC A1 c1 z h m w hK hkb hz h32 hzb hc hn hm hw hzm hm4 hh
  have HROOT := Lib.hid (show rowN key (fullL key z m 0) h = [rootF key z h] by rw [hm]; exact rowN_root key z h (by rw [← hm]; exact hzm))
  have hrl := rowsF_length key (fullL key z m 0) h
  have hra := rowsF_at key (fullL key z m 0) h h (Nat.le_refl _)
  rw [HROOT.out] at hra
  obtain ⟨Ls, hLs⟩ : ∃ Ls, Ls = rowsF key (fullL key z m 0) h := ⟨_, rfl⟩
  rw [← hLs] at hr hrl hra
  obtain ⟨n, hnn⟩ : ∃ n, n = z.length := ⟨_, rfl⟩
  rw [← hnn] at hr ⊢
  have HR := Lib.hid hr
  have HRL := Lib.hid hrl
  have HRA := Lib.hid hra
  clear hr hrl hra hLs hK hkb hz h32 hzb hc hn hm hw hzm hnn
  go_enter Try.func73, Try.ntmps73
  go_wp2_with (go_at_call 114; refine HR.out.mono ?_; rintro e w3 ⟨b, o, c, rfl, hc, hb3, hrows⟩; obtain ⟨ad, cc, hcell, hcc, hS⟩ := hrows h _ HRA.out; obtain ⟨b2, o2, hA, hcell2⟩ := hS 0 _ rfl; cases hA; rw [Nat.add_zero] at hcell2; have HB3 := Lib.hid hb3; have HL3 := Lib.hid (show Ls.length = h + 1 from HRL.out); rw [HRL.out]; rw [HRL.out] at hc; have hh1 : ((h + 1 : Nat) : Int) - 1 = (h : Int) := (by omega); have hh2 : (h : Int) < ((h + 1 : Nat) : Int) := (by omega); have hh3 : ¬ (h : Int) < 0 := (by omega); have hh4 : h ≤ 9223372036854775807 := (by omega); clear hb3 hrows hS)
  go_ret
  exact ⟨rfl, HB3.out⟩
set_option maxRecDepth 100000 in
theorem same_any (A1 : Option Addr) (c1 : Nat) (A2 : Option Addr) (c2 : Nat) (z : List (List Int)) (w : World) (h1 : SWay w A1 z) (h2 : SWay w A2 z) (hl : z.length ≤ 1000) :
    Calls Try.prog 76 #[.slice A1 z.length c1, .slice A2 z.length c2] w (TellsB true w) := by
  have H1 := Lib.hid h1
  have H2 := Lib.hid h2
  obtain ⟨n, hnn⟩ : ∃ n, n = z.length := ⟨_, rfl⟩
  have HNN := Lib.hid hnn
  rw [← hnn] at hl ⊢
  clear h1 h2 hnn
  go_enter Try.func76, Try.ntmps76
  go_wp2
  go_loopg [5] n (fun gg s5 wr => ∃ k : Nat, k ≤ n ∧ n - k ≤ gg ∧ s5 = .int .i64 k ∧ Aside0 (Below w.heap.size w wr))
  case atStart => exact ⟨0, Nat.zero_le _, by omega, rfl, ⟨Below.refl _ _⟩⟩
  case round =>
    obtain ⟨k, hk, hg, rfl, BW⟩ := hrel
    by_cases hlt : k < n
    · have hltz : (k : Int) < (n : Int) := by omega
      have hk0 : ¬ (k : Int) < 0 := by omega
      have hk1 : k ≤ 9223372036854775807 := by omega
      obtain ⟨x, hx⟩ : ∃ x, z[k]? = some x := ⟨_, List.getElem?_eq_getElem (by rw [← HNN.out]; exact hlt)⟩
      obtain ⟨b, o, B, d, rfl, hc, hd, hS⟩ := H1.out k x hx
      obtain ⟨b', o', B', d', rfl, hc', hd', hS'⟩ := H2.out k x hx
      have HC := Lib.hid hc
      have HC' := Lib.hid hc'
      have HS := Lib.hid hS
      have HS' := Lib.hid hS'
      clear hx hc hc' hS hS'
      go_wp2
      obtain ⟨wo, hwo⟩ : ∃ wo : World, wo = wr := ⟨_, rfl⟩
      subst hwo
      go_loopg [6] 4 (fun gg s6 wr => ∃ q : Nat, q ≤ 4 ∧ 4 - q ≤ gg ∧ s6 = .int .i64 q ∧ Aside0 (Below w.heap.size w wr))
      case atStart => exact ⟨0, Nat.zero_le _, by omega, rfl, ⟨BW.out⟩⟩
      case round =>
        clear BW
        obtain ⟨q, hq, hgq, rfl, BI⟩ := hrel
        by_cases hlq : q < 4
        · have hq1 : (q : Int) < 4 := by omega
          have hq2 : ¬ (q : Int) < 0 := by omega
          have hq3 : q ≤ 9223372036854775807 := by omega
          obtain ⟨t, ht⟩ : ∃ t, (fourF x)[q]? = some t := ⟨_, fourF_at x q hlq⟩
          obtain ⟨b3, o3, rfl, hc3⟩ := HS.out q t ht
          obtain ⟨b4, o4, rfl, hc4⟩ := HS'.out q t ht
          have k1 := (BI.out.cell (p := ⟨b, o + k, none⟩) (World.block_lt_of_cell? _ _ HC.out)).trans HC.out
          have k2 := (BI.out.cell (p := ⟨b', o' + k, none⟩) (World.block_lt_of_cell? _ _ HC'.out)).trans HC'.out
          have k3 := (BI.out.cell (p := ⟨b3, o3 + q, none⟩) (World.block_lt_of_cell? _ _ hc3)).trans hc3
          have k4 := (BI.out.cell (p := ⟨b4, o4 + q, none⟩) (World.block_lt_of_cell? _ _ hc4)).trans hc4
          clear ht hc3 hc4
          go_wp2
          go_quiet (fail)
          go_wp2
          go_roundg (4 - (q + 1))
          case measure => omega
          case rel => exact ⟨q + 1, by omega, by omega, by go_num, ⟨below_drewN BI.out⟩⟩
        · have hq1 : ¬ (q : Int) < 4 := by omega
          go_wp2
          go_roundg (n - (k + 1))
          case measure => omega
          case rel => exact ⟨k + 1, by omega, by omega, by go_num, ⟨BI.out⟩⟩
    · have hltz : ¬ (k : Int) < (n : Int) := by omega
      go_wp2
      go_ret
      exact ⟨rfl, BW.out⟩
set_option maxRecDepth 100000 in
set_option maxHeartbeats 4000000 in
theorem rway_any (k0 g : Nat) (key : List Int) (AK : Option Addr) (cK : Nat) (AR : Option Addr) (cR : Nat) (AC : Option Addr) (cC : Nat) (A1 : Option Addr) (c1 : Nat) (z : List (List Int)) (h m p : Nat) (w : World) (hK : KeyAt w g (padK key) AK cK AR cR AC cC) (hkb : Bytes key)
    (hz : SRow w A1 z) (h32 : T32 z) (hzb : ∀ x ∈ z, Bytes x) (hc : z.length ≤ c1) (hn : z.length ≤ 100) (hm : m = 4 ^ h) (hw : padlockref08_Whole.f k0 z.length = some ((m : Int), (h : Int))) (hzm : z.length ≤ m) (hm4 : m ≤ 1000) (hh : h ≤ 8) (hp : p < z.length) :
    Calls Try.prog 78 #[.pointer (some ⟨g, 0, none⟩), .slice A1 z.length c1, .int .i64 p] w (GivesW (wayG key z p h) w) := by
  have hr := rrows_any k0 g key AK cK AR cR AC cC A1 c1 z h m w hK hkb hz h32 hzb hc hn hm hw hzm hm4 hh
  have hzm' : z.length ≤ 4 ^ h := by rw [← hm]; exact hzm
  have HRL := Lib.hid (rowsF_length key (fullL key z m 0) h)
  have HRA := Lib.hid (rowsF_at key (fullL key z m 0) h)
  have hL4 : (fullL key z m 0).length = 4 ^ h := by rw [fullL_length key z m 0 hzm]; exact hm
  have HLN := Lib.hid (rowN_length key (fullL key z m 0) h hL4)
  have HL32 := Lib.hid (rowN_32 key (fullL key z m 0) (fullL_32 key z m 0 h32))
  have HWF := Lib.hid (show ∀ j, j < h → ∀ x, (wayG key z p h)[j]? = some x → fourF x = fourOf (rowN key (fullL key z m 0) j) (p / 4 ^ j / 4) ∧ p / 4 ^ j / 4 < 4 ^ (h - (j + 1)) from fun j hj x hx => by
    have h1 := wayG_at key z p h j hj
    have h2 := (List.getElem?_eq_some_iff.1 hx).2
    rw [h1] at h2
    have h3 := (way_full key z h p hzm' hp j hj).1
    have h5 := div_pow_lt p h j (by omega) hj
    refine ⟨?_, h5⟩
    rw [← h2, ← h3, ← hm]
    refine fourF_flat _ ?_ ((HL32.out j).drop _ |>.take _)
    unfold fourOf
    rw [List.length_take, List.length_drop, HLN.out j (by omega), show h - j = (h - (j + 1)) + 1 by omega, Nat.pow_succ]
    omega)
  have HM := Lib.hid hm
  have HWL := Lib.hid (wayG_length key z p h)
  obtain ⟨L, hL⟩ : ∃ L, L = fullL key z m 0 := ⟨_, rfl⟩
  rw [← hL] at hr HRL HRA HLN HL32 HWF
  obtain ⟨ws, hws⟩ : ∃ ws, ws = wayG key z p h := ⟨_, rfl⟩
  rw [← hws] at HWF HWL ⊢
  obtain ⟨Ls, hLs⟩ : ∃ Ls, Ls = rowsF key L h := ⟨_, rfl⟩
  rw [← hLs] at hr HRL HRA
  obtain ⟨n, hnn⟩ : ∃ n, n = z.length := ⟨_, rfl⟩
  rw [← hnn] at hr hp hn ⊢
  have HR := Lib.hid hr
  clear hr hL hws hLs hK hkb hz h32 hzb hc hm hw hzm hzm' hL4 hnn
  go_enter Try.func78, Try.ntmps78
  go_wp2_with (go_at_call 114; refine HR.out.mono ?_; rintro e w3 ⟨b, o, c, rfl, hc, hb3, hrows⟩; have HB3 := Lib.hid hb3; have HROWS := Lib.hid hrows; rw [HRL.out]; rw [HRL.out] at hc; clear hb3 hrows)
  obtain ⟨n1, hn1⟩ : ∃ n1, n1 = h + 1 := ⟨_, rfl⟩
  have hn2 : (n1 : Int) - 1 = (h : Int) := by omega
  rw [← hn1] at hc ⊢
  have HN1 := Lib.hid hn1
  clear hn1
  go_loopg [2, 8, 9] h (fun gg s2 v8 s9 wr => ∃ (j q : Nat) (us : List Value), j ≤ h ∧ h - j ≤ gg ∧ q ≤ n ∧ Aside0 (q = p / 4 ^ j) ∧ s2 = .int .i64 q ∧ s9 = .int .i64 j ∧ Aside0 (us.length = j) ∧ Aside0 (Below w3.heap.size w3 wr) ∧ Aside0 (wr.ownsRow w3.heap.size 94 1 v8 j us) ∧ Aside0 (∀ (i : Nat) (x : List Int) (u : Value), ws[i]? = some x → us[i]? = some u → ∃ ad c, u = .slice (some ad) 4 c ∧ 4 ≤ c ∧ SRow w3 (some ad) (fourF x)))
  case atStart => exact ⟨0, p, [], Nat.zero_le _, by omega, by omega, ⟨by rw [Nat.pow_zero, Nat.div_one]⟩, rfl, rfl, ⟨rfl⟩, ⟨Below.refl _ _⟩, ⟨own_nil _ _ _ _⟩, ⟨fun i x u _ hu => by simp at hu⟩⟩
  case round =>
    obtain ⟨j, q, us, hj, hg, hqn, HQ, rfl, rfl, HUS, BW, HO, HP⟩ := hrel
    by_cases hlt : j < h
    · have hltz : (j : Int) < (h : Int) := by omega
      have hj0 : ¬ (j : Int) < 0 := by omega
      have hj1 : j ≤ 9223372036854775807 := by omega
      have hj2 : (j : Int) < (n1 : Int) := by have := HN1.out; omega
      obtain ⟨x, hx⟩ : ∃ x, ws[j]? = some x := ⟨_, List.getElem?_eq_getElem (by rw [HWL.out]; exact hlt)⟩
      obtain ⟨hf, hd⟩ := HWF.out j hlt x hx
      have hl4 := HLN.out j (by omega)
      rw [show h - j = (h - (j + 1)) + 1 by omega, Nat.pow_succ] at hl4
      obtain ⟨ad, cc, hcell, hcc, hS⟩ := HROWS.out j _ (HRA.out j (by omega))
      obtain ⟨X, hX⟩ : ∃ X, X = rowN key L j := ⟨_, rfl⟩
      rw [← hX] at hf hl4 hcell hcc hS
      have hpos : 0 < 4 ^ (h - (j + 1)) := Nat.pow_pos (by decide)
      obtain ⟨b2, o2, hA, -⟩ := hS 0 (X[0]'(by omega)) (List.getElem?_eq_getElem (by omega))
      cases hA
      rw [← HQ.out] at hf hd
      obtain ⟨t, ht⟩ : ∃ t, t = 4 * (q / 4) := ⟨_, rfl⟩
      have hrem : (q : Int) - (q : Int).tmod 4 = (t : Int) := by rw [Int.tmod_eq_emod_of_nonneg (by omega)]; omega
      have hrem2 : (q : Int) - (q : Int) % 4 = (t : Int) := by omega
      have ht0 : ¬ (t : Int) < 0 := by omega
      have hq9 : q ≤ 1000 := by omega
      have ht1 : t ≤ 1000 := by omega
      have ht4 : (t : Int) + 4 ≤ cc := by omega
      have ht5 : (t : Int) ≤ (t : Int) + 4 := by omega
      have hc4 : 4 ≤ cc - t := by omega
      have hcell' := (BW.out.cell (p := ⟨b, o + j, none⟩) (World.block_lt_of_cell? _ _ hcell)).trans hcell
      have HSP := Lib.hid (show SRow w3 (some ⟨b2, o2 + t, none⟩) (fourF x) from by rw [hf, ht]; exact hS.part (4 * (q / 4)) 4)
      obtain ⟨nx, hnx⟩ : ∃ nx, nx = X.length := ⟨_, rfl⟩
      rw [← hnx] at hcell' hcc
      have HX := Lib.hid hx
      have HT := Lib.hid ht
      clear hx hf hd hl4 hS hX hnx hcell ht
      go_wp2_with (((with_reducible refine gate_builtin (b := .append) (xs := #[.tmp 25, .tmp 34]) rfl ?_); at_builtin; refine blk ?_))
      refine ⟨?_⟩
      refine print_append_cells (w0 := w3) w3.heap.size rfl (.tmp 25) (.tmp 34) 116 94 (.slice none 0 0) 1 24 rfl Try.underlying116 infoSS rfl (by decide) (by decide) _ j us [.slice (some ⟨b2, o2 + t, none⟩) 4 (cc - t)] rfl rfl rfl (by simp [Value.oneCell']) HO.out BW.out BW.out.size (by omega) ?_
      intro v1 w9 ho hb hg9 hat
      have HO9 := Lib.hid ho
      have HB9 := Lib.hid hb
      have HP9 := Lib.hid (show ∀ (i : Nat) (y : List Int) (u : Value), ws[i]? = some y → (us ++ [.slice (some ⟨b2, o2 + t, none⟩) 4 (cc - t)])[i]? = some u → ∃ ad c, u = .slice (some ad) 4 c ∧ 4 ≤ c ∧ SRow w3 (some ad) (fourF y) from fun i y u hy hu => by
        by_cases hi : i < j
        · rw [List.getElem?_append_left (by rw [HUS.out]; exact hi)] at hu
          exact HP.out i y u hy hu
        · have hij : i = j := by
            have := (List.getElem?_eq_some_iff.1 hu).1
            rw [List.length_append, List.length_singleton, HUS.out] at this
            omega
          subst hij
          rw [List.getElem?_append_right (by rw [HUS.out]; exact Nat.le_refl _), HUS.out, Nat.sub_self] at hu
          simp only [List.getElem?_cons_zero, Option.some.injEq] at hu
          subst hu
          rw [HX.out] at hy
          obtain rfl := Option.some.inj hy
          exact ⟨_, _, rfl, hc4, HSP.out⟩)
      clear ho hb hg9 hat
      go_wp2
      go_roundg (h - (j + 1))
      case measure => omega
      case rel => exact ⟨j + 1, q / 4, _, by omega, by omega, by omega, ⟨by rw [HQ.out, Nat.div_div_eq_div_mul, ← Nat.pow_succ]⟩, by go_num, by go_num, ⟨by rw [List.length_append, List.length_singleton, HUS.out]⟩, ⟨HB9.out⟩, ⟨HO9.out⟩, ⟨HP9.out⟩⟩
    · have hltz : ¬ (j : Int) < (h : Int) := by omega
      obtain rfl : j = h := by omega
      obtain ⟨A8, c8, e8, hc8⟩ := own_slice HO.out
      subst e8
      go_wp2
      go_ret
      refine ⟨A8, c8, by rw [HWL.out]; rfl, by rw [HWL.out]; exact hc8, fun i x hx => ?_, below_next HB3.out BW.out⟩
      have hi : i < us.length := by
        have := (List.getElem?_eq_some_iff.1 hx).1
        rw [HWL.out] at this
        rw [HUS.out]
        exact this
      obtain ⟨g8, rfl, -, -, -⟩ := own_some HO.out (by rw [HUS.out] at hi; omega)
      obtain ⟨ad, cc, e, hcc, hS⟩ := HP.out i x _ hx (List.getElem?_eq_getElem hi)
      have hcell := World.ownsRow.cells HO.out (g := g8) rfl i _ (List.getElem?_eq_getElem hi)
      rw [add_plain, e] at hcell
      exact ⟨g8, 0, some ad, cc, rfl, by rw [Nat.zero_add]; exact hcell, hcc, hS.next BW.out⟩
end Go.Proofs.Ytoiiacbbfhlocaa.HMa
end
section
set_option linter.unusedVariables false
set_option linter.unusedSimpArgs false
namespace Go.Proofs.Ytoiiacbbfhlocaa.HMa
open Go.RowKit Go.Proofs.YtoiiacbbfhlocaaW.PrintWords Go.Proofs.Ytoiiacbbfhlocaa.Kit Go.Proofs.Ytoiiacbbfhlocaa.Mr
def hgt (n : Int) : Nat := if n ≤ 4 then 1 else if n ≤ 16 then 2 else if n ≤ 64 then 3 else if n ≤ 256 then 4 else if n ≤ 1024 then 5 else if n ≤ 4096 then 6 else if n ≤ 16384 then 7 else if n ≤ 65536 then 8 else 9
theorem w64 (x : Int) (h0 : -2000000 ≤ x) (h1 : x ≤ 2000000) : wrap64 x = x := by
  unfold wrap64
  omega
theorem hstep (k : Nat) (n a b : Int) (hn : 0 ≤ n) (hn2 : n ≤ 100000) (ha : 0 ≤ a ∧ a ≤ 100) (hb : 0 ≤ b ∧ b ≤ 240000) : merkle_Height.l0 (k + 1) n a b = if b < n then (if b > n / 4 then some (a + 1) else merkle_Height.l0 k n (a + 1) (b * 4)) else some a := by
  rw [merkle_Height.l0, w64 (a + 1) (by omega) (by omega), w64 (b * 4) (by omega) (by omega), Int.tdiv_eq_ediv_of_nonneg hn, w64 (n / 4) (by omega) (by omega)]
theorem height_eq (n : Int) (h : n ≤ 100000) : merkle_Height.f 12 n = some ((hgt n : Nat) : Int) := by
  unfold merkle_Height.f
  by_cases h0 : n < 0
  · rw [merkle_Height.l0, if_neg (by omega)]
    unfold hgt
    rw [if_pos (by omega)]
    rfl
  have hd : ∀ a : Nat, hgt n = a → some ((a : Nat) : Int) = some ((hgt n : Nat) : Int) := fun a e => by rw [e]
  have hp : 0 ≤ n := by omega
  have c1 : ∀ x y : Int, x = y → some x = some y := fun x y e => by rw [e]
  rw [hstep 11 n 1 4 hp h (by omega) (by omega)]
  by_cases h1 : n ≤ 4
  · rw [if_neg (by omega)]
    exact hd 1 (by unfold hgt; rw [if_pos (by omega)])
  rw [if_pos (by omega)]
  by_cases h2 : n ≤ 16
  · have e : hgt n = 2 := by unfold hgt; rw [if_neg (by omega), if_pos (by omega)]
    rw [e]
    split
    · rfl
    · rw [hstep 10 n _ _ hp h (by omega) (by omega), if_neg (by omega)]; rfl
  rw [if_neg (by omega), hstep 10 n _ _ hp h (by omega) (by omega), if_pos (by omega)]
  by_cases h3 : n ≤ 64
  · have e : hgt n = 3 := by unfold hgt; rw [if_neg (by omega), if_neg (by omega), if_pos (by omega)]
    rw [e]
    split
    · rfl
    · rw [hstep 9 n _ _ hp h (by omega) (by omega), if_neg (by omega)]; rfl
  rw [if_neg (by omega), hstep 9 n _ _ hp h (by omega) (by omega), if_pos (by omega)]
  by_cases h4 : n ≤ 256
  · have e : hgt n = 4 := by unfold hgt; rw [if_neg (by omega), if_neg (by omega), if_neg (by omega), if_pos (by omega)]
    rw [e]
    split
    · rfl
    · rw [hstep 8 n _ _ hp h (by omega) (by omega), if_neg (by omega)]; rfl
  rw [if_neg (by omega), hstep 8 n _ _ hp h (by omega) (by omega), if_pos (by omega)]
  by_cases h5 : n ≤ 1024
  · have e : hgt n = 5 := by unfold hgt; rw [if_neg (by omega), if_neg (by omega), if_neg (by omega), if_neg (by omega), if_pos (by omega)]
    rw [e]
    split
    · rfl
    · rw [hstep 7 n _ _ hp h (by omega) (by omega), if_neg (by omega)]; rfl
  rw [if_neg (by omega), hstep 7 n _ _ hp h (by omega) (by omega), if_pos (by omega)]
  by_cases h6 : n ≤ 4096
  · have e : hgt n = 6 := by unfold hgt; rw [if_neg (by omega), if_neg (by omega), if_neg (by omega), if_neg (by omega), if_neg (by omega), if_pos (by omega)]
    rw [e]
    split
    · rfl
    · rw [hstep 6 n _ _ hp h (by omega) (by omega), if_neg (by omega)]; rfl
  rw [if_neg (by omega), hstep 6 n _ _ hp h (by omega) (by omega), if_pos (by omega)]
  by_cases h7 : n ≤ 16384
  · have e : hgt n = 7 := by unfold hgt; rw [if_neg (by omega), if_neg (by omega), if_neg (by omega), if_neg (by omega), if_neg (by omega), if_neg (by omega), if_pos (by omega)]
    rw [e]
    split
    · rfl
    · rw [hstep 5 n _ _ hp h (by omega) (by omega), if_neg (by omega)]; rfl
  rw [if_neg (by omega), hstep 5 n _ _ hp h (by omega) (by omega), if_pos (by omega)]
  by_cases h8 : n ≤ 65536
  · have e : hgt n = 8 := by unfold hgt; rw [if_neg (by omega), if_neg (by omega), if_neg (by omega), if_neg (by omega), if_neg (by omega), if_neg (by omega), if_neg (by omega), if_pos (by omega)]
    rw [e]
    split
    · rfl
    · rw [hstep 4 n _ _ hp h (by omega) (by omega), if_neg (by omega)]; rfl
  rw [if_neg (by omega), hstep 4 n _ _ hp h (by omega) (by omega), if_pos (by omega)]
  have e : hgt n = 9 := by unfold hgt; rw [if_neg (by omega), if_neg (by omega), if_neg (by omega), if_neg (by omega), if_neg (by omega), if_neg (by omega), if_neg (by omega), if_neg (by omega)]
  rw [e, if_pos (by omega)]
  rfl
theorem wstep (k : Nat) (n a b : Int) (ha : 0 ≤ a ∧ a ≤ 270000) (hb : 0 ≤ b ∧ b ≤ 100) : padlockref08_Whole.l0 (k + 1) n a b = if a < n then padlockref08_Whole.l0 k n (4 * a) (b + 1) else some (a, b) := by
  rw [padlockref08_Whole.l0, w64 (4 * a) (by omega) (by omega), w64 (b + 1) (by omega) (by omega)]
theorem whole_eq (n : Int) (h : n ≤ 100000) : padlockref08_Whole.f 12 n = some (((4 ^ hgt n : Nat) : Int), ((hgt n : Nat) : Int)) := by
  unfold padlockref08_Whole.f
  rw [wstep 11 n _ _ (by omega) (by omega)]
  by_cases h1 : n ≤ 4
  · rw [if_neg (by omega), show hgt n = 1 by unfold hgt; rw [if_pos (by omega)]]; rfl
  rw [if_pos (by omega), wstep 10 n _ _ (by omega) (by omega)]
  by_cases h2 : n ≤ 16
  · rw [if_neg (by omega), show hgt n = 2 by unfold hgt; rw [if_neg (by omega), if_pos (by omega)]]; rfl
  rw [if_pos (by omega), wstep 9 n _ _ (by omega) (by omega)]
  by_cases h3 : n ≤ 64
  · rw [if_neg (by omega), show hgt n = 3 by unfold hgt; rw [if_neg (by omega), if_neg (by omega), if_pos (by omega)]]; rfl
  rw [if_pos (by omega), wstep 8 n _ _ (by omega) (by omega)]
  by_cases h4 : n ≤ 256
  · rw [if_neg (by omega), show hgt n = 4 by unfold hgt; rw [if_neg (by omega), if_neg (by omega), if_neg (by omega), if_pos (by omega)]]; rfl
  rw [if_pos (by omega), wstep 7 n _ _ (by omega) (by omega)]
  by_cases h5 : n ≤ 1024
  · rw [if_neg (by omega), show hgt n = 5 by unfold hgt; rw [if_neg (by omega), if_neg (by omega), if_neg (by omega), if_neg (by omega), if_pos (by omega)]]; rfl
  rw [if_pos (by omega), wstep 6 n _ _ (by omega) (by omega)]
  by_cases h6 : n ≤ 4096
  · rw [if_neg (by omega), show hgt n = 6 by unfold hgt; rw [if_neg (by omega), if_neg (by omega), if_neg (by omega), if_neg (by omega), if_neg (by omega), if_pos (by omega)]]; rfl
  rw [if_pos (by omega), wstep 5 n _ _ (by omega) (by omega)]
  by_cases h7 : n ≤ 16384
  · rw [if_neg (by omega), show hgt n = 7 by unfold hgt; rw [if_neg (by omega), if_neg (by omega), if_neg (by omega), if_neg (by omega), if_neg (by omega), if_neg (by omega), if_pos (by omega)]]; rfl
  rw [if_pos (by omega), wstep 4 n _ _ (by omega) (by omega)]
  by_cases h8 : n ≤ 65536
  · rw [if_neg (by omega), show hgt n = 8 by unfold hgt; rw [if_neg (by omega), if_neg (by omega), if_neg (by omega), if_neg (by omega), if_neg (by omega), if_neg (by omega), if_neg (by omega), if_pos (by omega)]]; rfl
  rw [if_pos (by omega), wstep 3 n _ _ (by omega) (by omega), if_neg (by omega), show hgt n = 9 by unfold hgt; rw [if_neg (by omega), if_neg (by omega), if_neg (by omega), if_neg (by omega), if_neg (by omega), if_neg (by omega), if_neg (by omega), if_neg (by omega)]]
  rfl
theorem hgt_pos (n : Int) : 1 ≤ hgt n := by
  unfold hgt
  repeat' split
  all_goals decide
theorem hgt_small (n : Nat) (h : n ≤ 100) : n ≤ 4 ^ hgt n ∧ 4 ^ hgt n ≤ 1000 ∧ hgt n ≤ 8 := by
  rcases (show (n : Int) ≤ 4 ∨ (¬ (n : Int) ≤ 4 ∧ (n : Int) ≤ 16) ∨ (¬ (n : Int) ≤ 16 ∧ (n : Int) ≤ 64) ∨ (¬ (n : Int) ≤ 64 ∧ (n : Int) ≤ 256) by omega) with h1 | ⟨h1, h2⟩ | ⟨h1, h2⟩ | ⟨h1, h2⟩
  · rw [show hgt n = 1 by unfold hgt; rw [if_pos (by omega)]]; omega
  · rw [show hgt n = 2 by unfold hgt; rw [if_neg (by omega), if_pos (by omega)]]; omega
  · rw [show hgt n = 3 by unfold hgt; rw [if_neg (by omega), if_neg (by omega), if_pos (by omega)]]; omega
  · rw [show hgt n = 4 by unfold hgt; rw [if_neg (by omega), if_neg (by omega), if_neg (by omega), if_pos (by omega)]]; omega
end Go.Proofs.Ytoiiacbbfhlocaa.HMa
end
section
set_option linter.unusedVariables false
set_option linter.unusedSimpArgs false
namespace Go.Proofs.Ytoiiacbbfhlocaa.HMa
open Go.RowKit Go.Shelf Go.Proofs.YtoiiacbbfhlocaaW.PrintWords Go.Proofs.YtoiiacbbfhlocaaW.PrintLast Go.Proofs.YtoiiacbbfhlocaaW.PrintMore Go.Proofs.Ytoiiacbbfhlocaa.Kit Go.Proofs.Ytoiiacbbfhlocaa.HHa Go.Proofs.Ytoiiacbbfhlocaa.HSa Go.Proofs.Ytoiiacbbfhlocaa.Mr
def kK : List Int := [107]
def z128 : List Int := List.replicate 128 0
set_option maxRecDepth 100000 in
theorem node_lit0 : (nodeF kK z128).getD 0 0 = 239 := by decide +kernel
theorem node_lit : nodeF kK z128 ≠ List.replicate 32 0 := fun e => by
  have h := node_lit0
  rw [e] at h
  revert h
  decide
attribute [local irreducible] sumF padX inF hmF jN jF kF padK nodeF
set_option maxRecDepth 100000 in
set_option maxHeartbeats 4000000 in
theorem knows8_any (w : World) : Calls Try.prog 68 #[] w (TellsB true w) := by
  obtain ⟨X, hX⟩ : ∃ X, X = nodeF kK z128 := ⟨_, rfl⟩
  have HXL := Lib.hid (show X.length = 32 by rw [hX]; exact nodeF_length _ _)
  have HNE := Lib.hid (show X ≠ List.replicate 32 0 by rw [hX]; exact node_lit)
  have hfl : [List.replicate 32 (0 : Int), List.replicate 32 0, List.replicate 32 0, List.replicate 32 0].flatten = z128 := by decide
  have HROOT := Lib.hid (show rootF kK [] 1 = X by rw [hX, ← hfl]; rfl)
  have HX := Lib.hid hX
  have hh5 := fun W => merkle_Height.calls 12 5 _ W (height_eq 5 (by decide))
  have hh0 := fun W => merkle_Height.calls 12 0 _ W (height_eq 0 (by decide))
  rw [show ((hgt 5 : Nat) : Int) = 2 from rfl] at hh5
  rw [show ((hgt 0 : Nat) : Int) = 1 from rfl] at hh0
  have HH5 := Lib.hid hh5
  have HH0 := Lib.hid hh0
  have hnode : ∀ W, Kd.C (Kd.int .u8) W (some ⟨w.heap.size, 0, none⟩) 1 kK → Calls Try.prog 81 #[.slice (some ⟨w.heap.size, 0, none⟩) 1 1, .agg (nums .u8 (List.replicate 128 0)).toArray] W (GivesArr .u8 X W) := fun W h => by
    rw [HX.out]
    exact node_any _ 1 kK z128 rfl W h (by decide) (by decide)
  have HNODE := Lib.hid hnode
  have hroot : ∀ W, Kd.C (Kd.int .u8) W (some ⟨w.heap.size, 0, none⟩) 1 kK → Calls Try.prog 71 #[.slice (some ⟨w.heap.size, 0, none⟩) 1 1, .slice none 0 0] W (GivesArr .u8 X W) := fun W h => by
    rw [← HROOT.out]
    exact root_any 12 _ 1 kK none 0 [] 1 W h (by decide) (by decide) (fun hne => absurd rfl hne) (fun x hx => by cases hx) (Nat.le_refl _) (by decide) (height_eq 0 (by decide)) (by decide)
  have HRT := Lib.hid hroot
  clear hX hh5 hh0 hnode hroot
  have kc1 := fun (C : Array Value) (n c : Nat) => Lib.run_convert_bytes_const (P := Try.prog) w 29 5 C n c Try.underlying29 Try.underlying5
  go_enter Try.func68, Try.ntmps68
  go_wp2_with fail
  have hC0 : Kd.C (Kd.int .u8) (w.alloc (.cells #[.int .u8 107] 5 (1, 2))) (some ⟨w.heap.size, 0, none⟩) 1 kK := lit_C w _ _ kK 1 rfl (by decide)
  have hB0 : Below w.heap.size w (w.alloc (.cells #[.int .u8 107] 5 (1, 2))) := below_alloc (Below.refl _ _) _
  have HC0 := Lib.hid hC0
  have HB0 := Lib.hid hB0
  clear hC0 hB0
  refine (way_bad _ 1 1 none 0 0 0 _ (.inr (by decide))).mono ?_
  rintro e w1 ⟨rfl, hb1⟩
  have HB1 := Lib.hid (below_next HB0.out hb1)
  have HC1 := Lib.hid (Kd.C_below HC0.out hb1)
  clear hb1 HB0 HC0 kc1
  go_wp2_with (first
    | (go_at_call 72; have hq := HB2; refine (HH0.out _).mono ?_; rintro e w3 ⟨rfl, hd3⟩; have HB3 := Lib.hid (below_next HB2.out hd3.below); have HC3 := Lib.hid (Kd.C_below HC2.out hd3.below); clear hd3)
    | (go_at_call 72; refine (HH5.out _).mono ?_; rintro e w2 ⟨rfl, hd2⟩; have HB2 := Lib.hid (below_next HB1.out hd2.below); have HC2 := Lib.hid (Kd.C_below HC1.out hd2.below); clear hd2)
    | (go_at_call 71; refine (HRT.out _ HC3.out).mono ?_; rintro e w4 ⟨rfl, hb4⟩; have HB4 := Lib.hid (below_next HB3.out hb4); have HC4 := Lib.hid (Kd.C_below HC3.out hb4); clear hb4)
    | ((with_reducible refine gate_dst (N := 21) rfl ?_); refine list_run_g (by rfl) _ (run_build00 rfl _) ?_)
    | (go_at_call 81; refine (HNODE.out _ HC5.out).mono ?_; rintro e w6 ⟨rfl, hb6⟩; have HB6 := Lib.hid (below_next HB5.out hb6); clear hb6)
    | (go_at_call 81; refine (HNODE.out _ HC4.out).mono ?_; rintro e w5 ⟨rfl, hb5⟩; have HB5 := Lib.hid (below_next HB4.out hb5); have HC5 := Lib.hid (Kd.C_below HC4.out hb5); clear hb5)
    | ((with_reducible refine gate_dst (N := 23) rfl ?_); refine list_run_g (by rfl) (.bool true) ((run_eql_arrs 24 _ _ _ rfl .u8 X X rfl rfl (by kernel_rfl) 32 5 Try.underlying24 Try.underlying5 (by kernel_rfl) HXL.out HXL.out _).trans (by rw [decide_eq_true rfl])) ?_)
    | ((with_reducible refine gate_dst (N := 27) rfl ?_); refine list_run_g (by rfl) _ (run_build00 rfl _) ?_)
    | ((with_reducible refine gate_dst (N := 29) rfl ?_); refine list_run_g (by rfl) _ (run_build0 rfl _) ?_)
    | ((with_reducible refine gate_dst (N := 30) rfl ?_); refine list_run_g (by rfl) (.bool true) ((run_neq_arrs 24 _ _ _ rfl .u8 X (List.replicate 32 0) rfl rfl (by kernel_rfl) 32 5 Try.underlying24 Try.underlying5 (by kernel_rfl) HXL.out rfl _).trans (by rw [decide_eq_false HNE.out]; rfl)) ?_))
  go_ret
  exact ⟨rfl, HB6.out⟩
end Go.Proofs.Ytoiiacbbfhlocaa.HMa
end
section
set_option linter.unusedVariables false
set_option linter.unusedSimpArgs false
namespace Go.Proofs.Ytoiiacbbfhlocaa.Kit
open Go.RowKit Go.Proofs.YtoiiacbbfhlocaaW.PrintWords Go.WideMaps
section
variable {H : Type} {enc : TypeId × Value → H} {P : Program} {k e : TypeId} {n : Nat} {q : IntKind} {W : World} {base : Nat} {sp : Nat → Bool} {held : Bool}
theorem cells_nums (he : P.underlying e = some (.int q)) {m : Nat} {cs : List Value} : ∀ (L : List Nat) (xs : List (DataW H × List MemPlace)),
    L.mapM (fun i => DataW.trod enc P W base sp held m e ((cs.drop (i * 1)).take 1)) = some xs → ∃ zs : List Int, zs.length = L.length ∧ (∀ (j i : Nat), L[j]? = some i → cs[i]? = some (Value.int q (zs.getD j 0))) ∧ ∀ z ∈ zs, (Lit.int q z).wf = true
  | [], xs, h => ⟨[], rfl, fun j i hj => by simp at hj, fun z hz => by simp at hz⟩
  | i :: L, xs, h => by
    rw [List.mapM_cons] at h
    simp only [bind, Option.bind_eq_some_iff, pure, Option.some.injEq] at h
    obtain ⟨y, hy, ys, hys, rfl⟩ := h
    obtain ⟨zs, hl, hc, hw⟩ := cells_nums he L ys hys
    obtain ⟨a, ea, rfl, wa⟩ := DataW.trod_int he hy
    refine ⟨a :: zs, by simp [hl], fun j i' hj => ?_, fun z hz => ?_⟩
    · cases j with
      | zero =>
        simp at hj
        subst hj
        have e1 : (cs.drop i)[0]? = some (.int q a) := by
          have h2 := congrArg (fun l : List Value => l[0]?) ea
          simpa [List.getElem?_take] using h2
        simpa using e1
      | succ j => exact hc j i' (by simpa using hj)
    · rcases List.mem_cons.1 hz with rfl | hz
      · exact wa
      · exact hw z hz
theorem open_nums (A : ArrKey P k e n) (he : P.underlying e = some (.int q)) {r : Reach} {b0 : Nat} {v : Value} (hval : Value.okWide P W r b0 k v) {d : DataW H} {ps : List MemPlace} (hd : DataW.Trod enc P W base sp held k v d ps) :
    ∃ zs : List Int, v = .agg (nums q zs).toArray ∧ zs.length = n ∧ ∀ z ∈ zs, (Lit.int q z).wf = true := by
  obtain ⟨xs, rfl, hn⟩ := okWide_arr A hval
  obtain ⟨fuel, hf⟩ := hd
  cases fuel with
  | zero => simp [DataW.trod] at hf
  | succ m =>
    rw [DataW.trod_step] at hf
    unfold DataW.trodStep at hf
    simp only [A.hu, Value.cells] at hf
    rw [if_pos (by rw [A.size]; simpa using hn)] at hf
    simp only [Option.map_eq_some_iff, A.one] at hf
    obtain ⟨ys, hy, e1⟩ := hf
    obtain ⟨zs, hl, hc, hw⟩ := cells_nums he _ ys hy
    have hzl : zs.length = n := by simpa using hl
    refine ⟨zs, ?_, hzl, hw⟩
    congr 1
    apply Array.ext'
    simp only [nums]
    apply List.ext_getElem?
    intro j
    by_cases hj : j < n
    · have := hc j j (by simp [hj])
      rw [this]
      simp [hzl, hj]
    · rw [List.getElem?_eq_none (by simp; omega), List.getElem?_eq_none (by simp; omega)]
end
end Go.Proofs.Ytoiiacbbfhlocaa.Kit
end
section
set_option linter.unusedVariables false
set_option linter.unusedSimpArgs false
namespace Go.Proofs.Ytoiiacbbfhlocaa.Kit
open Go.RowKit Go.Proofs.YtoiiacbbfhlocaaW.PrintWords Go.WideMaps
section
variable {H : Type} {enc : TypeId × Value → H} {P : Program} {t e : TypeId} {W : World} {base : Nat} {sp : Nat → Bool} {held : Bool}
theorem choose_list {α : Type} {p : Nat → α → Prop} : ∀ (n : Nat), (∀ i, i < n → ∃ x, p i x) → ∃ l : List α, l.length = n ∧ ∀ (i : Nat) (x : α), l[i]? = some x → p i x
  | 0, _ => ⟨[], rfl, fun i x h => by simp at h⟩
  | n + 1, h => by
    obtain ⟨l, hl, hp⟩ := choose_list n (fun i hi => h i (by omega))
    obtain ⟨x, hx⟩ := h n (by omega)
    refine ⟨l ++ [x], by simp [hl], fun i y hy => ?_⟩
    rcases Nat.lt_or_ge i n with hi | hi
    · rw [List.getElem?_append_left (by omega)] at hy
      exact hp i y hy
    · rw [List.getElem?_append_right (by omega)] at hy
      have : i - l.length = 0 := by
        rcases Nat.eq_zero_or_pos (i - l.length) with h0 | h0
        · exact h0
        · rw [List.getElem?_eq_none (by simp; omega)] at hy; cases hy
      rw [this] at hy
      obtain rfl : i = n := by omega
      simp only [List.getElem?_cons_zero, Option.some.injEq] at hy
      rw [← hy]; exact hx
end
end Go.Proofs.Ytoiiacbbfhlocaa.Kit
end
section
set_option linter.unusedVariables false
set_option linter.unusedSimpArgs false
namespace Go.Proofs.Ytoiiacbbfhlocaa.Kit
open Go.RowKit Go.Proofs.YtoiiacbbfhlocaaW.PrintWords Go.WideMaps
section
variable {H : Type} {enc : TypeId × Value → H} {P : Program} {t e q : TypeId} {W : World} {base : Nat} {sp : Nat → Bool} {held : Bool}
theorem cells_bytes {n m : Nat} (he : P.underlying e = some (.array n q)) (hq : P.underlying q = some (.int .u8)) (cq : P.cellsOf q = 1) (ce : P.cellsOf e = n) {cs : List Value} {x : DataW H × List MemPlace} (h : DataW.trod enc P W base sp held m e cs = some x) :
    ∃ zs : List Int, cs = nums .u8 zs ∧ zs.length = n ∧ ∀ y ∈ zs, (Lit.int .u8 y).wf = true := by
  obtain ⟨xs, m', -, -, hl, hxl, hg⟩ := DataW.trod_array he h
  rw [ce] at hl
  obtain ⟨zs, hz, hp⟩ := choose_list (α := Int) (p := fun i z => cs[i]? = some (.int .u8 z) ∧ (Lit.int .u8 z).wf = true) n (fun i hi => by
    have h1 := hg i hi
    rw [cq, List.getElem?_eq_getElem (by omega)] at h1
    obtain ⟨a, ea, -, wa⟩ := DataW.trod_int hq h1
    refine ⟨a, ?_, wa⟩
    have h2 := congrArg (fun l : List Value => l[0]?) ea
    simpa [List.getElem?_take] using h2)
  refine ⟨zs, ?_, hz, fun y hy => ?_⟩
  · apply List.ext_getElem?
    intro j
    by_cases hj : j < n
    · obtain ⟨y, hy⟩ : ∃ y, zs[j]? = some y := ⟨_, List.getElem?_eq_getElem (by omega)⟩
      rw [(hp j y hy).1, nums, List.getElem?_map, hy]
      rfl
    · rw [List.getElem?_eq_none (by omega), List.getElem?_eq_none (by simp [nums]; omega)]
  · obtain ⟨j, hj, rfl⟩ := List.getElem_of_mem hy
    exact (hp j _ (List.getElem?_eq_getElem hj)).2
theorem plain_ad {ad : Addr} {W : World} {v : Value} (h : W.cell? (ad.add 0) = some v) : ad = ⟨ad.block, ad.off, none⟩ := by
  obtain ⟨bb, off, s⟩ := ad
  cases s with
  | none => rfl
  | some s =>
    exfalso
    unfold Addr.add at h
    simp only [if_pos] at h
    unfold World.cell? at h
    split at h <;> simp at h
theorem open_arrs {n s : Nat} {p : List Value → List Int → Prop} (ht : P.underlying t = some (.slice e)) (ce : P.cellsOf e = s) (hs : 0 < s) (hp : ∀ m cs x, cs.length = s → DataW.trod enc P W base sp held m e cs = some x → ∃ zs : List Int, cs = nums .u8 zs ∧ zs.length = s ∧ ∀ y ∈ zs, (Lit.int .u8 y).wf = true)
    {a : Option Addr} {len cap : Nat} {d : DataW H} {pl : List MemPlace} (h : DataW.Trod enc P W base sp held t (.slice a len cap) d pl) :
    ∃ z : List (List Int), z.length = len ∧ len ≤ cap ∧ (∀ (i : Nat) (x : List Int), z[i]? = some x → ∃ b o, a = some ⟨b, o, none⟩ ∧ W.rangeAt b (o + i * s) (nums .u8 x)) ∧ (∀ x ∈ z, x.length = s) ∧ ∀ x ∈ z, Bytes x := by
  obtain ⟨fuel, hf⟩ := h
  rcases Go.Deep.open_slice ht hf with ⟨hcs, -⟩ | ⟨ad, l, c, m, k, D, Pl, hcs, -, hl, hm, hmm, -, hi⟩
  · simp [Value.cells] at hcs
    obtain ⟨rfl, rfl, rfl⟩ := hcs
    exact ⟨[], rfl, Nat.le_refl _, fun i cs h => by simp at h, by simp, by simp⟩
  · simp [Value.cells] at hcs
    obtain ⟨rfl, rfl, rfl⟩ := hcs
    rw [ce] at hi
    have hle : len ≤ m := by rw [hmm]; split <;> omega
    obtain ⟨z, hz, hzp⟩ := choose_list (α := List Int) (p := fun i x => W.cells? base (ad.add (i * s)) s = some (nums .u8 x) ∧ x.length = s ∧ ∀ y ∈ x, (Lit.int .u8 y).wf = true) len (fun i h => by
      obtain ⟨cs, h1, h2⟩ := hi i (by omega)
      obtain ⟨-, hlen, -⟩ := World.cells?_some h1
      obtain ⟨zs, rfl, h3, h4⟩ := hp _ cs _ hlen h2
      exact ⟨zs, h1, h3, h4⟩)
    refine ⟨z, hz, hl, fun i x hx => ?_, fun x hx => ?_, fun x hx => ?_⟩
    · obtain ⟨h1, h2, -⟩ := hzp i x hx
      obtain ⟨-, -, hat⟩ := World.cells?_some h1
      have hi0 : 0 < z.length := Nat.lt_of_le_of_lt (Nat.zero_le i) (List.getElem?_eq_some_iff.1 hx).1
      have he : ad = ⟨ad.block, ad.off, none⟩ := by
        obtain ⟨k1, k2, -⟩ := hzp 0 _ (List.getElem?_eq_getElem hi0)
        obtain ⟨-, -, kat⟩ := World.cells?_some k1
        have := kat 0 hs
        rw [add_add, Nat.zero_mul, Nat.add_zero, nums, List.getElem?_map, List.getElem?_eq_getElem (by omega)] at this
        exact plain_ad this
      obtain ⟨b, o, sp'⟩ := ad
      cases he
      refine ⟨b, o, rfl, fun j v hv => ?_⟩
      have hj : j < s := by
        have := (List.getElem?_eq_some_iff.1 hv).1
        simp [nums] at this
        omega
      have := hat j hj
      rw [add_add, hv, Addr.add_mid, ← Nat.add_assoc] at this
      exact this
    · obtain ⟨j, hj, rfl⟩ := List.getElem_of_mem hx
      exact (hzp j _ (List.getElem?_eq_getElem hj)).2.1
    · obtain ⟨j, hj, rfl⟩ := List.getElem_of_mem hx
      exact bytes_of_wf (hzp j _ (List.getElem?_eq_getElem hj)).2.2
theorem open_tags {n : Nat} (ht : P.underlying t = some (.slice e)) (he : P.underlying e = some (.array n q)) (hq : P.underlying q = some (.int .u8)) (cq : P.cellsOf q = 1) (ce : P.cellsOf e = n) (hn : 0 < n)
    {a : Option Addr} {len cap : Nat} {d : DataW H} {pl : List MemPlace} (h : DataW.Trod enc P W base sp held t (.slice a len cap) d pl) :
    ∃ z : List (List Int), z.length = len ∧ len ≤ cap ∧ (∀ (i : Nat) (x : List Int), z[i]? = some x → ∃ b o, a = some ⟨b, o, none⟩ ∧ W.rangeAt b (o + i * n) (nums .u8 x)) ∧ (∀ x ∈ z, x.length = n) ∧ ∀ x ∈ z, Bytes x :=
  open_arrs (n := 0) (p := fun _ _ => True) ht ce hn (fun m cs x _ h => cells_bytes he hq cq ce h) h
theorem open_fours {n : Nat} {e2 : TypeId} (ht : P.underlying t = some (.slice e2)) (he2 : P.underlying e2 = some (.array 4 e)) (he : P.underlying e = some (.array n q)) (hq : P.underlying q = some (.int .u8)) (cq : P.cellsOf q = 1) (ce : P.cellsOf e = n) (ce2 : P.cellsOf e2 = 4 * n) (hn : 0 < n)
    {a : Option Addr} {len cap : Nat} {d : DataW H} {pl : List MemPlace} (h : DataW.Trod enc P W base sp held t (.slice a len cap) d pl) :
    ∃ z : List (List Int), z.length = len ∧ len ≤ cap ∧ (∀ (i : Nat) (x : List Int), z[i]? = some x → ∃ b o, a = some ⟨b, o, none⟩ ∧ W.rangeAt b (o + i * (4 * n)) (nums .u8 x)) ∧ (∀ x ∈ z, x.length = 4 * n) ∧ ∀ x ∈ z, Bytes x :=
  open_arrs (n := 0) (p := fun _ _ => True) ht ce2 (by omega) (fun m cs x hlen h => by
    obtain ⟨xs, m', -, -, -, hxl, hg⟩ := DataW.trod_array he2 h
    rw [ce] at hg
    have h4 : ∀ i, i < 4 → ∃ zs : List Int, (cs.drop (i * n)).take n = nums .u8 zs ∧ zs.length = n ∧ ∀ y ∈ zs, (Lit.int .u8 y).wf = true := fun i hi => by
      have h1 := hg i hi
      rw [List.getElem?_eq_getElem (by omega)] at h1
      exact cells_bytes he hq cq ce h1
    obtain ⟨z0, e0, l0, w0⟩ := h4 0 (by omega)
    obtain ⟨z1, e1, l1, w1⟩ := h4 1 (by omega)
    obtain ⟨z2, e2', l2, w2⟩ := h4 2 (by omega)
    obtain ⟨z3, e3, l3, w3⟩ := h4 3 (by omega)
    refine ⟨z0 ++ z1 ++ z2 ++ z3, ?_, by simp; omega, fun y hy => ?_⟩
    · have hc : cs = (cs.drop (0 * n)).take n ++ (cs.drop (1 * n)).take n ++ (cs.drop (2 * n)).take n ++ (cs.drop (3 * n)).take n := by
        have d1 : ∀ (l : List Value) (k : Nat), l.drop k = (l.drop k).take n ++ l.drop (k + n) := fun l k => by
          rw [← List.drop_drop, List.take_append_drop]
        have f0 := d1 cs (0 * n)
        have f1 := d1 cs (1 * n)
        have f2 := d1 cs (2 * n)
        have f3 : (cs.drop (3 * n)).take n = cs.drop (3 * n) := List.take_of_length_le (by rw [List.length_drop]; omega)
        rw [f3, List.append_assoc, List.append_assoc]
        rw [show 0 * n + n = 1 * n by omega] at f0
        rw [show 1 * n + n = 2 * n by omega] at f1
        rw [show 2 * n + n = 3 * n by omega] at f2
        rw [← f2, ← f1, ← f0]
        simp
      rw [hc, e0, e1, e2', e3]
      simp [nums]
    · rcases List.mem_append.1 hy with hy | hy
      · rcases List.mem_append.1 hy with hy | hy
        · rcases List.mem_append.1 hy with hy | hy
          · exact w0 y hy
          · exact w1 y hy
        · exact w2 y hy
      · exact w3 y hy) h
end
end Go.Proofs.Ytoiiacbbfhlocaa.Kit
end
section
set_option linter.unusedVariables false
set_option linter.unusedSimpArgs false
namespace Go.Proofs.Ytoiiacbbfhlocaa.HMa
open Go.RowKit Go.Shelf Go.Proofs.YtoiiacbbfhlocaaW.PrintWords Go.Proofs.YtoiiacbbfhlocaaW.PrintLast Go.Proofs.YtoiiacbbfhlocaaW.PrintMore Go.Proofs.Ytoiiacbbfhlocaa.Kit Go.Proofs.Ytoiiacbbfhlocaa.HHa Go.Proofs.Ytoiiacbbfhlocaa.HSa Go.Proofs.Ytoiiacbbfhlocaa.Mr
attribute [local irreducible] sumF padX inF hmF jN jF kF padK nodeF
set_option maxRecDepth 100000 in
theorem mchecks_big (A0 : Option Addr) (kn c0 : Nat) (A1 : Option Addr) (n1 c1 : Nat) (place : Int) (leaf root : List Int) (w : World) (h : 100 < kn ∨ 6 < n1) :
    Calls Try.prog 13 #[.slice A0 kn c0, .slice A1 n1 c1, .int .i64 place, .agg (nums .u8 leaf).toArray, .agg (nums .u8 root).toArray] w (TellsB true w) := by
  by_cases h0 : 100 < kn
  rotate_left
  have h1 : 6 < n1 := by omega
  all_goals
    go_enter Try.func13, Try.ntmps13
    go_wp2_with (first
      | ((with_reducible refine gate_dst (N := 8) rfl ?_); refine arr_new rfl 24 .u8 leaf (by first | (go_simp; done) | (go_simp; rfl)) ?_; intro w1 hA1 hB1; have HB1 := Lib.hid hB1; clear hA1 hB1)
      | ((with_reducible refine gate_dst (N := 9) rfl ?_); refine arr_new rfl 24 .u8 root (by first | (go_simp; done) | (go_simp; rfl)) ?_; intro w2 hA2 hB2; have HB2 := Lib.hid (below_next HB1.out hB2); clear hA2 hB2)
      | (go_at_call 68; refine (knows8_any _).mono ?_; rintro e w3 ⟨rfl, hb3⟩; have HB3 := Lib.hid (below_next HB2.out hb3); clear hb3))
    go_ret
    exact ⟨rfl, HB3.out⟩
set_option maxRecDepth 100000 in
set_option maxHeartbeats 4000000 in
theorem mchecks_few (A0 : Option Addr) (c0 : Nat) (key : List Int) (A1 : Option Addr) (c1 : Nat) (z : List (List Int)) (place : Int) (leaf root : List Int) (w : World) (hr : Kd.C (Kd.int .u8) w A0 key.length key) (hc : key.length ≤ c0) (hl : key.length ≤ 100) (hkb : Bytes key)
    (hz : Rows8 128 w A1 z) (hn1 : z.length ≤ 6) (hz8 : ∀ x ∈ z, x.length = 128) (hzb : ∀ x ∈ z, Bytes x) (hll : leaf.length = 32) (hrl : root.length = 32) (hlb : Bytes leaf) (hrb : Bytes root) (hp : place ≤ 9223372036854775807) :
    Calls Try.prog 13 #[.slice A0 key.length c0, .slice A1 z.length c1, .int .i64 place, .agg (nums .u8 leaf).toArray, .agg (nums .u8 root).toArray] w (TellsB true w) := by
  have HR := Lib.hid hr
  have HZ := Lib.hid hz
  have HZ8 := Lib.hid hz8
  have HLL := Lib.hid hll
  have HRL := Lib.hid hrl
  have hck : ∀ (rt : List Int), rt.length = 32 → ∀ W, Below w.heap.size w W → Calls Try.prog 79 #[.slice A0 key.length c0, .slice A1 z.length c1, .int .i64 place, .agg (nums .u8 leaf).toArray, .agg (nums .u8 rt).toArray] W (TellsB (wayF key rt z place leaf) W) := fun rt h32 W hW => check_any A0 c0 key A1 z.length c1 z place leaf rt W (Kd.C_below hr hW) hc (by omega) (hz.next hW) rfl (by omega) hz8 hll h32 hp
  have hrc : ∀ (rt : List Int), Bytes rt → ∀ (g : Nat) (AK : Option Addr) (cK : Nat) (AR : Option Addr) (cR : Nat) (AC : Option Addr) (cC : Nat) (Aw : Option Addr) (cw : Nat) (W : World), KeyAt W g (padK key) AK cK AR cR AC cC → SWay W Aw z → Calls Try.prog 80 #[.pointer (some ⟨g, 0, none⟩), .slice Aw z.length cw, .int .i64 place, .string (strOfNums leaf), .string (strOfNums rt)] W (TellsB (wayF key rt z place leaf) W) := fun rt hb g AK cK AR cR AC cC Aw cw W hK hS => rcheck_any g key AK cK AR cR AC cC Aw z.length cw z place leaf rt W hK hkb hS rfl (by omega) hz8 hzb hlb hb hp
  have hnew := new_any A0 c0 key
  have hways := ways_any A1 z.length c1 z
  have hnode := node_any A0 c0 key
  have HTB := Lib.hid (fun x => nodeF_bytes key x)
  have HTL := Lib.hid (fun x => nodeF_length key x)
  obtain ⟨kn, hkn⟩ : ∃ n, n = key.length := ⟨_, rfl⟩
  obtain ⟨n1, hnn⟩ : ∃ n, n = z.length := ⟨_, rfl⟩
  have HKN := Lib.hid hkn
  have HNN := Lib.hid hnn
  rw [← hnn] at hways hn1 ⊢
  rw [← hkn] at hl hnode hnew ⊢
  simp only [← hkn, ← hnn] at hck
  simp only [← hnn] at hrc
  have HCK := Lib.hid hck
  have HRC := Lib.hid hrc
  have HNEW := Lib.hid (show ∀ W, Below w.heap.size w W → Calls _ _ _ W (NewOut W (padK key)) from fun W hW => hnew W (by have := Kd.C_below HR.out hW; rw [← HKN.out] at this; exact this) (by omega) (by omega) hkb)
  have HWAYS := Lib.hid (show ∀ W, Below w.heap.size w W → Calls _ _ _ W (GivesW z W) from fun W hW => hways W (HZ.out.next hW) rfl (by omega) HZ8.out)
  have HNODE := Lib.hid (show ∀ W, Below w.heap.size w W → ∀ x, x.length = 128 → Calls _ _ _ W (GivesArr .u8 (nodeF key x) W) from fun W hW x hx => hnode x hx W (by have := Kd.C_below HR.out hW; rw [← HKN.out] at this; exact this) (by omega) (by omega))
  have HRB := Lib.hid hrb
  clear hr hz hz8 hll hrl hck hrc hnew hways hnode hkn hnn hzb hlb hrb hkb
  go_enter Try.func13, Try.ntmps13
  go_wp2_with (first
    | ((with_reducible refine gate_dst (N := 8) rfl ?_); refine arr_new rfl 24 .u8 leaf (by first | (go_simp; done) | (go_simp; rfl)) ?_; intro w1 hA1 hB1; have HA1 := Lib.hid hA1; have HB1 := Lib.hid hB1; clear hA1 hB1)
    | ((with_reducible refine gate_dst (N := 9) rfl ?_); refine arr_new rfl 24 .u8 root (by first | (go_simp; done) | (go_simp; rfl)) ?_; intro w2 hA2 hB2; have HA2 := Lib.hid hA2; have HL2 := Lib.hid (HA1.out.next hB2); have HB2 := Lib.hid (below_next HB1.out hB2); clear hA2 hB2)
    | (go_at_call 69; refine (HNEW.out _ HB2.out).mono ?_; rintro e w3 ⟨gk, AK, cK, AR, cR, AC, cC, rfl, hK3, hb3⟩; have HK3 := Lib.hid hK3; have HL3 := Lib.hid (HL2.out.next hb3); have HR3 := Lib.hid (HA2.out.next hb3); have HB3 := Lib.hid (below_next HB2.out hb3); clear hK3 hb3)
    | (go_at_call 77; refine (HWAYS.out _ HB3.out).mono ?_; rintro e w5 ⟨Aw, cw, rfl, hcw, hS5, hb5⟩; have HS5 := Lib.hid hS5; have HK5 := Lib.hid (HK3.out.next hb5); have HL5 := Lib.hid (HL3.out.next hb5); have HR5 := Lib.hid (HR3.out.next hb5); have HB5 := Lib.hid (below_next HB3.out hb5); clear hS5 hb5))
  rw [← HNN.out]
  obtain ⟨RES, hRES⟩ : ∃ b, b = wayF key root z place leaf := ⟨_, rfl⟩
  have HCK5 := Lib.hid (show ∀ W, Below w5.heap.size w5 W → Calls _ _ _ W (TellsB RES W) from fun W hW => by rw [hRES]; exact HCK.out root HRL.out W (below_next HB5.out hW))
  have HRC5 := Lib.hid (show ∀ W, Below w5.heap.size w5 W → Calls _ _ _ W (TellsB RES W) from fun W hW => by rw [hRES]; exact HRC.out root HRB.out gk AK cK AR cR AC cC Aw cw W (HK5.out.next hW) (HS5.out.next hW))
  clear hRES HA1 HA2 HL2 HB1 HB2 HK3 HL3 HR3 HB3 HNEW HWAYS
  obtain ⟨g8, hg8⟩ : ∃ g, g = w.heap.size := ⟨_, rfl⟩
  obtain ⟨g9, hg9⟩ : ∃ g, g = w1.heap.size := ⟨_, rfl⟩
  rw [← hg8] at HL5 ⊢
  rw [← hg9] at HR5 ⊢
  clear hg8 hg9
  refine chain_region (by kernel_rfl) 15 (by kernel_rfl) ?_
  refine chain_take 0 (_) rfl (by kernel_rfl) (by kernel_rfl) (by kernel_rfl) (fun _ _ _ h => h) rfl (fun w' hw' => run_move_at _ rfl w') ?_
  simp only [Act.put, List.setIfInBounds_toArray, List.set_cons_zero, List.set_cons_succ]
  refine chain_take 1 (_) rfl (by kernel_rfl) (by kernel_rfl) (by kernel_rfl) (fun _ _ _ h => h) rfl (fun w' hw' => run_move_at _ rfl w') ?_
  simp only [Act.put, List.setIfInBounds_toArray, List.set_cons_zero, List.set_cons_succ]
  refine chain_take 2 (_) rfl (by kernel_rfl) (by kernel_rfl) (by kernel_rfl) (fun _ _ _ h => h) rfl (fun w' hw' => run_move_at _ rfl w') ?_
  simp only [Act.put, List.setIfInBounds_toArray, List.set_cons_zero, List.set_cons_succ]
  refine chain_take 3 (.agg (nums .u8 leaf).toArray) rfl (by kernel_rfl) (by kernel_rfl) (by kernel_rfl) (fun _ _ _ h => h) rfl (fun w' hw' => run_load_row 24 _ rfl g8 rfl .u8 _ _ leaf (HL5.out.drew.next hw') Try.underlying24 rfl (by rw [HLL.out]; kernel_rfl)) ?_
  simp only [Act.put, List.setIfInBounds_toArray, List.set_cons_zero, List.set_cons_succ]
  refine chain_take 4 (.agg (nums .u8 root).toArray) rfl (by kernel_rfl) (by kernel_rfl) (by kernel_rfl) (fun _ _ _ h => h) rfl (fun w' hw' => run_load_row 24 _ rfl g9 rfl .u8 _ _ root (HR5.out.drew.next hw') Try.underlying24 rfl (by rw [HRL.out]; kernel_rfl)) ?_
  simp only [Act.put, List.setIfInBounds_toArray, List.set_cons_zero, List.set_cons_succ]
  refine chain_take 6 (_) rfl (by kernel_rfl) (by kernel_rfl) (by kernel_rfl) (fun _ _ _ h => h) rfl (fun w' hw' => run_move_at _ rfl w') ?_
  simp only [Act.put, List.setIfInBounds_toArray, List.set_cons_zero, List.set_cons_succ]
  refine chain_take 7 (_) rfl (by kernel_rfl) (by kernel_rfl) (by kernel_rfl) (fun _ _ _ h => h) rfl (fun w' hw' => run_move_at _ rfl w') ?_
  simp only [Act.put, List.setIfInBounds_toArray, List.set_cons_zero, List.set_cons_succ]
  refine chain_take 8 (_) rfl (by kernel_rfl) (by kernel_rfl) (by kernel_rfl) (fun _ _ _ h => h) rfl (fun w' hw' => run_move_at _ rfl w') ?_
  simp only [Act.put, List.setIfInBounds_toArray, List.set_cons_zero, List.set_cons_succ]
  refine chain_take 9 (.slice (some ⟨g8, 0, none⟩) 32 32) rfl (by kernel_rfl) (by kernel_rfl) (by kernel_rfl) (fun _ _ _ h => h) rfl (fun w' hw' => by (have hc0 := Try.underlying24; unfold execOp; simp [go_sem, Act.put, Act.eval, hc0])) ?_
  simp only [Act.put, List.setIfInBounds_toArray, List.set_cons_zero, List.set_cons_succ]
  refine chain_take 10 (.string (strOfNums leaf)) rfl (by kernel_rfl) (by kernel_rfl) (by kernel_rfl) (fun _ _ _ h => h) rfl (fun w' hw' => by (have hc0 := Kd.C_string (P := Try.prog) (dst := 9) (c := 32) Try.underlying29 Try.underlying5 Try.underlying9 ((HL5.out.drew.next hw').reads 32 HLL.out (by decide)); unfold execOp; simp [go_sem, Act.put, Act.eval, hc0])) ?_
  simp only [Act.put, List.setIfInBounds_toArray, List.set_cons_zero, List.set_cons_succ]
  refine chain_take 11 (.slice (some ⟨g9, 0, none⟩) 32 32) rfl (by kernel_rfl) (by kernel_rfl) (by kernel_rfl) (fun _ _ _ h => h) rfl (fun w' hw' => by (have hc0 := Try.underlying24; unfold execOp; simp [go_sem, Act.put, Act.eval, hc0])) ?_
  simp only [Act.put, List.setIfInBounds_toArray, List.set_cons_zero, List.set_cons_succ]
  refine chain_take 12 (.string (strOfNums root)) rfl (by kernel_rfl) (by kernel_rfl) (by kernel_rfl) (fun _ _ _ h => h) rfl (fun w' hw' => by (have hc0 := Kd.C_string (P := Try.prog) (dst := 9) (c := 32) Try.underlying29 Try.underlying5 Try.underlying9 ((HR5.out.drew.next hw').reads 32 HRL.out (by decide)); unfold execOp; simp [go_sem, Act.put, Act.eval, hc0])) ?_
  simp only [Act.put, List.setIfInBounds_toArray, List.set_cons_zero, List.set_cons_succ]
  refine chain_call 5 rfl (by kernel_rfl) rfl 79 _ _ Try.func79 (by kernel_rfl) rfl _ _ #[.slice A0 kn c0, .slice A1 n1 c1, .int .i64 place, .agg (nums .u8 leaf).toArray, .agg (nums .u8 root).toArray] rfl (by simp [Act.put, Act.eval]) (HCK5.out _ (below_drew (Below.refl _ _))) ?_
  rintro e W1 ⟨rfl, hB1⟩
  refine ⟨_, rfl, hB1, ?_⟩
  simp only [Act.put, List.setIfInBounds_toArray, List.set_cons_zero, List.set_cons_succ]
  refine chain_call 13 rfl (by kernel_rfl) rfl 80 _ _ Try.func80 (by kernel_rfl) rfl _ _ #[.pointer (some ⟨gk, 0, none⟩), .slice Aw n1 cw, .int .i64 place, .string (strOfNums leaf), .string (strOfNums root)] rfl (by simp [Act.put, Act.eval]) (HRC5.out _ (below_next (below_drew (Below.refl _ _)) hB1)) ?_
  rintro e W2 ⟨rfl, hB2⟩
  refine ⟨_, rfl, hB2, ?_⟩
  simp only [Act.put, List.setIfInBounds_toArray, List.set_cons_zero, List.set_cons_succ]
  refine chain_take 14 (.bool false) rfl (by kernel_rfl) (by kernel_rfl) (by kernel_rfl) (fun _ _ _ h => h) rfl (fun w' hw' => by (unfold execOp; simp [go_sem, Act.put, Act.eval])) ?_
  simp only [Act.put, List.setIfInBounds_toArray, List.set_cons_zero, List.set_cons_succ]
  refine chain_done (by kernel_rfl) ?_
  have HB6 := Lib.hid (below_next HB5.out (below_next (below_drew (Below.refl _ _)) (below_next hB1 hB2)))
  have HL6 := Lib.hid (HL5.out.drew.next (below_next hB1 hB2))
  have HK6 := Lib.hid (HK5.out.drew.next (below_next hB1 hB2))
  have HS6 := Lib.hid (HS5.out.next (below_next (below_drew (Below.refl _ w5)) (below_next hB1 hB2)))
  obtain ⟨w6, hw6⟩ : ∃ W : World, W = W2 := ⟨_, rfl⟩
  subst hw6
  clear hB1 hB2 HB5 HL5 HK5 HS5 HR5 HCK5 HRC5
  by_cases h0 : n1 = 0
  · have h0z : (n1 : Int) = 0 := by omega
    go_wp2_with (go_at_call 68; refine (knows8_any _).mono ?_; rintro e w7 ⟨rfl, hb7⟩; have HB7 := Lib.hid (below_next HB6.out hb7); clear hb7)
    go_ret
    exact ⟨rfl, HB7.out⟩
  · have h0z : ¬ (n1 : Int) = 0 := by omega
    obtain ⟨i, hi⟩ : ∃ i, i = n1 - 1 := ⟨_, rfl⟩
    have hi1 : (n1 : Int) - 1 = (i : Int) := by omega
    have hi2 : (i : Int) < (n1 : Int) := by omega
    have hi3 : ¬ (i : Int) < 0 := by omega
    have hi4 : i ≤ 9223372036854775807 := by omega
    obtain ⟨x, hx⟩ : ∃ x, z[i]? = some x := ⟨_, List.getElem?_eq_getElem (by rw [← HNN.out]; omega)⟩
    obtain ⟨b, o, rfl, hrange⟩ := HZ.out.next HB6.out i x hx
    have HRG := Lib.hid hrange
    have HXL := Lib.hid (HZ8.out x (List.mem_of_getElem? hx))
    obtain ⟨T, hT⟩ : ∃ T, T = nodeF key x := ⟨_, rfl⟩
    have HTT := Lib.hid (show T.length = 32 by rw [hT]; exact HTL.out x)
    have HND := Lib.hid (show ∀ W, Below w.heap.size w W → Calls _ _ _ W (GivesArr .u8 T W) from fun W hW => by rw [hT]; exact HNODE.out W hW x HXL.out)
    have HTBB := Lib.hid (show Bytes T by rw [hT]; exact HTB.out x)
    clear hx hrange hT hi
    go_wp2_with (first
      | ((with_reducible refine gate_dst (N := 52) rfl ?_); refine wpList_load_mid rfl 123 _ rfl b (o + i * 128) rfl (nums .u8 x) _ HRG.out Try.underlying123 rfl (by rw [show (nums .u8 x).length = 128 from by simp [nums, HXL.out]]; kernel_rfl) ?_)
      | (go_at_call 81; refine (HND.out _ HB6.out).mono ?_; rintro e w7 ⟨rfl, hb7⟩; have HL7 := Lib.hid (HL6.out.next hb7); have HK7 := Lib.hid (HK6.out.next hb7); have HS7 := Lib.hid (HS6.out.next hb7); have HB7 := Lib.hid (below_next HB6.out hb7); clear hb7)
      | ((with_reducible refine gate_dst (N := 13) rfl ?_); refine alloc_arr rfl 24 rfl .u8 (List.replicate 32 0) (fun w => Try.zeroValue24 w) (by first | (go_simp; done) | (go_simp; rfl)) ?_; intro w8 hA8 hB8; have HA8 := Lib.hid hA8; have HB8 := Lib.hid hB8; clear hA8 hB8)
      | ((with_reducible refine gate_store (t := 24) (p := 13) rfl ?_); refine store_arr rfl 24 _ _ rfl w7.heap.size .u8 T rfl rfl 24 _ HA8.out (by rw [HTT.out]; rfl) (by rw [HTT.out]; kernel_rfl) ?_; intro w9 hA9 hw9; have hB9 := below_setRow HB8.out w7.heap.size (Nat.le_refl _) (nums .u8 T).toArray; rw [← hw9] at hB9; have HR9 := Lib.hid hA9; have HL9 := Lib.hid (HL7.out.next hB9); have HK9 := Lib.hid (HK7.out.next hB9); have HS9 := Lib.hid (HS7.out.next hB9); have HB9 := Lib.hid (below_next HB7.out hB9); clear hA9 hw9 hB9))
    obtain ⟨RES, hRES⟩ : ∃ b, b = wayF key T z place leaf := ⟨_, rfl⟩
    have HCK9 := Lib.hid (show ∀ W, Below w9.heap.size w9 W → Calls _ _ _ W (TellsB RES W) from fun W hW => by rw [hRES]; exact HCK.out T HTT.out W (below_next HB9.out hW))
    have HRC9 := Lib.hid (show ∀ W, Below w9.heap.size w9 W → Calls _ _ _ W (TellsB RES W) from fun W hW => by rw [hRES]; exact HRC.out T HTBB.out gk AK cK AR cR AC cC Aw cw W (HK9.out.next hW) (HS9.out.next hW))
    clear hRES HA8 HB8 HL7 HK7 HS7 HB7 HL6 HK6 HS6 HB6
    obtain ⟨g13, hg13⟩ : ∃ g, g = w7.heap.size := ⟨_, rfl⟩
    rw [← hg13] at HR9 ⊢
    clear hg13
    refine chain_region (by kernel_rfl) 19 (by kernel_rfl) ?_
    refine chain_take 0 (_) rfl (by kernel_rfl) (by kernel_rfl) (by kernel_rfl) (fun _ _ _ h => h) rfl (fun w' hw' => run_move_at _ rfl w') ?_
    simp only [Act.put, List.setIfInBounds_toArray, List.set_cons_zero, List.set_cons_succ]
    refine chain_take 1 (_) rfl (by kernel_rfl) (by kernel_rfl) (by kernel_rfl) (fun _ _ _ h => h) rfl (fun w' hw' => run_move_at _ rfl w') ?_
    simp only [Act.put, List.setIfInBounds_toArray, List.set_cons_zero, List.set_cons_succ]
    refine chain_take 2 (_) rfl (by kernel_rfl) (by kernel_rfl) (by kernel_rfl) (fun _ _ _ h => h) rfl (fun w' hw' => run_move_at _ rfl w') ?_
    simp only [Act.put, List.setIfInBounds_toArray, List.set_cons_zero, List.set_cons_succ]
    refine chain_take 3 (.agg (nums .u8 leaf).toArray) rfl (by kernel_rfl) (by kernel_rfl) (by kernel_rfl) (fun _ _ _ h => h) rfl (fun w' hw' => run_load_row 24 _ rfl g8 rfl .u8 _ _ leaf (HL9.out.drew.next hw') Try.underlying24 rfl (by rw [HLL.out]; kernel_rfl)) ?_
    simp only [Act.put, List.setIfInBounds_toArray, List.set_cons_zero, List.set_cons_succ]
    refine chain_take 4 (.agg (nums .u8 T).toArray) rfl (by kernel_rfl) (by kernel_rfl) (by kernel_rfl) (fun _ _ _ h => h) rfl (fun w' hw' => run_load_row 24 _ rfl g13 rfl .u8 _ _ T (HR9.out.drew.next hw') Try.underlying24 rfl (by rw [HTT.out]; kernel_rfl)) ?_
    simp only [Act.put, List.setIfInBounds_toArray, List.set_cons_zero, List.set_cons_succ]
    refine chain_take 6 (_) rfl (by kernel_rfl) (by kernel_rfl) (by kernel_rfl) (fun _ _ _ h => h) rfl (fun w' hw' => run_move_at _ rfl w') ?_
    simp only [Act.put, List.setIfInBounds_toArray, List.set_cons_zero, List.set_cons_succ]
    refine chain_take 7 (_) rfl (by kernel_rfl) (by kernel_rfl) (by kernel_rfl) (fun _ _ _ h => h) rfl (fun w' hw' => run_move_at _ rfl w') ?_
    simp only [Act.put, List.setIfInBounds_toArray, List.set_cons_zero, List.set_cons_succ]
    refine chain_take 8 (_) rfl (by kernel_rfl) (by kernel_rfl) (by kernel_rfl) (fun _ _ _ h => h) rfl (fun w' hw' => run_move_at _ rfl w') ?_
    simp only [Act.put, List.setIfInBounds_toArray, List.set_cons_zero, List.set_cons_succ]
    refine chain_take 9 (.slice (some ⟨g8, 0, none⟩) 32 32) rfl (by kernel_rfl) (by kernel_rfl) (by kernel_rfl) (fun _ _ _ h => h) rfl (fun w' hw' => by (have hc0 := Try.underlying24; unfold execOp; simp [go_sem, Act.put, Act.eval, hc0])) ?_
    simp only [Act.put, List.setIfInBounds_toArray, List.set_cons_zero, List.set_cons_succ]
    refine chain_take 10 (.string (strOfNums leaf)) rfl (by kernel_rfl) (by kernel_rfl) (by kernel_rfl) (fun _ _ _ h => h) rfl (fun w' hw' => by (have hc0 := Kd.C_string (P := Try.prog) (dst := 9) (c := 32) Try.underlying29 Try.underlying5 Try.underlying9 ((HL9.out.drew.next hw').reads 32 HLL.out (by decide)); unfold execOp; simp [go_sem, Act.put, Act.eval, hc0])) ?_
    simp only [Act.put, List.setIfInBounds_toArray, List.set_cons_zero, List.set_cons_succ]
    refine chain_take 11 (.slice (some ⟨g13, 0, none⟩) 32 32) rfl (by kernel_rfl) (by kernel_rfl) (by kernel_rfl) (fun _ _ _ h => h) rfl (fun w' hw' => by (have hc0 := Try.underlying24; unfold execOp; simp [go_sem, Act.put, Act.eval, hc0])) ?_
    simp only [Act.put, List.setIfInBounds_toArray, List.set_cons_zero, List.set_cons_succ]
    refine chain_take 12 (.string (strOfNums T)) rfl (by kernel_rfl) (by kernel_rfl) (by kernel_rfl) (fun _ _ _ h => h) rfl (fun w' hw' => by (have hc0 := Kd.C_string (P := Try.prog) (dst := 9) (c := 32) Try.underlying29 Try.underlying5 Try.underlying9 ((HR9.out.drew.next hw').reads 32 HTT.out (by decide)); unfold execOp; simp [go_sem, Act.put, Act.eval, hc0])) ?_
    simp only [Act.put, List.setIfInBounds_toArray, List.set_cons_zero, List.set_cons_succ]
    refine chain_call 5 rfl (by kernel_rfl) rfl 79 _ _ Try.func79 (by kernel_rfl) rfl _ _ #[.slice A0 kn c0, .slice (some ⟨b, o, none⟩) n1 c1, .int .i64 place, .agg (nums .u8 leaf).toArray, .agg (nums .u8 T).toArray] rfl (by simp [Act.put, Act.eval]) (HCK9.out _ (below_drew (Below.refl _ _))) ?_
    rintro e W1 ⟨rfl, hB1⟩
    refine ⟨_, rfl, hB1, ?_⟩
    simp only [Act.put, List.setIfInBounds_toArray, List.set_cons_zero, List.set_cons_succ]
    refine chain_call 13 rfl (by kernel_rfl) rfl 80 _ _ Try.func80 (by kernel_rfl) rfl _ _ #[.pointer (some ⟨gk, 0, none⟩), .slice Aw n1 cw, .int .i64 place, .string (strOfNums leaf), .string (strOfNums T)] rfl (by simp [Act.put, Act.eval]) (HRC9.out _ (below_next (below_drew (Below.refl _ _)) hB1)) ?_
    rintro e W2 ⟨rfl, hB2⟩
    refine ⟨_, rfl, hB2, ?_⟩
    simp only [Act.put, List.setIfInBounds_toArray, List.set_cons_zero, List.set_cons_succ]
    refine chain_take 14 (.bool true) rfl (by kernel_rfl) (by kernel_rfl) (by kernel_rfl) (fun _ _ _ h => h) rfl (fun w' hw' => by (unfold execOp; simp [go_sem, Act.put, Act.eval])) ?_
    simp only [Act.put, List.setIfInBounds_toArray, List.set_cons_zero, List.set_cons_succ]
    refine chain_take 15 (.bool true) rfl (by kernel_rfl) (by kernel_rfl) (by kernel_rfl) (fun _ _ _ h => h) rfl (fun w' hw' => by (unfold execOp; simp [go_sem, Act.put, Act.eval])) ?_
    simp only [Act.put, List.setIfInBounds_toArray, List.set_cons_zero, List.set_cons_succ]
    refine chain_call 16 rfl (by kernel_rfl) rfl 68 _ _ Try.func68 (by kernel_rfl) rfl _ _ #[] rfl (by simp [Act.put, Act.eval]) (knows8_any _) ?_
    rintro e W3 ⟨rfl, hB3⟩
    refine ⟨_, rfl, hB3, ?_⟩
    simp only [Act.put, List.setIfInBounds_toArray, List.set_cons_zero, List.set_cons_succ]
    refine chain_take 17 (.bool true) rfl (by kernel_rfl) (by kernel_rfl) (by kernel_rfl) (fun _ _ _ h => h) rfl (fun w' hw' => by (unfold execOp; simp [go_sem, Act.put, Act.eval])) ?_
    simp only [Act.put, List.setIfInBounds_toArray, List.set_cons_zero, List.set_cons_succ]
    refine chain_take 18 (_) rfl (by kernel_rfl) (by kernel_rfl) (by kernel_rfl) (fun _ _ _ h => h) rfl (fun w' hw' => BigFrame.run_assign _ rfl w') ?_
    simp only [Act.put, List.setIfInBounds_toArray, List.set_cons_zero, List.set_cons_succ]
    refine chain_done (by kernel_rfl) ?_
    have HB10 := Lib.hid (below_next HB9.out (below_next (below_drew (Below.refl _ _)) (below_next (below_next hB1 hB2) hB3)))
    clear hB1 hB2 hB3
    go_wp2_with fail
    go_ret
    exact ⟨rfl, HB10.out⟩
theorem merkleChecks_walk (a0 : Option Addr) (len0 cap0 : Nat) (z0 : List Int) (a1 : Option Addr) (len1 cap1 : Nat) (z1 : List (List Int)) (a2 : Int) (a3 : List Int) (a4 : List Int) (w : World)
    (w0 : (a0 = none ∧ len0 = 0 ∧ cap0 = 0 ∧ z0 = []) ∨ ∃ x, a0 = some x ∧ len0 ≤ cap0 ∧ cap0 ≤ maxLen ∧ z0.length = cap0 ∧ (∀ i, i < z0.length → w.cell? (x.add i) = some (.int .u8 (z0.getD i 0))) ∧ ∀ n ∈ z0, (Lit.int .u8 n).wf = true) (y0 : len0 * 1 ≤ 140737488351232)
    (pl1 : z1.length = len1) (pc1 : len1 ≤ cap1) (w1 : Rows8 128 w a1 z1) (pn1 : ∀ x ∈ z1, x.length = 128) (pb1 : ∀ x ∈ z1, Bytes x) (w2 : (Lit.int .i64 a2).wf = true) (l3 : a3.length = 32) (b3 : Bytes a3) (l4 : a4.length = 32) (b4 : Bytes a4) :
    Calls Try.prog 13 #[.slice a0 len0 cap0, .slice a1 len1 cap1, .int .i64 a2, .agg (nums .u8 a3).toArray, .agg (nums .u8 a4).toArray] w fun e w' => e = .returned (.bool true) ∧ Below w.heap.size w w' := by
  obtain ⟨l0, hlen0, hr0, hc0, hb0⟩ := Go.Proofs.Ytoiiacbbfhlocaa.Com.reads_of_row w0
  subst hlen0
  subst pl1
  by_cases hbig : 100 < l0.length ∨ 6 < z1.length
  · exact mchecks_big a0 l0.length cap0 a1 z1.length cap1 a2 a3 a4 w hbig
  · exact mchecks_few a0 cap0 l0 a1 cap1 z1 a2 a3 a4 w hr0 hc0 (by omega) hb0 w1 (by omega) pn1 pb1 l3 l4 b3 b4 (by have := Com.range64 w2; omega)
end Go.Proofs.Ytoiiacbbfhlocaa.HMa
end
section
set_option linter.unusedVariables false
set_option linter.unusedSimpArgs false
namespace Go.Proofs.Ytoiiacbbfhlocaa.HMa
open Go.RowKit Go.Shelf Go.Proofs.YtoiiacbbfhlocaaW.PrintWords Go.Proofs.YtoiiacbbfhlocaaW.PrintLast Go.Proofs.YtoiiacbbfhlocaaW.PrintMore Go.Proofs.Ytoiiacbbfhlocaa.Kit Go.Proofs.Ytoiiacbbfhlocaa.HHa Go.Proofs.Ytoiiacbbfhlocaa.HSa Go.Proofs.Ytoiiacbbfhlocaa.Mr
theorem flat_dropm (m : Nat) : ∀ (z : List (List Int)) (k : Nat), (∀ x ∈ z, x.length = m) → (z.drop k).flatten = z.flatten.drop (k * m)
  | z, 0, _ => by simp
  | [], k + 1, _ => by simp
  | x :: z, k + 1, h => by
    have hx := h x List.mem_cons_self
    rw [List.drop_succ_cons, flat_dropm m z k (fun y hy => h y (List.mem_cons_of_mem _ hy)), List.flatten_cons, show (k + 1) * m = x.length + k * m by rw [hx, Nat.succ_mul, Nat.add_comm], List.drop_append, List.drop_eq_nil_of_le (Nat.le_add_right _ _), Nat.add_sub_cancel_left, List.nil_append]
theorem Rows8.of_own {m : Nat} {W : World} {base e n c : Nat} {A : Option Addr} {z : List (List Int)} (h : W.ownsRow base e m (.slice A n c) n (nums .u8 z.flatten)) (hn : z.length = n) (hm : ∀ x ∈ z, x.length = m) : Rows8 m W A z := fun i x hx => by
  have hi := (List.getElem?_eq_some_iff.1 hx).1
  obtain ⟨g, rfl, -, -, -⟩ := own_some h (by omega)
  refine ⟨g, 0, rfl, fun j v hv => ?_⟩
  have hxm := hm x (List.mem_of_getElem? hx)
  have hj : j < m := by
    have := (List.getElem?_eq_some_iff.1 hv).1
    simp [nums] at this
    omega
  have hc := World.ownsRow.cells h (g := g) rfl (i * m + j) v (by
    have e1 := flat_dropm m z i hm
    have e2 : (z.flatten.drop (i * m))[j]? = x[j]? := by
      rw [← e1, List.drop_eq_getElem_cons hi, List.flatten_cons, List.getElem?_append_left (by rw [(List.getElem?_eq_some_iff.1 hx).2]; omega), (List.getElem?_eq_some_iff.1 hx).2]
    rw [List.getElem?_drop] at e2
    unfold nums at hv ⊢
    rw [List.getElem?_map, e2, ← List.getElem?_map]
    exact hv)
  rw [add_plain] at hc
  rw [Nat.zero_add]
  exact hc
attribute [local irreducible] sumF padX inF hmF jN jF kF padK nodeF
set_option maxRecDepth 100000 in
theorem mroots_big (A0 : Option Addr) (kn c0 : Nat) (A1 : Option Addr) (n1 c1 : Nat) (place many : Int) (w : World) (h : 100 < kn ∨ 70 < n1 ∨ 100000 < many) :
    Calls Try.prog 12 #[.slice A0 kn c0, .slice A1 n1 c1, .int .i64 place, .int .i64 many] w (TellsB true w) := by
  by_cases h0 : 100 < kn
  rotate_left
  by_cases h1 : 70 < n1
  rotate_left
  have h2 : many > 100000 := by omega
  all_goals
    go_enter Try.func12, Try.ntmps12
    go_wp2_with (go_at_call 68; refine (knows8_any _).mono ?_; rintro e w3 ⟨rfl, hb3⟩; have HB3 := Lib.hid hb3; clear hb3)
    go_ret
    exact ⟨rfl, HB3.out⟩
set_option maxRecDepth 100000 in
set_option maxHeartbeats 4000000 in
theorem mroots_few (A0 : Option Addr) (c0 : Nat) (key : List Int) (A1 : Option Addr) (c1 : Nat) (z : List (List Int)) (place many : Int) (w : World) (hr : Kd.C (Kd.int .u8) w A0 key.length key) (hc : key.length ≤ c0) (hl : key.length ≤ 100) (hkb : Bytes key)
    (hz : Rows8 32 w A1 z) (hc1 : z.length ≤ c1) (hn1 : z.length ≤ 70) (hz8 : ∀ x ∈ z, x.length = 32) (hzb : ∀ x ∈ z, Bytes x) (hp : place ≤ 9223372036854775807) (hmany : many ≤ 100000) :
    Calls Try.prog 12 #[.slice A0 key.length c0, .slice A1 z.length c1, .int .i64 place, .int .i64 many] w (TellsB true w) := by
  have HR := Lib.hid hr
  have HZ := Lib.hid hz
  have HZ8 := Lib.hid hz8
  have hfl : ∀ W, Below w.heap.size w W → Flat W A1 z := fun W hW => Flat.of_rows (hz.next hW) hz8
  obtain ⟨hs1, hs2, hs3⟩ := hgt_small z.length (by omega)
  obtain ⟨h, hh⟩ : ∃ h, h = hgt z.length := ⟨_, rfl⟩
  rw [← hh] at hs1 hs2 hs3
  have hhe : merkle_Height.f 12 z.length = some (h : Int) := by rw [hh]; exact height_eq _ (by omega)
  have hwe : padlockref08_Whole.f 12 z.length = some (((4 ^ h : Nat) : Int), (h : Int)) := by rw [hh]; exact whole_eq _ (by omega)
  obtain ⟨R, hR⟩ : ∃ R, R = rootF key z h := ⟨_, rfl⟩
  have hroot : ∀ W, Below w.heap.size w W → Calls Try.prog 71 #[.slice A0 key.length c0, .slice A1 z.length c1] W (GivesArr .u8 R W) := fun W hW => by rw [hR]; exact root_any 12 A0 c0 key A1 c1 z h W (Kd.C_below hr hW) hc (by omega) (hfl W hW) hz8 hc1 (by omega) hhe (by omega)
  have hrr : ∀ (g : Nat) (AK : Option Addr) (cK : Nat) (AR : Option Addr) (cR : Nat) (AC : Option Addr) (cC : Nat) (A2 : Option Addr) (c2 : Nat) (W : World), KeyAt W g (padK key) AK cK AR cR AC cC → SRow W A2 z → z.length ≤ c2 → Calls Try.prog 73 #[.pointer (some ⟨g, 0, none⟩), .slice A2 z.length c2] W (TellsS R W) := fun g AK cK AR cR AC cC A2 c2 W hK hS h2 => by rw [hR]; exact rroot_any 12 g key AK cK AR cR AC cC A2 c2 z h (4 ^ h) W hK hkb hS hz8 hzb h2 (by omega) rfl hwe hs1 hs2 hs3
  have hrw : ∀ (p : Nat), p < z.length → ∀ (g : Nat) (AK : Option Addr) (cK : Nat) (AR : Option Addr) (cR : Nat) (AC : Option Addr) (cC : Nat) (A2 : Option Addr) (c2 : Nat) (W : World), KeyAt W g (padK key) AK cK AR cR AC cC → SRow W A2 z → z.length ≤ c2 → Calls Try.prog 78 #[.pointer (some ⟨g, 0, none⟩), .slice A2 z.length c2, .int .i64 p] W (GivesW (wayG key z p h) W) := fun p hp g AK cK AR cR AC cC A2 c2 W hK hS h2 => rway_any 12 g key AK cK AR cR AC cC A2 c2 z h (4 ^ h) p W hK hkb hS hz8 hzb h2 (by omega) rfl hwe hs1 hs2 hs3 hp
  have hway : ∀ (p : Nat), p < z.length → ∀ W, Below w.heap.size w W → Calls Try.prog 75 #[.slice A0 key.length c0, .slice A1 z.length c1, .int .i64 p] W (WayOut (wayG key z p h) W) := fun p hp W hW => way_any 12 A0 c0 key A1 c1 z h p W (Kd.C_below hr hW) hc (by omega) (hfl W hW) hz8 hc1 (by omega) hhe (by omega) hs1 hp
  have h128 : ∀ p, p < z.length → T128 (wayG key z p h) := fun p hp => wayG_128 key z hz8 p h hp hs1 h (Nat.le_refl _)
  have htx : ∀ W, Below w.heap.size w W → Calls Try.prog 74 #[.slice A1 z.length c1] W (GivesT z W) := fun W hW => texts_any A1 z.length c1 z W (hz.next hW) rfl (by omega) hz8
  have hht := fun W => merkle_Height.calls 12 _ _ W (height_eq many hmany)
  have hwh := fun W => padlockref08_Whole.calls 12 _ _ _ W (whole_eq many hmany)
  have hnew := new_any A0 c0 key
  have HRL := Lib.hid (show R.length = 32 by rw [hR]; exact rootF_length key z hz8 h)
  have HWL := Lib.hid (fun p => wayG_length key z p h)
  have HH8 := Lib.hid hs3
  obtain ⟨HM, hHM⟩ : ∃ x, x = ((hgt many : Nat) : Int) := ⟨_, rfl⟩
  obtain ⟨WM, hWM⟩ : ∃ x, x = ((4 ^ hgt many : Nat) : Int) := ⟨_, rfl⟩
  rw [← hHM] at hht
  simp only [← hHM, ← hWM] at hwh
  obtain ⟨kn, hkn⟩ : ∃ n, n = key.length := ⟨_, rfl⟩
  obtain ⟨n1, hnn⟩ : ∃ n, n = z.length := ⟨_, rfl⟩
  have HKN := Lib.hid hkn
  have HNN := Lib.hid hnn
  simp only [← hkn, ← hnn] at hroot hrr hrw hway htx hl hn1 h128
  rw [← hkn] at hnew
  rw [← hkn, ← hnn]
  have HROOT := Lib.hid hroot
  have HRR := Lib.hid hrr
  have HRW := Lib.hid hrw
  have HWAY := Lib.hid hway
  have H128 := Lib.hid h128
  have HTX := Lib.hid htx
  have HHT := Lib.hid hht
  have HWH := Lib.hid hwh
  have HNEW := Lib.hid (show ∀ W, Below w.heap.size w W → Calls _ _ _ W (NewOut W (padK key)) from fun W hW => hnew W (by have := Kd.C_below HR.out hW; rw [← HKN.out] at this; exact this) (by omega) (by omega) hkb)
  clear hr hz hz8 hroot hrr hrw hway htx hht hwh hnew hkn hnn hzb hkb hfl hs1 hs2 hs3 hh hhe hwe hR hHM hWM h128
  go_enter Try.func12, Try.ntmps12
  go_wp2_with (first
    | (go_at_call 69; refine (HNEW.out _ (Below.refl _ _)).mono ?_; rintro e w1 ⟨gk, AK, cK, AR, cR, AC, cC, rfl, hK1, hb1⟩; have HK1 := Lib.hid hK1; have HB1 := Lib.hid hb1; clear hK1 hb1)
    | (go_at_call 70; refine (HWH.out _).mono ?_; rintro e w2 ⟨rfl, hD2⟩; have HK2 := Lib.hid (HK1.out.next hD2.below); have HB2 := Lib.hid (below_next HB1.out hD2.below); clear hD2)
    | (go_at_call 71; refine (HROOT.out _ HB2.out).mono ?_; rintro e w3 ⟨rfl, hb3⟩; have HK3 := Lib.hid (HK2.out.next hb3); have HB3 := Lib.hid (below_next HB2.out hb3); clear hb3)
    | ((with_reducible refine gate_dst (N := 12) rfl ?_); refine alloc_arr rfl 24 rfl .u8 (List.replicate 32 0) (fun w => Try.zeroValue24 w) (by first | (go_simp; done) | (go_simp; rfl)) ?_; intro w4 hA4 hB4; have HA4 := Lib.hid hA4; have HB4 := Lib.hid hB4; clear hA4 hB4)
    | ((with_reducible refine gate_store (t := 24) (p := 12) rfl ?_); refine store_arr rfl 24 _ _ rfl w3.heap.size .u8 R rfl rfl 24 _ HA4.out (by rw [HRL.out]; rfl) (by rw [HRL.out]; kernel_rfl) ?_; intro w5 hA5 hw5; have hB5 := below_setRow HB4.out w3.heap.size (Nat.le_refl _) (nums .u8 R).toArray; rw [← hw5] at hB5; have HR5 := Lib.hid hA5; have HK5 := Lib.hid (HK3.out.next hB5); have HB5 := Lib.hid (below_next HB3.out hB5); clear hA5 hw5 hB5))
  obtain ⟨g12, hg12⟩ : ∃ g, g = w3.heap.size := ⟨_, rfl⟩
  rw [← hg12] at HR5 ⊢
  clear hg12 HK1 HB1 HK2 HB2 HK3 HB3 HA4 HB4 HNEW HWH
  refine chain_region (by kernel_rfl) 13 (by kernel_rfl) ?_
  refine chain_take 0 (_) rfl (by kernel_rfl) (by kernel_rfl) (by kernel_rfl) (fun _ _ _ h => h) rfl (fun w' hw' => run_move_at _ rfl w') ?_
  simp only [Act.put, List.setIfInBounds_toArray, List.set_cons_zero, List.set_cons_succ]
  refine chain_take 2 (_) rfl (by kernel_rfl) (by kernel_rfl) (by kernel_rfl) (fun _ _ _ h => h) rfl (fun w' hw' => run_move_at _ rfl w') ?_
  simp only [Act.put, List.setIfInBounds_toArray, List.set_cons_zero, List.set_cons_succ]
  refine chain_call 1 rfl (by kernel_rfl) rfl 72 _ _ Try.func72 (by kernel_rfl) rfl _ _ #[.int .i64 many] rfl (by simp [Act.put, Act.eval]) (HHT.out _) ?_
  rintro e W1 ⟨rfl, hD1⟩
  have hB1 := hD1.below
  clear hD1
  refine ⟨_, rfl, hB1, ?_⟩
  simp only [Act.put, List.setIfInBounds_toArray, List.set_cons_zero, List.set_cons_succ]
  have HK1 := Lib.hid (HK5.out.drew.next hB1)
  have HR1 := Lib.hid (HR5.out.drew.next hB1)
  have HW1 := Lib.hid (below_next (below_drew HB5.out) hB1)
  refine chain_take 3 (.bool false) rfl (by kernel_rfl) (by kernel_rfl) (by kernel_rfl) (fun _ _ _ h => h) rfl (fun w' hw' => by (unfold execOp; simp [go_sem, Act.put, Act.eval])) ?_
  simp only [Act.put, List.setIfInBounds_toArray, List.set_cons_zero, List.set_cons_succ]
  refine chain_take 4 (_) rfl (by kernel_rfl) (by kernel_rfl) (by kernel_rfl) (fun _ _ _ h => h) rfl (fun w' hw' => run_move_at _ rfl w') ?_
  simp only [Act.put, List.setIfInBounds_toArray, List.set_cons_zero, List.set_cons_succ]
  refine chain_take 5 (.slice (some ⟨g12, 0, none⟩) 32 32) rfl (by kernel_rfl) (by kernel_rfl) (by kernel_rfl) (fun _ _ _ h => h) rfl (fun w' hw' => by (have hc0 := Try.underlying24; unfold execOp; simp [go_sem, Act.put, Act.eval, hc0])) ?_
  simp only [Act.put, List.setIfInBounds_toArray, List.set_cons_zero, List.set_cons_succ]
  refine chain_take 6 (.string (strOfNums R)) rfl (by kernel_rfl) (by kernel_rfl) (by kernel_rfl) (fun _ _ _ h => h) rfl (fun w' hw' => by (have hc0 := Kd.C_string (P := Try.prog) (dst := 9) (c := 32) Try.underlying29 Try.underlying5 Try.underlying9 ((HR1.out.next hw').reads 32 HRL.out (by decide)); unfold execOp; simp [go_sem, Act.put, Act.eval, hc0])) ?_
  simp only [Act.put, List.setIfInBounds_toArray, List.set_cons_zero, List.set_cons_succ]
  refine chain_take 7 (_) rfl (by kernel_rfl) (by kernel_rfl) (by kernel_rfl) (fun _ _ _ h => h) rfl (fun w' hw' => run_move_at _ rfl w') ?_
  simp only [Act.put, List.setIfInBounds_toArray, List.set_cons_zero, List.set_cons_succ]
  refine chain_take 8 (_) rfl (by kernel_rfl) (by kernel_rfl) (by kernel_rfl) (fun _ _ _ h => h) rfl (fun w' hw' => run_move_at _ rfl w') ?_
  simp only [Act.put, List.setIfInBounds_toArray, List.set_cons_zero, List.set_cons_succ]
  refine chain_call 9 rfl (by kernel_rfl) rfl 74 _ _ Try.func74 (by kernel_rfl) rfl _ _ #[.slice A1 n1 c1] rfl (by simp [Act.put, Act.eval]) (HTX.out _ HW1.out) ?_
  rintro e W2 ⟨v2, rfl, hO2, hB2⟩
  obtain ⟨A2, c2, rfl, hc2⟩ := own_slice hO2
  refine ⟨_, rfl, hB2, ?_⟩
  have hS2 := SRow.of_own hO2
  simp only [Act.put, List.setIfInBounds_toArray, List.set_cons_zero, List.set_cons_succ]
  rw [← HNN.out] at hc2 ⊢
  refine chain_call 10 rfl (by kernel_rfl) rfl 73 _ _ Try.func73 (by kernel_rfl) rfl _ _ #[.pointer (some ⟨gk, 0, none⟩), .slice A2 n1 c2] rfl (by simp [Act.put, Act.eval]) (HRR.out gk AK cK AR cR AC cC A2 c2 _ (HK1.out.next hB2) hS2 hc2) ?_
  rintro e W3 ⟨rfl, hB3⟩
  refine ⟨_, rfl, hB3, ?_⟩
  simp only [Act.put, List.setIfInBounds_toArray, List.set_cons_zero, List.set_cons_succ]
  refine chain_take 11 (.bool false) rfl (by kernel_rfl) (by kernel_rfl) (by kernel_rfl) (fun _ _ _ h => h) rfl (fun w' hw' => by (unfold execOp; simp [go_sem, Act.put, Act.eval])) ?_
  simp only [Act.put, List.setIfInBounds_toArray, List.set_cons_zero, List.set_cons_succ]
  refine chain_take 12 (.bool false) rfl (by kernel_rfl) (by kernel_rfl) (by kernel_rfl) (fun _ _ _ h => h) rfl (fun w' hw' => by (unfold execOp; simp [go_sem, Act.put, Act.eval])) ?_
  simp only [Act.put, List.setIfInBounds_toArray, List.set_cons_zero, List.set_cons_succ]
  refine chain_done (by kernel_rfl) ?_
  have HB6 := Lib.hid (below_next HW1.out (below_next hB2 hB3))
  have HK6 := Lib.hid (HK1.out.next (below_next hB2 hB3))
  clear hB1 hB2 hB3 HK1 HR1 HW1 HR5 HK5 HB5 hO2 hS2
  obtain ⟨w6, hw6⟩ : ∃ W : World, W = W3 := ⟨_, rfl⟩
  subst hw6
  by_cases hbad : place < 0 ∨ (n1 : Int) ≤ place
  · have hwb := fun W => way_bad A0 kn c0 A1 n1 c1 place W hbad
    have HWB := Lib.hid hwb
    clear hwb
    by_cases hneg : place < 0
    · clear hbad
      go_wp2_with (first
        | (go_at_call 75; refine (HWB.out _).mono ?_; rintro e w7 ⟨rfl, hb7⟩; have HB7 := Lib.hid (below_next HB6.out hb7); clear hb7)
        | (go_at_call 68; refine (knows8_any _).mono ?_; rintro e w8 ⟨rfl, hb8⟩; have HB8 := Lib.hid (below_next HB7.out hb8); clear hb8))
      go_ret
      exact ⟨rfl, HB8.out⟩
    · have hge : (n1 : Int) ≤ place := by omega
      have hge2 : place ≥ (n1 : Int) := hge
      clear hbad
      go_wp2_with (first
        | (go_at_call 75; refine (HWB.out _).mono ?_; rintro e w7 ⟨rfl, hb7⟩; have HB7 := Lib.hid (below_next HB6.out hb7); clear hb7)
        | (go_at_call 68; refine (knows8_any _).mono ?_; rintro e w8 ⟨rfl, hb8⟩; have HB8 := Lib.hid (below_next HB7.out hb8); clear hb8))
      go_ret
      exact ⟨rfl, HB8.out⟩
  · obtain ⟨p, rfl⟩ := Int.eq_ofNat_of_zero_le (show 0 ≤ place by omega)
    have hpn : p < n1 := by omega
    have h1 : ¬ (p : Int) < 0 := by omega
    have h2 : ¬ (n1 : Int) ≤ (p : Int) := by omega
    have h3 : p ≤ 9223372036854775807 := by omega
    have hw := HWAY.out p hpn
    have hrw := HRW.out p hpn
    have ht := H128.out p hpn
    have hwl := HWL.out p
    obtain ⟨ws, hws⟩ : ∃ ws, ws = wayG key z p h := ⟨_, rfl⟩
    rw [← hws] at hw hrw ht hwl
    have HW := Lib.hid hw
    have HRWp := Lib.hid hrw
    have HT := Lib.hid ht
    have HWLp := Lib.hid hwl
    have hsm : ws.length ≤ 1000 := by rw [hwl]; have := HH8.out; omega
    have HSM := Lib.hid hsm
    clear hw hrw ht hwl hws hbad hsm
    go_wp2_with (first
      | (go_at_call 75; refine (HW.out _ HB6.out).mono ?_; rintro e w7 ⟨v7, rfl, hO7, hb7⟩; obtain ⟨A7, c7, rfl, hc7⟩ := own_slice hO7; have HR7 := Lib.hid (Rows8.of_own hO7 rfl HT.out); have HK7 := Lib.hid (HK6.out.next hb7); have HB7 := Lib.hid (below_next HB6.out hb7); clear hO7 hb7)
      | (go_at_call 77; refine (ways_any A7 ws.length c7 ws _ HR7.out rfl HSM.out HT.out).mono ?_; rintro e w8 ⟨A8, c8, rfl, hc8, hS8, hb8⟩; have HS8 := Lib.hid hS8; have HK8 := Lib.hid (HK7.out.next hb8); have HB8 := Lib.hid (below_next HB7.out hb8); clear hS8 hb8)
      | (go_at_call 74; refine (HTX.out _ HB8.out).mono ?_; rintro e w9 ⟨v9, rfl, hO9, hb9⟩; obtain ⟨A9, c9, rfl, hc9⟩ := own_slice hO9; have HS9 := Lib.hid (SRow.of_own hO9); have HK9 := Lib.hid (HK8.out.next hb9); have HS89 := Lib.hid (HS8.out.next hb9); have HB9 := Lib.hid (below_next HB8.out hb9); rw [← HNN.out]; rw [← HNN.out] at hc9; clear hO9 hb9)
      | (go_at_call 78; refine (HRWp.out gk AK cK AR cR AC cC A9 c9 _ HK9.out HS9.out hc9).mono ?_; rintro e w10 ⟨A10, c10, rfl, hc10, hS10, hb10⟩; have HS10 := Lib.hid hS10; have HS810 := Lib.hid (HS89.out.next hb10); have HB10 := Lib.hid (below_next HB9.out hb10); clear hS10 hb10)
      | (go_at_call 76; refine (same_any A8 c8 A10 c10 ws _ HS810.out HS10.out HSM.out).mono ?_; rintro e w11 ⟨rfl, hb11⟩; have HB11 := Lib.hid (below_next HB10.out hb11); clear hb11)
      | (go_at_call 68; refine (knows8_any _).mono ?_; rintro e w12 ⟨rfl, hb12⟩; have HB12 := Lib.hid (below_next HB11.out hb12); clear hb12))
    go_ret
    exact ⟨rfl, HB12.out⟩
theorem merkleRoots_walk (a0 : Option Addr) (len0 cap0 : Nat) (z0 : List Int) (a1 : Option Addr) (len1 cap1 : Nat) (z1 : List (List Int)) (a2 a3 : Int) (w : World)
    (w0 : (a0 = none ∧ len0 = 0 ∧ cap0 = 0 ∧ z0 = []) ∨ ∃ x, a0 = some x ∧ len0 ≤ cap0 ∧ cap0 ≤ maxLen ∧ z0.length = cap0 ∧ (∀ i, i < z0.length → w.cell? (x.add i) = some (.int .u8 (z0.getD i 0))) ∧ ∀ n ∈ z0, (Lit.int .u8 n).wf = true) (y0 : len0 * 1 ≤ 140737488351232)
    (pl1 : z1.length = len1) (pc1 : len1 ≤ cap1) (w1 : Rows8 32 w a1 z1) (pn1 : ∀ x ∈ z1, x.length = 32) (pb1 : ∀ x ∈ z1, Bytes x) (w2 : (Lit.int .i64 a2).wf = true) (w3 : (Lit.int .i64 a3).wf = true) :
    Calls Try.prog 12 #[.slice a0 len0 cap0, .slice a1 len1 cap1, .int .i64 a2, .int .i64 a3] w fun e w' => e = .returned (.bool true) ∧ Below w.heap.size w w' := by
  obtain ⟨l0, hlen0, hr0, hc0, hb0⟩ := Go.Proofs.Ytoiiacbbfhlocaa.Com.reads_of_row w0
  subst hlen0
  subst pl1
  by_cases hbig : 100 < l0.length ∨ 70 < z1.length ∨ 100000 < a3
  · exact mroots_big a0 l0.length cap0 a1 z1.length cap1 a2 a3 w hbig
  · exact mroots_few a0 cap0 l0 a1 cap1 z1 a2 a3 w hr0 hc0 (by omega) hb0 w1 pc1 (by omega) pn1 pb1 (by have := Com.range64 w2; omega) (by omega)
end Go.Proofs.Ytoiiacbbfhlocaa.HMa
end
section
set_option linter.unusedVariables false
set_option linter.unusedSimpArgs false
namespace Go.Proofs.Ytoiiacbbfhlocaa.HMa
open Go.RowKit Go.Shelf Go.Proofs.YtoiiacbbfhlocaaW.PrintWords Go.Proofs.YtoiiacbbfhlocaaW.PrintLast Go.Proofs.YtoiiacbbfhlocaaW.PrintMore Go.Proofs.Ytoiiacbbfhlocaa.Kit Go.Proofs.Ytoiiacbbfhlocaa.HHa Go.Proofs.Ytoiiacbbfhlocaa.HSa Go.Proofs.Ytoiiacbbfhlocaa.Mr
attribute [local irreducible] sumF padX inF hmF jN jF kF padK nodeF
theorem rng_next {W W' : World} {b o : Nat} {xs : List Value} (h : W.rangeAt b o xs) (hb : Below W.heap.size W W') : W'.rangeAt b o xs := fun j v hv => (hb.cell (p := ⟨b, o + j, none⟩) (World.block_lt_of_cell? _ _ (h j v hv))).trans (h j v hv)
set_option maxRecDepth 100000 in
theorem mways_big (A0 : Option Addr) (kn c0 : Nat) (A1 : Option Addr) (n1 c1 : Nat) (place : Int) (oth : List Int) (w : World) (h : 100 < kn ∨ 70 < n1 ∨ place < 0 ∨ (n1 : Int) ≤ place) :
    Calls Try.prog 14 #[.slice A0 kn c0, .slice A1 n1 c1, .int .i64 place, .agg (nums .u8 oth).toArray] w (TellsB true w) := by
  by_cases h0 : 100 < kn
  rotate_left
  by_cases h1 : 70 < n1
  rotate_left
  by_cases h2 : place < 0
  rotate_left
  have h3 : place ≥ (n1 : Int) := by omega
  all_goals
    go_enter Try.func14, Try.ntmps14
    go_wp2_with (first
      | ((with_reducible refine gate_dst (N := 7) rfl ?_); refine arr_new rfl 24 .u8 oth (by first | (go_simp; done) | (go_simp; rfl)) ?_; intro w1 hA1 hB1; have HB1 := Lib.hid hB1; clear hA1 hB1)
      | (go_at_call 68; refine (knows8_any _).mono ?_; rintro e w3 ⟨rfl, hb3⟩; have HB3 := Lib.hid (below_next HB1.out hb3); clear hb3))
    go_ret
    exact ⟨rfl, HB3.out⟩
set_option maxRecDepth 100000 in
set_option maxHeartbeats 4000000 in
theorem mways_few (A0 : Option Addr) (c0 : Nat) (key : List Int) (A1 : Option Addr) (c1 : Nat) (z : List (List Int)) (p : Nat) (oth : List Int) (w : World) (hr : Kd.C (Kd.int .u8) w A0 key.length key) (hc : key.length ≤ c0) (hl : key.length ≤ 100)
    (hz : Rows8 32 w A1 z) (hc1 : z.length ≤ c1) (hn1 : z.length ≤ 70) (hz8 : ∀ x ∈ z, x.length = 32) (hpn : p < z.length) (hol : oth.length = 32) :
    Calls Try.prog 14 #[.slice A0 key.length c0, .slice A1 z.length c1, .int .i64 p, .agg (nums .u8 oth).toArray] w (TellsB true w) := by
  have hfl : ∀ W, Below w.heap.size w W → Flat W A1 z := fun W hW => Flat.of_rows (hz.next hW) hz8
  obtain ⟨hs1, hs2, hs3⟩ := hgt_small z.length (by omega)
  have hs4 := hgt_pos z.length
  have hhe := height_eq z.length (by omega)
  obtain ⟨h, hh⟩ : ∃ h, h = hgt z.length := ⟨_, rfl⟩
  rw [← hh] at hs1 hs2 hs3 hs4 hhe
  obtain ⟨R, hR⟩ : ∃ R, R = rootF key z h := ⟨_, rfl⟩
  obtain ⟨x, hx⟩ : ∃ x, z[p]? = some x := ⟨_, List.getElem?_eq_getElem hpn⟩
  obtain ⟨b, o, rfl, hrange⟩ := hz p x hx
  have hroot : ∀ W, Below w.heap.size w W → Calls Try.prog 71 #[.slice A0 key.length c0, .slice (some ⟨b, o, none⟩) z.length c1] W (GivesArr .u8 R W) := fun W hW => by rw [hR]; exact root_any 12 A0 c0 key _ c1 z h W (Kd.C_below hr hW) hc (by omega) (hfl W hW) hz8 hc1 (by omega) hhe (by omega)
  have hway : ∀ W, Below w.heap.size w W → Calls Try.prog 75 #[.slice A0 key.length c0, .slice (some ⟨b, o, none⟩) z.length c1, .int .i64 p] W (WayOut (wayG key z p h) W) := fun W hW => way_any 12 A0 c0 key _ c1 z h p W (Kd.C_below hr hW) hc (by omega) (hfl W hW) hz8 hc1 (by omega) hhe (by omega) hs1 hpn
  have h128 : T128 (wayG key z p h) := wayG_128 key z hz8 p h hpn hs1 h (Nat.le_refl _)
  have hht := fun W => merkle_Height.calls 12 _ _ W hhe
  have HRL := Lib.hid (show R.length = 32 by rw [hR]; exact rootF_length key z hz8 h)
  have HXL := Lib.hid (hz8 x (List.mem_of_getElem? hx))
  have hcheck : ∀ (lf : List Int), lf.length = 32 → ∀ (A9 : Option Addr) (c9 : Nat) (W0 W : World), Below w.heap.size w W → Rows8 128 W A9 (wayG key z p h) → Calls Try.prog 79 #[.slice A0 key.length c0, .slice A9 (wayG key z p h).length c9, .int .i64 p, .agg (nums .u8 lf).toArray, .agg (nums .u8 R).toArray] W (TellsB (decide (lf = x)) W) := fun lf hlf A9 c9 W0 W hW h9 => by
    rw [← way_says key z hz8 p h hpn hs1 hs4 lf x hx, ← hR]
    exact check_any A0 c0 key A9 _ c9 (wayG key z p h) p lf R W (Kd.C_below hr hW) hc (by omega) h9 rfl (by rw [wayG_length]; omega) h128 hlf HRL.out (by omega)
  have hwl := wayG_length key z p h
  obtain ⟨ws, hws⟩ : ∃ ws, ws = wayG key z p h := ⟨_, rfl⟩
  rw [← hws] at hway h128 hcheck hwl
  obtain ⟨kn, hkn⟩ : ∃ n, n = key.length := ⟨_, rfl⟩
  obtain ⟨n1, hnn⟩ : ∃ n, n = z.length := ⟨_, rfl⟩
  simp only [← hkn, ← hnn] at hroot hway hl hn1 hpn hht hcheck
  rw [← hkn, ← hnn]
  have HROOT := Lib.hid hroot
  have HWAY := Lib.hid hway
  have H128 := Lib.hid h128
  have HHT := Lib.hid hht
  have HCK := Lib.hid hcheck
  have HRG := Lib.hid hrange
  have HOL := Lib.hid hol
  have HWLI := Lib.hid (show ((ws.length : Nat) : Int) = (h : Int) by rw [hwl])
  have hp1 : ¬ (p : Int) < 0 := by omega
  have hp2 : (p : Int) < (n1 : Int) := by omega
  have hp3 : p ≤ 9223372036854775807 := by omega
  have hp4 : ¬ (n1 : Int) ≤ (p : Int) := by omega
  clear hr hz hz8 hroot hway hht hkn hnn hfl hs1 hs2 hs3 hs4 hh hhe hR h128 hx hrange hcheck hwl hws hol
  go_enter Try.func14, Try.ntmps14
  go_wp2_with (first
    | ((with_reducible refine gate_dst (N := 7) rfl ?_); refine arr_new rfl 24 .u8 oth (by first | (go_simp; done) | (go_simp; rfl)) ?_; intro w1 hA1 hB1; have HT1 := Lib.hid hA1; have HB1 := Lib.hid hB1; clear hA1 hB1)
    | (go_at_call 75; refine (HWAY.out _ HB1.out).mono ?_; rintro e w2 ⟨v2, rfl, hO2, hb2⟩; obtain ⟨A9, c9, rfl, hc9⟩ := own_slice hO2; have H92 := Lib.hid (Rows8.of_own hO2 rfl H128.out); have HT2 := Lib.hid (HT1.out.next hb2); have HB2 := Lib.hid (below_next HB1.out hb2); clear hO2 hb2)
    | (go_at_call 71; refine (HROOT.out _ HB2.out).mono ?_; rintro e w3 ⟨rfl, hb3⟩; have H93 := Lib.hid (H92.out.next hb3); have HT3 := Lib.hid (HT2.out.next hb3); have HB3 := Lib.hid (below_next HB2.out hb3); clear hb3)
    | ((with_reducible refine gate_dst (N := 11) rfl ?_); refine alloc_arr rfl 24 rfl .u8 (List.replicate 32 0) (fun w => Try.zeroValue24 w) (by first | (go_simp; done) | (go_simp; rfl)) ?_; intro w4 hA4 hB4; have HA4 := Lib.hid hA4; have HB4 := Lib.hid hB4; clear hA4 hB4)
    | ((with_reducible refine gate_store (t := 24) (p := 11) rfl ?_); refine store_arr rfl 24 _ _ rfl w3.heap.size .u8 R rfl rfl 24 _ HA4.out (by rw [HRL.out]; rfl) (by rw [HRL.out]; kernel_rfl) ?_; intro w5 hA5 hw5; have hB5 := below_setRow HB4.out w3.heap.size (Nat.le_refl _) (nums .u8 R).toArray; rw [← hw5] at hB5; have HR5 := Lib.hid hA5; have HT5 := Lib.hid (HT3.out.next hB5); have H95 := Lib.hid (H93.out.next hB5); have HB5 := Lib.hid (below_next HB3.out hB5); clear hA5 hw5 hB5))
  obtain ⟨g11, hg11⟩ : ∃ g, g = w3.heap.size := ⟨_, rfl⟩
  rw [← hg11] at HR5 ⊢
  obtain ⟨g7, hg7⟩ : ∃ g, g = w.heap.size := ⟨_, rfl⟩
  have HT5' := HT5.out
  rw [← hg7] at HT5' ⊢
  have HT5 := Lib.hid HT5'
  have HRG5 := Lib.hid (rng_next HRG.out HB5.out)
  have HCX := Lib.hid (show ∀ W, Below w5.heap.size w5 W → Calls _ _ _ W (TellsB true W) from fun W hW => by have h := HCK.out x HXL.out A9 c9 w5 W (below_next HB5.out hW) (H95.out.next hW); rw [decide_eq_true rfl] at h; exact h)
  have HCO := Lib.hid (show ∀ W, Below w5.heap.size w5 W → Calls _ _ _ W (TellsB (decide (oth = x)) W) from fun W hW => HCK.out oth HOL.out A9 c9 w5 W (below_next HB5.out hW) (H95.out.next hW))
  clear hg11 hg7 HT5' HT1 HB1 H92 HT2 HB2 H93 HT3 HB3 HA4 HB4 HROOT HWAY H128 HRG HCK
  refine chain_region (by kernel_rfl) 22 (by kernel_rfl) ?_
  refine chain_take 0 (_) rfl (by kernel_rfl) (by kernel_rfl) (by kernel_rfl) (fun _ _ _ h => h) rfl (fun w' hw' => run_move_at _ rfl w') ?_
  simp only [Act.put, List.setIfInBounds_toArray, List.set_cons_zero, List.set_cons_succ]
  refine chain_take 1 (.bool false) rfl (by kernel_rfl) (by kernel_rfl) (by kernel_rfl) (fun _ _ _ h => h) rfl (fun w' hw' => by (unfold execOp; simp [go_sem, Act.put, Act.eval])) ?_
  simp only [Act.put, List.setIfInBounds_toArray, List.set_cons_zero, List.set_cons_succ]
  refine chain_take 2 (_) rfl (by kernel_rfl) (by kernel_rfl) (by kernel_rfl) (fun _ _ _ h => h) rfl (fun w' hw' => run_move_at _ rfl w') ?_
  simp only [Act.put, List.setIfInBounds_toArray, List.set_cons_zero, List.set_cons_succ]
  refine chain_take 3 (_) rfl (by kernel_rfl) (by kernel_rfl) (by kernel_rfl) (fun _ _ _ h => h) rfl (fun w' hw' => run_move_at _ rfl w') ?_
  simp only [Act.put, List.setIfInBounds_toArray, List.set_cons_zero, List.set_cons_succ]
  refine chain_take 4 (.int .i64 h) rfl (by kernel_rfl) (by kernel_rfl) (by kernel_rfl) (fun _ _ _ h => h) rfl (fun w' hw' => by (have hc0 := HWLI.out; unfold execOp; simp [go_sem, Act.put, Act.eval, hc0])) ?_
  simp only [Act.put, List.setIfInBounds_toArray, List.set_cons_zero, List.set_cons_succ]
  refine chain_take 5 (_) rfl (by kernel_rfl) (by kernel_rfl) (by kernel_rfl) (fun _ _ _ h => h) rfl (fun w' hw' => run_move_at _ rfl w') ?_
  simp only [Act.put, List.setIfInBounds_toArray, List.set_cons_zero, List.set_cons_succ]
  refine chain_take 6 (.int .i64 n1) rfl (by kernel_rfl) (by kernel_rfl) (by kernel_rfl) (fun _ _ _ h => h) rfl (fun w' hw' => by (unfold execOp; simp [go_sem, Act.put, Act.eval])) ?_
  simp only [Act.put, List.setIfInBounds_toArray, List.set_cons_zero, List.set_cons_succ]
  refine chain_call 7 rfl (by kernel_rfl) rfl 72 _ _ Try.func72 (by kernel_rfl) rfl _ _ #[.int .i64 n1] rfl (by simp [Act.put, Act.eval]) (HHT.out _) ?_
  rintro e W1 ⟨rfl, hD1⟩
  have hB1 := hD1.below
  clear hD1
  refine ⟨_, rfl, hB1, ?_⟩
  simp only [Act.put, List.setIfInBounds_toArray, List.set_cons_zero, List.set_cons_succ]
  have HR1 := Lib.hid (HR5.out.drew.next hB1)
  have HW1 := Lib.hid (below_next (below_drew (Below.refl _ w5)) hB1)
  refine chain_take 8 (.bool false) rfl (by kernel_rfl) (by kernel_rfl) (by kernel_rfl) (fun _ _ _ h => h) rfl (fun w' hw' => by (unfold execOp; simp [go_sem, Act.put, Act.eval])) ?_
  simp only [Act.put, List.setIfInBounds_toArray, List.set_cons_zero, List.set_cons_succ]
  refine chain_take 9 (.bool false) rfl (by kernel_rfl) (by kernel_rfl) (by kernel_rfl) (fun _ _ _ h => h) rfl (fun w' hw' => by (unfold execOp; simp [go_sem, Act.put, Act.eval])) ?_
  simp only [Act.put, List.setIfInBounds_toArray, List.set_cons_zero, List.set_cons_succ]
  refine chain_take 10 (_) rfl (by kernel_rfl) (by kernel_rfl) (by kernel_rfl) (fun _ _ _ h => h) rfl (fun w' hw' => run_move_at _ rfl w') ?_
  simp only [Act.put, List.setIfInBounds_toArray, List.set_cons_zero, List.set_cons_succ]
  refine chain_take 11 (_) rfl (by kernel_rfl) (by kernel_rfl) (by kernel_rfl) (fun _ _ _ h => h) rfl (fun w' hw' => run_move_at _ rfl w') ?_
  simp only [Act.put, List.setIfInBounds_toArray, List.set_cons_zero, List.set_cons_succ]
  refine chain_take 12 (_) rfl (by kernel_rfl) (by kernel_rfl) (by kernel_rfl) (fun _ _ _ h => h) rfl (fun w' hw' => run_move_at _ rfl w') ?_
  simp only [Act.put, List.setIfInBounds_toArray, List.set_cons_zero, List.set_cons_succ]
  refine chain_take 13 (_) rfl (by kernel_rfl) (by kernel_rfl) (by kernel_rfl) (fun _ _ _ h => h) rfl (fun w' hw' => run_move_at _ rfl w') ?_
  simp only [Act.put, List.setIfInBounds_toArray, List.set_cons_zero, List.set_cons_succ]
  refine chain_take 14 (_) rfl (by kernel_rfl) (by kernel_rfl) (by kernel_rfl) (fun _ _ _ h => h) rfl (fun w' hw' => run_move_at _ rfl w') ?_
  simp only [Act.put, List.setIfInBounds_toArray, List.set_cons_zero, List.set_cons_succ]
  refine chain_take 15 (_) rfl (by kernel_rfl) (by kernel_rfl) (by kernel_rfl) (fun _ _ _ h => h) rfl (fun w' hw' => run_move_at _ rfl w') ?_
  simp only [Act.put, List.setIfInBounds_toArray, List.set_cons_zero, List.set_cons_succ]
  refine chain_take 16 (.pointer (some ⟨b, o + p * 32, none⟩)) rfl (by kernel_rfl) (by kernel_rfl) (by kernel_rfl) (fun _ _ _ h => h) rfl (fun w' hw' => by (have hc0 := hp1; have hc1 := hp2; have hc2 := hp3; unfold execOp; simp [go_sem, Act.put, Act.eval, hc0, hc1, hc2])) ?_
  simp only [Act.put, List.setIfInBounds_toArray, List.set_cons_zero, List.set_cons_succ]
  refine chain_take 17 (.agg (nums .u8 x).toArray) rfl (by kernel_rfl) (by kernel_rfl) (by kernel_rfl) (fun _ _ _ h => h) rfl (fun w' hw' => run_load_rng 24 _ rfl b (o + p * 32) rfl .u8 _ x (rng_next HRG5.out (below_next HW1.out hw')) Try.underlying24 rfl (by rw [HXL.out]; kernel_rfl)) ?_
  simp only [Act.put, List.setIfInBounds_toArray, List.set_cons_zero, List.set_cons_succ]
  refine chain_take 18 (.agg (nums .u8 R).toArray) rfl (by kernel_rfl) (by kernel_rfl) (by kernel_rfl) (fun _ _ _ h => h) rfl (fun w' hw' => run_load_row 24 _ rfl g11 rfl .u8 _ _ R (HR1.out.next hw') Try.underlying24 rfl (by rw [HRL.out]; kernel_rfl)) ?_
  simp only [Act.put, List.setIfInBounds_toArray, List.set_cons_zero, List.set_cons_succ]
  refine chain_call 19 rfl (by kernel_rfl) rfl 79 _ _ Try.func79 (by kernel_rfl) rfl _ _ #[.slice A0 kn c0, .slice A9 ws.length c9, .int .i64 p, .agg (nums .u8 x).toArray, .agg (nums .u8 R).toArray] rfl (by simp [Act.put, Act.eval]) (HCX.out _ HW1.out) ?_
  rintro e W2 ⟨rfl, hB2⟩
  refine ⟨_, rfl, hB2, ?_⟩
  simp only [Act.put, List.setIfInBounds_toArray, List.set_cons_zero, List.set_cons_succ]
  refine chain_take 20 (.bool false) rfl (by kernel_rfl) (by kernel_rfl) (by kernel_rfl) (fun _ _ _ h => h) rfl (fun w' hw' => by (unfold execOp; simp [go_sem, Act.put, Act.eval])) ?_
  simp only [Act.put, List.setIfInBounds_toArray, List.set_cons_zero, List.set_cons_succ]
  refine chain_take 21 (.bool false) rfl (by kernel_rfl) (by kernel_rfl) (by kernel_rfl) (fun _ _ _ h => h) rfl (fun w' hw' => by (unfold execOp; simp [go_sem, Act.put, Act.eval])) ?_
  simp only [Act.put, List.setIfInBounds_toArray, List.set_cons_zero, List.set_cons_succ]
  refine chain_done (by kernel_rfl) ?_
  have hb6 := below_next HW1.out hB2
  have HB6 := Lib.hid (below_next HB5.out hb6)
  have HT6 := Lib.hid (HT5.out.next hb6)
  have HR6 := Lib.hid (HR5.out.next hb6)
  have HRG6 := Lib.hid (rng_next HRG5.out hb6)
  have HCO6 := Lib.hid (show ∀ W, Below W2.heap.size W2 W → Calls _ _ _ W (TellsB (decide (oth = x)) W) from fun W hW => HCO.out W (below_next hb6 hW))
  obtain ⟨w6, hw6⟩ : ∃ W : World, W = W2 := ⟨_, rfl⟩
  subst hw6
  clear hB1 hB2 hb6 HT5 HR5 HRG5 HCO HCX HB5 HR1 HW1 H95
  go_wp2_with fail
  refine chain_region (by kernel_rfl) 17 (by kernel_rfl) ?_
  refine chain_take 0 (_) rfl (by kernel_rfl) (by kernel_rfl) (by kernel_rfl) (fun _ _ _ h => h) rfl (fun w' hw' => run_move_at _ rfl w') ?_
  simp only [Act.put, List.setIfInBounds_toArray, List.set_cons_zero, List.set_cons_succ]
  refine chain_take 1 (_) rfl (by kernel_rfl) (by kernel_rfl) (by kernel_rfl) (fun _ _ _ h => h) rfl (fun w' hw' => run_move_at _ rfl w') ?_
  simp only [Act.put, List.setIfInBounds_toArray, List.set_cons_zero, List.set_cons_succ]
  refine chain_take 2 (_) rfl (by kernel_rfl) (by kernel_rfl) (by kernel_rfl) (fun _ _ _ h => h) rfl (fun w' hw' => run_move_at _ rfl w') ?_
  simp only [Act.put, List.setIfInBounds_toArray, List.set_cons_zero, List.set_cons_succ]
  refine chain_take 3 (.agg (nums .u8 oth).toArray) rfl (by kernel_rfl) (by kernel_rfl) (by kernel_rfl) (fun _ _ _ h => h) rfl (fun w' hw' => run_load_row 24 _ rfl g7 rfl .u8 _ _ oth (HT6.out.drew.next hw') Try.underlying24 rfl (by rw [HOL.out]; kernel_rfl)) ?_
  simp only [Act.put, List.setIfInBounds_toArray, List.set_cons_zero, List.set_cons_succ]
  refine chain_take 4 (.agg (nums .u8 R).toArray) rfl (by kernel_rfl) (by kernel_rfl) (by kernel_rfl) (fun _ _ _ h => h) rfl (fun w' hw' => run_load_row 24 _ rfl g11 rfl .u8 _ _ R (HR6.out.drew.next hw') Try.underlying24 rfl (by rw [HRL.out]; kernel_rfl)) ?_
  simp only [Act.put, List.setIfInBounds_toArray, List.set_cons_zero, List.set_cons_succ]
  refine chain_take 6 (.agg (nums .u8 oth).toArray) rfl (by kernel_rfl) (by kernel_rfl) (by kernel_rfl) (fun _ _ _ h => h) rfl (fun w' hw' => run_load_row 24 _ rfl g7 rfl .u8 _ _ oth (HT6.out.drew.next hw') Try.underlying24 rfl (by rw [HOL.out]; kernel_rfl)) ?_
  simp only [Act.put, List.setIfInBounds_toArray, List.set_cons_zero, List.set_cons_succ]
  refine chain_take 7 (_) rfl (by kernel_rfl) (by kernel_rfl) (by kernel_rfl) (fun _ _ _ h => h) rfl (fun w' hw' => run_move_at _ rfl w') ?_
  simp only [Act.put, List.setIfInBounds_toArray, List.set_cons_zero, List.set_cons_succ]
  refine chain_take 8 (_) rfl (by kernel_rfl) (by kernel_rfl) (by kernel_rfl) (fun _ _ _ h => h) rfl (fun w' hw' => run_move_at _ rfl w') ?_
  simp only [Act.put, List.setIfInBounds_toArray, List.set_cons_zero, List.set_cons_succ]
  refine chain_take 9 (.pointer (some ⟨b, o + p * 32, none⟩)) rfl (by kernel_rfl) (by kernel_rfl) (by kernel_rfl) (fun _ _ _ h => h) rfl (fun w' hw' => by (have hc0 := hp1; have hc1 := hp2; have hc2 := hp3; unfold execOp; simp [go_sem, Act.put, Act.eval, hc0, hc1, hc2])) ?_
  simp only [Act.put, List.setIfInBounds_toArray, List.set_cons_zero, List.set_cons_succ]
  refine chain_take 10 (.agg (nums .u8 x).toArray) rfl (by kernel_rfl) (by kernel_rfl) (by kernel_rfl) (fun _ _ _ h => h) rfl (fun w' hw' => run_load_rng 24 _ rfl b (o + p * 32) rfl .u8 _ x (rng_next HRG6.out (below_next (below_drew (Below.refl _ _)) hw')) Try.underlying24 rfl (by rw [HXL.out]; kernel_rfl)) ?_
  simp only [Act.put, List.setIfInBounds_toArray, List.set_cons_zero, List.set_cons_succ]
  refine chain_take 11 (.bool (decide (oth = x))) rfl (by kernel_rfl) (by kernel_rfl) (by kernel_rfl) (fun _ _ _ h => h) rfl (fun w' hw' => run_eql_arrs 24 _ _ _ rfl .u8 oth x rfl rfl (by kernel_rfl) 32 5 Try.underlying24 Try.underlying5 (by kernel_rfl) HOL.out HXL.out w') ?_
  simp only [Act.put, List.setIfInBounds_toArray, List.set_cons_zero, List.set_cons_succ]
  refine chain_call 5 rfl (by kernel_rfl) rfl 79 _ _ Try.func79 (by kernel_rfl) rfl _ _ #[.slice A0 kn c0, .slice A9 ws.length c9, .int .i64 p, .agg (nums .u8 oth).toArray, .agg (nums .u8 R).toArray] rfl (by simp [Act.put, Act.eval]) (HCO6.out _ (below_drew (Below.refl _ _))) ?_
  rintro e W3 ⟨rfl, hB3⟩
  refine ⟨_, rfl, hB3, ?_⟩
  simp only [Act.put, List.setIfInBounds_toArray, List.set_cons_zero, List.set_cons_succ]
  refine chain_take 12 (.bool true) rfl (by kernel_rfl) (by kernel_rfl) (by kernel_rfl) (fun _ _ _ h => h) rfl (fun w' hw' => by (unfold execOp; simp [go_sem, Act.put, Act.eval])) ?_
  simp only [Act.put, List.setIfInBounds_toArray, List.set_cons_zero, List.set_cons_succ]
  refine chain_take 13 (.bool true) rfl (by kernel_rfl) (by kernel_rfl) (by kernel_rfl) (fun _ _ _ h => h) rfl (fun w' hw' => by (unfold execOp; simp [go_sem, Act.put, Act.eval])) ?_
  simp only [Act.put, List.setIfInBounds_toArray, List.set_cons_zero, List.set_cons_succ]
  refine chain_call 14 rfl (by kernel_rfl) rfl 68 _ _ Try.func68 (by kernel_rfl) rfl _ _ #[] rfl (by simp [Act.put, Act.eval]) (knows8_any _) ?_
  rintro e W4 ⟨rfl, hB4⟩
  refine ⟨_, rfl, hB4, ?_⟩
  simp only [Act.put, List.setIfInBounds_toArray, List.set_cons_zero, List.set_cons_succ]
  refine chain_take 15 (.bool true) rfl (by kernel_rfl) (by kernel_rfl) (by kernel_rfl) (fun _ _ _ h => h) rfl (fun w' hw' => by (unfold execOp; simp [go_sem, Act.put, Act.eval])) ?_
  simp only [Act.put, List.setIfInBounds_toArray, List.set_cons_zero, List.set_cons_succ]
  refine chain_take 16 (_) rfl (by kernel_rfl) (by kernel_rfl) (by kernel_rfl) (fun _ _ _ h => h) rfl (fun w' hw' => BigFrame.run_assign _ rfl w') ?_
  simp only [Act.put, List.setIfInBounds_toArray, List.set_cons_zero, List.set_cons_succ]
  refine chain_done (by kernel_rfl) ?_
  have HB7 := Lib.hid (below_next HB6.out (below_next (below_drew (Below.refl _ _)) (below_next hB3 hB4)))
  clear hB3 hB4
  go_wp2_with fail
  go_ret
  exact ⟨rfl, HB7.out⟩
theorem merkleWays_walk (a0 : Option Addr) (len0 cap0 : Nat) (z0 : List Int) (a1 : Option Addr) (len1 cap1 : Nat) (z1 : List (List Int)) (a2 : Int) (a3 : List Int) (w : World)
    (w0 : (a0 = none ∧ len0 = 0 ∧ cap0 = 0 ∧ z0 = []) ∨ ∃ x, a0 = some x ∧ len0 ≤ cap0 ∧ cap0 ≤ maxLen ∧ z0.length = cap0 ∧ (∀ i, i < z0.length → w.cell? (x.add i) = some (.int .u8 (z0.getD i 0))) ∧ ∀ n ∈ z0, (Lit.int .u8 n).wf = true) (y0 : len0 * 1 ≤ 140737488351232)
    (pl1 : z1.length = len1) (pc1 : len1 ≤ cap1) (w1 : Rows8 32 w a1 z1) (pn1 : ∀ x ∈ z1, x.length = 32) (pb1 : ∀ x ∈ z1, Bytes x) (w2 : (Lit.int .i64 a2).wf = true) (l3 : a3.length = 32) (b3 : Bytes a3) :
    Calls Try.prog 14 #[.slice a0 len0 cap0, .slice a1 len1 cap1, .int .i64 a2, .agg (nums .u8 a3).toArray] w fun e w' => e = .returned (.bool true) ∧ Below w.heap.size w w' := by
  obtain ⟨l0, hlen0, hr0, hc0, hb0⟩ := Go.Proofs.Ytoiiacbbfhlocaa.Com.reads_of_row w0
  subst hlen0
  subst pl1
  by_cases hbig : 100 < l0.length ∨ 70 < z1.length ∨ a2 < 0 ∨ (z1.length : Int) ≤ a2
  · exact mways_big a0 l0.length cap0 a1 z1.length cap1 a2 a3 w hbig
  · obtain ⟨p, rfl⟩ := Int.eq_ofNat_of_zero_le (show 0 ≤ a2 by omega)
    exact mways_few a0 cap0 l0 a1 cap1 z1 p a3 w hr0 hc0 (by omega) w1 pc1 (by omega) pn1 (by omega) l3
end Go.Proofs.Ytoiiacbbfhlocaa.HMa
end
