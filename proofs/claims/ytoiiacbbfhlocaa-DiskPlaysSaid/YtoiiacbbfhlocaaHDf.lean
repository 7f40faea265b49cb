/- Layer 6: the document's disk in the heap; Zeros, New. -/
import Derived.Test.YtoiiacbbfhlocaaHDe
import Derived.Test.YtoiiacbbfhlocaaLst
import Derived.Test.YtoiiacbbfhlocaaDr1
set_option linter.unusedVariables false
set_option linter.unusedSimpArgs false
namespace Go.Proofs.Ytoiiacbbfhlocaa.HDa
open Go.RowKit Go.Proofs.YtoiiacbbfhlocaaW.PrintWords Go.Proofs.YtoiiacbbfhlocaaW.PrintLast Go.Proofs.YtoiiacbbfhlocaaW.PrintMore Go.Proofs.Ytoiiacbbfhlocaa.Kit
theorem blk {p : Prop} (h : Aside0 p) : p := h.out
/-- blocks of other types are as they were -/
structure KeepT (ts : List Nat) (w w' : World) : Prop where
  size : w.heap.size ≤ w'.heap.size
  keep : ∀ (k : Nat) (o : Obj), w.heap[k]? = some o → (∀ cs t fr, o = .cells cs t fr → t ∉ ts) → w'.heap[k]? = some o
theorem KeepT.refl (ts : List Nat) (w : World) : KeepT ts w w := ⟨Nat.le_refl _, fun _ _ h _ => h⟩
theorem KeepT.trans {ts : List Nat} {a b c : World} (h : KeepT ts a b) (h' : KeepT ts b c) : KeepT ts a c := ⟨Nat.le_trans h.size h'.size, fun k o ho ht => h'.keep k o (h.keep k o ho ht) ht⟩
theorem KeepT.mono {ts us : List Nat} {a b : World} (h : KeepT ts a b) (hs : ∀ t, t ∈ ts → t ∈ us) : KeepT us a b := ⟨h.size, fun k o ho ht => h.keep k o ho (fun cs t fr e hm => ht cs t fr e (hs t hm))⟩
theorem KeepT.of_below (ts : List Nat) {w w' : World} (h : Below w.heap.size w w') : KeepT ts w w' := ⟨h.size, fun k o ho _ => (h.block k (Array.getElem?_eq_some_iff.1 ho).1).trans ho⟩
theorem KeepT.next {ts : List Nat} {w w1 w2 : World} (h : KeepT ts w w1) (hb : Below w1.heap.size w1 w2) : KeepT ts w w2 := h.trans (.of_below ts hb)
theorem KeepT.cells {ts : List Nat} {w w' : World} (h : KeepT ts w w') {k : Nat} {cs : Array Value} {t : TypeId} {fr : Nat × Nat} (ho : w.heap[k]? = some (.cells cs t fr)) (ht : t ∉ ts) : w'.heap[k]? = some (.cells cs t fr) := h.keep k _ ho (fun cs' t' fr' e => by cases e; exact ht)
theorem KeepT.setCell {w : World} {g : Nat} {cs : Array Value} {t : TypeId} {fr : Nat × Nat} (h : w.heap[g]? = some (.cells cs t fr)) (i : Nat) (u : Value) : KeepT [t] w (w.setCell ⟨g, i, none⟩ u) := by
  refine ⟨((Below.refl 0 w).setCell (p := ⟨g, i, none⟩) (Nat.zero_le _) u).size, fun k o ho ht => ?_⟩
  rw [Below.heap_setCell w ⟨g, i, none⟩ u k (fun e => by
    subst e
    rw [h] at ho
    cases ho
    exact ht _ _ _ rfl (List.mem_singleton.2 rfl))]
  exact ho
theorem own_type {w : World} {base e size n : Nat} {v : Value} {xs : List Value} (hr : w.ownsRow base e size v n xs) (k : Nat) (hk : v.ownBlock = some k) : ∃ cells, w.heap[k]? = some (.cells cells e (0, 0)) := by
  rcases hr.2 with ⟨rfl, -⟩ | ⟨g, cap, cur, rfl, -, hh, -⟩
  · cases hk
  · simp only [Value.ownBlock, Option.some.injEq] at hk
    subst hk
    exact ⟨_, hh⟩
theorem own_heap {w w' : World} {base e size n : Nat} {v : Value} {xs : List Value} (h : w.ownsRow base e size v n xs) (hk : ∀ k, v.ownBlock = some k → w'.heap[k]? = w.heap[k]?) : w'.ownsRow base e size v n xs := by
  refine ⟨h.1, ?_⟩
  rcases h.2 with hn | ⟨g, cap, cur, rfl, hb, hg, rest⟩
  · exact .inl hn
  · exact .inr ⟨g, cap, cur, rfl, hb, (hk g rfl).trans hg, rest⟩
structure KeepOne (w w' : World) (row : Option Nat) : Prop where
  size : w.heap.size ≤ w'.heap.size
  block : ∀ k, k < w.heap.size → some k ≠ row → w'.heap[k]? = w.heap[k]?
theorem KeepOne.of_grown {w w' : World} {row : Option Nat} (h : w.grownBy w' row) : KeepOne w w' row := ⟨h.size, h.block⟩
theorem KeepOne.typed {w w' : World} {base e size n : Nat} {v : Value} {xs : List Value} (hr : w.ownsRow base e size v n xs) (h : KeepOne w w' v.ownBlock) : KeepT [e] w w' := by
  refine ⟨h.size, fun k o ho ht => (h.block k (Array.getElem?_eq_some_iff.1 ho).1 ?_).trans ho⟩
  intro hk
  obtain ⟨cells, hc⟩ := own_type hr k hk.symm
  rw [hc] at ho
  cases ho
  exact ht _ _ _ rfl (List.mem_singleton.2 rfl)
theorem DTab.keepT {ts : List Nat} {base : Nat} {W W' : World} {g r : Nat} {L : List Blk} (h : DTab base W g r L) (hk : KeepT ts W W') (h1 : 154 ∉ ts) (h2 : 164 ∉ ts) : DTab base W' g r L := by
  obtain ⟨cs, hc, hs⟩ := h.rws
  have e : W'.heap[r]? = W.heap[r]? := (hk.cells hc h2).trans hc.symm
  exact ⟨hk.cells h.tab h1, ⟨cs, e.trans hc, hs⟩, fun i b hb => ⟨(h.blk i b hb).1.heap e, (h.blk i b hb).2⟩, h.hg, h.hr⟩
def strC (l : List (List Int)) : List Value := l.map fun s => .string (strOfNums s)
theorem strC_snoc (l : List (List Int)) (s : List Int) : strC (l ++ [s]) = strC l ++ [.string (strOfNums s)] := by simp [strC]
theorem strC_length (l : List (List Int)) : (strC l).length = l.length := List.length_map ..
/-- a row of texts that the document's disk owns -/
def StrR (base : Nat) (W : World) (v : Value) (l : List (List Int)) : Prop := W.ownsRow base 9 1 v l.length (strC l)
structure RDsk (base : Nat) (W : World) (g : Nat) (vs : List Value) (T : List (List (List Int))) : Prop where
  tab : W.heap[g]? = some (.cells vs.toArray 156 (0, 0))
  hg : base ≤ g
  len : vs.length = T.length
  row : ∀ (i : Nat) (v : Value) (l : List (List Int)), vs[i]? = some v → T[i]? = some l → StrR base W v l
  apart : ∀ (i j : Nat) (v v' : Value), i ≠ j → vs[i]? = some v → vs[j]? = some v' → v.ownBlock = none ∨ v.ownBlock ≠ v'.ownBlock
section
variable {base : Nat} {W W1 W' : World} {g : Nat} {vs : List Value} {T : List (List (List Int))}
theorem RDsk.keep (h : RDsk base W g vs T) (h1 : W'.heap[g]? = W.heap[g]?) (h2 : ∀ (k : Nat) (cs : Array Value), W.heap[k]? = some (Obj.cells cs 9 (0, 0)) → W'.heap[k]? = W.heap[k]?) : RDsk base W' g vs T :=
  ⟨h1.trans h.tab, h.hg, h.len, fun i v l hv hl => own_heap (h.row i v l hv hl) (fun k hk => by obtain ⟨cs, hc⟩ := own_type (h.row i v l hv hl) k hk; exact h2 k cs hc), h.apart⟩
theorem RDsk.next (h : RDsk base W g vs T) (hb : Below W.heap.size W W') : RDsk base W' g vs T :=
  h.keep (hb.block g (Array.getElem?_eq_some_iff.1 h.tab).1) (fun k cs hc => hb.block k (Array.getElem?_eq_some_iff.1 hc).1)
/-- the program's own blocks are of other types -/
theorem RDsk.keepB {L : List Blk} {g2 r : Nat} (h : RDsk base W g vs T) (hT : DTab base W g2 r L) (hk : KeepB [r] W W') : RDsk base W' g vs T := by
  obtain ⟨cs, hc, -⟩ := hT.rws
  refine h.keep (hk.keep g (Array.getElem?_eq_some_iff.1 h.tab).1 (fun hm => ?_)) (fun k ds hd => hk.keep k (Array.getElem?_eq_some_iff.1 hd).1 (fun hm => ?_))
  · have := h.tab
    rw [List.mem_singleton.1 hm, hc] at this
    exact absurd (Obj.cells.inj (Option.some.inj this)).2.1 (by decide)
  · rw [List.mem_singleton.1 hm, hc] at hd
    exact absurd (Obj.cells.inj (Option.some.inj hd)).2.1 (by decide)
theorem RDsk.le (h : RDsk base W g vs T) : base ≤ W.heap.size := by
  have := (Array.getElem?_eq_some_iff.1 h.tab).1
  have := h.hg
  omega
theorem RDsk.at_ (h : RDsk base W g vs T) (i : Nat) (l : List (List Int)) (hl : T[i]? = some l) : ∃ v, vs[i]? = some v ∧ W.cell? ⟨g, i, none⟩ = some v ∧ StrR base W v l := by
  obtain ⟨hi, -⟩ := List.getElem?_eq_some_iff.1 hl
  have hi' : i < vs.length := by rw [h.len]; exact hi
  have hv : vs[i]? = some vs[i] := List.getElem?_eq_getElem hi'
  refine ⟨_, hv, ?_, h.row i _ l hv hl⟩
  rw [cell_of_row W g i _ _ _ h.tab]
  simp
theorem RDsk.mid {i : Nat} {v : Value} {l : List (List Int)} (h : RDsk base W g vs T) (hv : vs[i]? = some v) (hl : T[i]? = some l) (hg : KeepOne W W1 v.ownBlock) : W1.heap[g]? = some (.cells vs.toArray 156 (0, 0)) :=
  (hg.typed (h.row i v l hv hl)).cells h.tab (by decide)
theorem RDsk.put {i : Nat} {v v1 : Value} {l l1 : List (List Int)} (h : RDsk base W g vs T) (hv : vs[i]? = some v) (hl : T[i]? = some l) (hg : KeepOne W W1 v.ownBlock) (ho : StrR base W1 v1 l1) (hat : v1.ownBlock = v.ownBlock ∨ ∃ b, v1.ownBlock = some b ∧ W.heap.size ≤ b) :
    RDsk base (W1.setCell ⟨g, i, none⟩ v1) g (vs.set i v1) (T.set i l1) ∧ KeepT [156, 9] W (W1.setCell ⟨g, i, none⟩ v1) := by
  have hk := hg.typed (h.row i v l hv hl)
  have c1 := hk.cells h.tab (by decide)
  have hs := KeepT.setCell c1 i v1
  have own : ∀ (u : Value) (m : List (List Int)), StrR base W1 u m → StrR base (W1.setCell ⟨g, i, none⟩ v1) u m := fun u m hu => own_heap hu (fun k hk => by
    obtain ⟨cs, hc⟩ := own_type hu k hk
    exact (hs.cells hc (by decide)).trans hc.symm)
  refine ⟨⟨?_, h.hg, by rw [List.length_set, List.length_set]; exact h.len, ?_, ?_⟩, (hk.mono (by simp)).trans (hs.mono (by simp))⟩
  · rw [setCell_eq_setRow W1 g i _ _ _ v1 c1, setRow_heap W1 g _ _ _ _ c1]
    simp
  · intro j u m hu hm
    by_cases e : j = i
    · subst e
      rw [List.getElem?_set_self (List.getElem?_eq_some_iff.1 hv).1] at hu
      rw [List.getElem?_set_self (List.getElem?_eq_some_iff.1 hl).1] at hm
      obtain rfl := Option.some.inj hu
      obtain rfl := Option.some.inj hm
      exact own _ _ ho
    · rw [List.getElem?_set_ne (fun h => e h.symm)] at hu hm
      refine own _ _ (own_heap (h.row j u m hu hm) (fun k hk => ?_))
      refine hg.block k ?_ (fun e2 => ?_)
      · obtain ⟨cs, hc⟩ := own_type (h.row j u m hu hm) k hk
        exact (Array.getElem?_eq_some_iff.1 hc).1
      · rcases h.apart j i u v e hu hv with h0 | h0
        · rw [h0] at hk; cases hk
        · exact h0 (hk.trans e2)
  · have key : ∀ (j : Nat) (u : Value), j ≠ i → vs[j]? = some u → (u.ownBlock = none ∨ u.ownBlock ≠ v1.ownBlock) := by
      intro j u e hu
      rcases hat with hat | ⟨b, hb, hle⟩
      · rw [hat]; exact h.apart j i u v e hu hv
      · cases hub : u.ownBlock with
        | none => exact .inl rfl
        | some k =>
          right
          rw [hb]
          intro he
          have hj : j < T.length := by rw [← h.len]; exact (List.getElem?_eq_some_iff.1 hu).1
          obtain ⟨cs, hc⟩ := own_type (h.row j u _ hu (List.getElem?_eq_getElem hj)) k hub
          have := (Array.getElem?_eq_some_iff.1 hc).1
          have := Option.some.inj he
          omega
    intro j k u u' hjk hu hu'
    by_cases ej : j = i
    · subst ej
      rw [List.getElem?_set_self (List.getElem?_eq_some_iff.1 hv).1] at hu
      obtain rfl := Option.some.inj hu
      rw [List.getElem?_set_ne (fun h => hjk h)] at hu'
      rcases key k u' (fun h => hjk h.symm) hu' with h0 | h0
      · cases hvb : v1.ownBlock with
        | none => exact .inl rfl
        | some b => right; rw [h0]; exact fun hh => by cases hh
      · exact .inr (fun hh => h0 hh.symm)
    · rw [List.getElem?_set_ne (fun h => ej h.symm)] at hu
      by_cases ek : k = i
      · subst ek
        rw [List.getElem?_set_self (List.getElem?_eq_some_iff.1 hv).1] at hu'
        obtain rfl := Option.some.inj hu'
        exact key j u ej hu
      · rw [List.getElem?_set_ne (fun h => ek h.symm)] at hu'
        exact h.apart j k u u' hjk hu hu'
end
theorem infoS : (Try.prog.info? 9).map (fun i => (i.zero, i.size, i.bytes)) = some (some (.string ⟨#[]⟩), 1, 16) := by kernel_rfl
def Z72 : List Int := List.replicate 72 0
attribute [local irreducible] Z72
def TellsS (s : List Int) (w : World) (e : Ending) (w' : World) : Prop := e = .returned (.string (strOfNums s)) ∧ Below w.heap.size w w'
theorem zeros_any (w : World) : Calls Try.prog 102 #[] w (TellsS Z72 w) := Go.Proofs.Ytoiiacbbfhlocaa.Dr.padlockref06_Zeros.calls _ w (by unfold Go.Proofs.Ytoiiacbbfhlocaa.Dr.padlockref06_Zeros.f Z72; rw [if_pos (by decide)])
def RNewOut (n : Nat) (w : World) (e : Ending) (w' : World) : Prop := ∃ g vs, e = .returned (.pointer (some ⟨g, 0, none⟩)) ∧ RDsk w.heap.size w' g vs [List.replicate n Z72, List.replicate n [], List.replicate n Z72] ∧ Below w.heap.size w w'
set_option maxRecDepth 100000 in
set_option maxHeartbeats 4000000 in
theorem rnew_any (n : Nat) (w : World) (hn : n ≤ 1000) : Calls Try.prog 49 #[.int .i64 n] w (RNewOut n w) := by
  obtain ⟨base, hbase⟩ : ∃ base, base = w.heap.size := ⟨_, rfl⟩
  obtain ⟨g, hg0⟩ : ∃ g, g = w.heap.size := ⟨_, rfl⟩
  have h0 : RDsk base (w.alloc (.cells #[.slice none 0 0, .slice none 0 0, .slice none 0 0] 156)) g [.slice none 0 0, .slice none 0 0, .slice none 0 0] [List.replicate 0 Z72, List.replicate 0 [], List.replicate 0 Z72] ∧ Below base w (w.alloc (.cells #[.slice none 0 0, .slice none 0 0, .slice none 0 0] 156)) := by
    have key : ∀ (i : Nat) (v : Value), ([.slice none 0 0, .slice none 0 0, .slice none 0 0] : List Value)[i]? = some v → v = .slice none 0 0 := fun i v hv => by
      have := List.mem_of_getElem? hv
      simpa using this
    refine ⟨⟨by rw [hg0]; exact heap_alloc_new w _, by omega, rfl, fun i v l hv hl => ?_, fun i j v v' _ hv _ => .inl (by rw [key i v hv]; rfl)⟩, by rw [hbase]; exact below_alloc (Below.refl _ _) _⟩
    obtain rfl : l = [] := by
      have := List.mem_of_getElem? hl
      simpa using this
    rw [key i v hv]
    exact ⟨rfl, .inl ⟨rfl, rfl⟩⟩
  have H0 := Lib.hid h0
  have hgw : g ≠ w.heap.size + 1 := by omega
  clear h0 hgw
  go_enter Try.func49, Try.ntmps49
  go_wp2
  rw [← hg0]
  have HG := Lib.hid hg0
  have HBS := Lib.hid hbase
  clear hg0 hbase
  go_loopg [4] n (fun gg s4 wr => ∃ (kk : Nat) (vs : List Value), kk ≤ n ∧ n - kk ≤ gg ∧ s4 = .int .i64 kk ∧ Aside0 (RDsk base wr g vs [List.replicate kk Z72, List.replicate kk [], List.replicate kk Z72] ∧ Below base w wr))
  case atStart => exact ⟨0, _, Nat.zero_le _, by omega, rfl, ⟨H0.out⟩⟩
  case round =>
    clear H0
    obtain ⟨kk, vs, hkk, hgg, rfl, HR⟩ := hrel
    by_cases hlt : kk < n
    · have hltz : (kk : Int) < (n : Int) := by omega
      have HR0 := Lib.hid HR.out
      clear HR
      obtain ⟨wq, hwq⟩ : ∃ wq : World, wq = wr := ⟨_, rfl⟩
      subst hwq
      go_wp2
      obtain ⟨v, hv, hcv, hrow⟩ := HR0.out.1.at_ 0 _ rfl
      refine l_region [8] (fun u => u.cell? ⟨g, 0, none⟩ = some v) (by kernel_rfl) 11 (by kernel_rfl) (by exact hcv) (fun hS => ?_)
      have HTd := Lib.hid (HR0.out.1.next (below_drew (Below.refl wq.heap.size wq)))
      have HBd := Lib.hid (below_drew HR0.out.2)
      generalize hwd : wq.drew = wd at *
      clear hwd HR0 hrow hcv
      refine l_take 0 (_) hS rfl rfl (by kernel_rfl) (by kernel_rfl) (by kernel_rfl) (fun _ _ _ h => h) rfl (fun w' hw' => run_move_at _ rfl w') ?_
      simp only [Act.put, List.setIfInBounds_toArray, List.set_cons_zero, List.set_cons_succ]
      refine l_take 1 (_) hS rfl rfl (by kernel_rfl) (by kernel_rfl) (by kernel_rfl) (fun _ _ _ h => h) rfl (fun w' hw' => run_move_at _ rfl w') ?_
      simp only [Act.put, List.setIfInBounds_toArray, List.set_cons_zero, List.set_cons_succ]
      refine l_take 2 (.pointer (some ⟨g, 0, none⟩)) hS rfl rfl (by kernel_rfl) (by kernel_rfl) (by kernel_rfl) (fun _ _ _ h => h) rfl (fun w' hw' => by (unfold execOp; simp [go_sem, Act.put, Act.eval])) ?_
      simp only [Act.put, List.setIfInBounds_toArray, List.set_cons_zero, List.set_cons_succ]
      refine l_take 3 (.pointer (some ⟨g, 0, none⟩)) hS rfl rfl (by kernel_rfl) (by kernel_rfl) (by kernel_rfl) (fun _ _ _ h => h) rfl (fun w' hw' => by (unfold execOp; simp [go_sem, Act.put, Act.eval])) ?_
      simp only [Act.put, List.setIfInBounds_toArray, List.set_cons_zero, List.set_cons_succ]
      refine l_take 4 (v) hS rfl rfl (by kernel_rfl) (by kernel_rfl) (by kernel_rfl) (fun _ _ _ h => h) rfl (fun w' hw' => by (have hc0 := hw'; unfold execOp; simp [go_sem, Act.put, Act.eval, hc0])) ?_
      simp only [Act.put, List.setIfInBounds_toArray, List.set_cons_zero, List.set_cons_succ]
      refine l_one 5 rfl (by kernel_rfl) ?_
      refine gl_call rfl 102 _ _ Try.func102 (by kernel_rfl) rfl _ _ #[] rfl (by simp [Act.put, Act.eval]) (zeros_any wd) ?_
      rintro e w2 ⟨rfl, hb2⟩
      have HT2 := Lib.hid (HTd.out.next hb2)
      have HB2 := Lib.hid (HBd.out.trans (hb2.mono HTd.out.le))
      obtain ⟨v9, hv9, hcv2, hrow2⟩ := HT2.out.at_ 0 _ rfl
      rw [hv] at hv9
      obtain rfl := Option.some.inj hv9
      have hS := hcv2
      refine ⟨_, rfl, hS, ?_⟩
      simp only [Act.put, List.setIfInBounds_toArray, List.set_cons_zero, List.set_cons_succ]
      clear HTd HBd hb2 hv9
      have HRW := Lib.hid (show w2.ownsRow base 9 1 v kk (strC (List.replicate kk Z72)) from by have h := hrow2; unfold StrR at h; rw [List.length_replicate] at h; exact h)
      have hgl2 : g < w2.heap.size := World.block_lt_of_cell? _ _ hcv2
      have hSA : (w2.alloc (.cells #[.string (strOfNums Z72)] 9)).cell? ⟨g, 0, none⟩ = some v := ((below_alloc (Below.refl w2.heap.size w2) _).cell (p := ⟨g, 0, none⟩) hgl2).trans hcv2
      refine l_one 6 rfl (by kernel_rfl) ?_
      refine gl_event (.slice (some ⟨w2.heap.size, 0, none⟩) 1 1) (w2.alloc (.cells #[.string (strOfNums Z72)] 9)) rfl (by (unfold execOp; simp [go_sem, Act.put, Act.eval])) hSA (fun hS => ?_)
      simp only [Act.put, List.setIfInBounds_toArray, List.set_cons_zero, List.set_cons_succ]
      refine l_one 7 rfl (by kernel_rfl) ?_
      intro K' hK'
      refine step_append_cells (w0 := w) base (by rfl) (.tmp 16) (.tmp 18) 94 9 (.string ⟨#[]⟩) 1 16 rfl Try.underlying94 infoS rfl (by decide) (by decide) v _ _ [.string (strOfNums Z72)] rfl rfl rfl (by simp [Value.oneCell']) HRW.out HB2.out HT2.out.le (by omega) ?_
      intro v1 w5 ho5 hb5 hg5 hat5
      have ho5' : StrR base w5 v1 (List.replicate kk Z72 ++ [Z72]) := by have h := ho5; unfold StrR; rw [strC_snoc, List.length_append, List.length_replicate]; exact h
      have hM5 := HT2.out.mid hv rfl (.of_grown hg5)
      have hf5 := frozen_of_row w5 g 0 _ _ hM5
      have hS5 : w5.cell? ⟨g, 0, none⟩ = some v := (blk_cell hM5 0).trans (by simpa using hv)
      refine hK'.out _ _ (.inr hS5) ?_
      clear hK' K'
      simp only [Act.put, List.setIfInBounds_toArray, List.set_cons_zero, List.set_cons_succ]
      refine l_one 8 rfl (by kernel_rfl) ?_
      refine gl_event (.pointer (some ⟨g, 0, none⟩)) w5 rfl (by (unfold execOp; simp [go_sem, Act.put, Act.eval])) hS5 (fun hS => ?_)
      simp only [Act.put, List.setIfInBounds_toArray, List.set_cons_zero, List.set_cons_succ]
      refine l_take 9 (.pointer (some ⟨g, 0, none⟩)) hS5 rfl rfl (by kernel_rfl) (by kernel_rfl) (by kernel_rfl) (fun _ _ _ h => h) rfl (fun w' hw' => by (unfold execOp; simp [go_sem, Act.put, Act.eval])) ?_
      simp only [Act.put, List.setIfInBounds_toArray, List.set_cons_zero, List.set_cons_succ]
      have P := HT2.out.put hv rfl (.of_grown hg5) ho5' hat5
      refine l_one 10 rfl (by kernel_rfl) ?_
      refine gl_last (w5.setCell ⟨g, 0, none⟩ v1) (by kernel_rfl) rfl (by (obtain ⟨g1, c1, rfl⟩ := ownsRow_succ ho5; have hc0 := hS5; have hc1 := hf5; unfold execOp; simp [go_sem, Act.put, Act.eval, hc0, hc1])) ?_
      simp only [Act.put, List.setIfInBounds_toArray, List.set_cons_zero, List.set_cons_succ]
      refine l_done (by kernel_rfl) ?_
      have FIN := Lib.hid (And.intro P.1 (hb5.setCell (p := ⟨g, 0, none⟩) HT2.out.hg v1))
      clear P hb5 hS5 hf5 hM5 hS hSA ho5 ho5' hg5 hat5 HT2 HB2 HRW hcv2 hrow2 hgl2 hv
      generalize hw7 : w5.setCell ⟨g, 0, none⟩ v1 = w6 at *
      clear hw7
      simp only [List.set_cons_zero] at FIN
      have F6 := Lib.hid FIN.out
      clear FIN
      obtain ⟨v, hv, hcv, hrow⟩ := F6.out.1.at_ 1 _ rfl
      have HROW := Lib.hid (show w6.ownsRow base 9 1 v kk (strC (List.replicate kk [])) from by have h := hrow; unfold StrR at h; rw [List.length_replicate] at h; exact h)
      clear hrow
      have hgl6 : g < w6.heap.size := World.block_lt_of_cell? _ _ hcv
      have hgn6 : g ≠ w6.heap.size := Nat.ne_of_lt hgl6
      go_wp2_with (((with_reducible refine gate_builtin (b := .append) (xs := #[.tmp 26, .tmp 27]) rfl ?_); at_builtin; refine blk ?_))
      refine ⟨?_⟩
      refine print_append_cells (w0 := w) base rfl (.tmp 26) (.tmp 27) 94 9 (.string ⟨#[]⟩) 1 16 rfl Try.underlying94 infoS rfl (by decide) (by decide) v kk (strC (List.replicate kk [])) [.string (strOfNums [])] rfl rfl rfl (by simp [Value.oneCell']) HROW.out F6.out.2 F6.out.1.le (by omega) ?_
      intro v1 w5 ho5 hb5 hg5 hat5
      have ho5' : StrR base w5 v1 (List.replicate kk [] ++ [[]]) := by have h := ho5; unfold StrR; rw [strC_snoc, List.length_append, List.length_replicate]; exact h
      obtain ⟨g1, c1, e1⟩ := ownsRow_succ ho5
      subst e1
      have P := F6.out.1.put hv rfl (.of_grown hg5) ho5' hat5
      have hM5 := F6.out.1.mid hv rfl (.of_grown hg5)
      have hf5 := frozen_of_row w5 g 1 _ _ hM5
      have hS5 : w5.cell? ⟨g, 1, none⟩ = some v := (blk_cell hM5 1).trans (by simpa using hv)
      have F7 := Lib.hid (And.intro P.1 (hb5.setCell (p := ⟨g, 1, none⟩) F6.out.1.hg (.slice (some ⟨g1, 0, none⟩) (kk + 1) c1)))
      clear P hb5 hM5 ho5 ho5' hg5 hat5 F6 HROW hcv hgn6 hgl6 hv
      go_wp2
      generalize hw7 : w5.setCell ⟨g, 1, none⟩ (.slice (some ⟨g1, 0, none⟩) (kk + 1) c1) = w7 at *
      clear hw7 hS5 hf5
      simp only [List.set_cons_zero, List.set_cons_succ] at F7
      obtain ⟨v, hv, hcv, hrow⟩ := F7.out.1.at_ 2 _ rfl
      refine l_region [8] (fun u => u.cell? ⟨g, 2, none⟩ = some v) (by kernel_rfl) 11 (by kernel_rfl) (by exact hcv) (fun hS => ?_)
      have HTd := Lib.hid (F7.out.1.next (below_drew (Below.refl w7.heap.size w7)))
      have HBd := Lib.hid (below_drew F7.out.2)
      generalize hwd : w7.drew = wd at *
      clear hwd F7 hrow hcv
      refine l_take 0 (_) hS rfl rfl (by kernel_rfl) (by kernel_rfl) (by kernel_rfl) (fun _ _ _ h => h) rfl (fun w' hw' => run_move_at _ rfl w') ?_
      simp only [Act.put, List.setIfInBounds_toArray, List.set_cons_zero, List.set_cons_succ]
      refine l_take 1 (_) hS rfl rfl (by kernel_rfl) (by kernel_rfl) (by kernel_rfl) (fun _ _ _ h => h) rfl (fun w' hw' => run_move_at _ rfl w') ?_
      simp only [Act.put, List.setIfInBounds_toArray, List.set_cons_zero, List.set_cons_succ]
      refine l_take 2 (.pointer (some ⟨g, 0, none⟩)) hS rfl rfl (by kernel_rfl) (by kernel_rfl) (by kernel_rfl) (fun _ _ _ h => h) rfl (fun w' hw' => by (unfold execOp; simp [go_sem, Act.put, Act.eval])) ?_
      simp only [Act.put, List.setIfInBounds_toArray, List.set_cons_zero, List.set_cons_succ]
      refine l_take 3 (.pointer (some ⟨g, 2, none⟩)) hS rfl rfl (by kernel_rfl) (by kernel_rfl) (by kernel_rfl) (fun _ _ _ h => h) rfl (fun w' hw' => by (unfold execOp; simp [go_sem, Act.put, Act.eval])) ?_
      simp only [Act.put, List.setIfInBounds_toArray, List.set_cons_zero, List.set_cons_succ]
      refine l_take 4 (v) hS rfl rfl (by kernel_rfl) (by kernel_rfl) (by kernel_rfl) (fun _ _ _ h => h) rfl (fun w' hw' => by (have hc0 := hw'; unfold execOp; simp [go_sem, Act.put, Act.eval, hc0])) ?_
      simp only [Act.put, List.setIfInBounds_toArray, List.set_cons_zero, List.set_cons_succ]
      refine l_one 5 rfl (by kernel_rfl) ?_
      refine gl_call rfl 102 _ _ Try.func102 (by kernel_rfl) rfl _ _ #[] rfl (by simp [Act.put, Act.eval]) (zeros_any wd) ?_
      rintro e w2 ⟨rfl, hb2⟩
      have HT2 := Lib.hid (HTd.out.next hb2)
      have HB2 := Lib.hid (HBd.out.trans (hb2.mono HTd.out.le))
      obtain ⟨v9, hv9, hcv2, hrow2⟩ := HT2.out.at_ 2 _ rfl
      rw [hv] at hv9
      obtain rfl := Option.some.inj hv9
      have hS := hcv2
      refine ⟨_, rfl, hS, ?_⟩
      simp only [Act.put, List.setIfInBounds_toArray, List.set_cons_zero, List.set_cons_succ]
      clear HTd HBd hb2 hv9
      have HRW := Lib.hid (show w2.ownsRow base 9 1 v kk (strC (List.replicate kk Z72)) from by have h := hrow2; unfold StrR at h; rw [List.length_replicate] at h; exact h)
      have hgl2 : g < w2.heap.size := World.block_lt_of_cell? _ _ hcv2
      have hSA : (w2.alloc (.cells #[.string (strOfNums Z72)] 9)).cell? ⟨g, 2, none⟩ = some v := ((below_alloc (Below.refl w2.heap.size w2) _).cell (p := ⟨g, 2, none⟩) hgl2).trans hcv2
      refine l_one 6 rfl (by kernel_rfl) ?_
      refine gl_event (.slice (some ⟨w2.heap.size, 0, none⟩) 1 1) (w2.alloc (.cells #[.string (strOfNums Z72)] 9)) rfl (by (unfold execOp; simp [go_sem, Act.put, Act.eval])) hSA (fun hS => ?_)
      simp only [Act.put, List.setIfInBounds_toArray, List.set_cons_zero, List.set_cons_succ]
      refine l_one 7 rfl (by kernel_rfl) ?_
      intro K' hK'
      refine step_append_cells (w0 := w) base (by rfl) (.tmp 35) (.tmp 37) 94 9 (.string ⟨#[]⟩) 1 16 rfl Try.underlying94 infoS rfl (by decide) (by decide) v _ _ [.string (strOfNums Z72)] rfl rfl rfl (by simp [Value.oneCell']) HRW.out HB2.out HT2.out.le (by omega) ?_
      intro v1 w5 ho5 hb5 hg5 hat5
      have ho5' : StrR base w5 v1 (List.replicate kk Z72 ++ [Z72]) := by have h := ho5; unfold StrR; rw [strC_snoc, List.length_append, List.length_replicate]; exact h
      have hM5 := HT2.out.mid hv rfl (.of_grown hg5)
      have hf5 := frozen_of_row w5 g 2 _ _ hM5
      have hS5 : w5.cell? ⟨g, 2, none⟩ = some v := (blk_cell hM5 2).trans (by simpa using hv)
      refine hK'.out _ _ (.inr hS5) ?_
      clear hK' K'
      simp only [Act.put, List.setIfInBounds_toArray, List.set_cons_zero, List.set_cons_succ]
      refine l_one 8 rfl (by kernel_rfl) ?_
      refine gl_event (.pointer (some ⟨g, 0, none⟩)) w5 rfl (by (unfold execOp; simp [go_sem, Act.put, Act.eval])) hS5 (fun hS => ?_)
      simp only [Act.put, List.setIfInBounds_toArray, List.set_cons_zero, List.set_cons_succ]
      refine l_take 9 (.pointer (some ⟨g, 2, none⟩)) hS5 rfl rfl (by kernel_rfl) (by kernel_rfl) (by kernel_rfl) (fun _ _ _ h => h) rfl (fun w' hw' => by (unfold execOp; simp [go_sem, Act.put, Act.eval])) ?_
      simp only [Act.put, List.setIfInBounds_toArray, List.set_cons_zero, List.set_cons_succ]
      have P := HT2.out.put hv rfl (.of_grown hg5) ho5' hat5
      refine l_one 10 rfl (by kernel_rfl) ?_
      refine gl_last (w5.setCell ⟨g, 2, none⟩ v1) (by kernel_rfl) rfl (by (obtain ⟨g1, c1, rfl⟩ := ownsRow_succ ho5; have hc0 := hS5; have hc1 := hf5; unfold execOp; simp [go_sem, Act.put, Act.eval, hc0, hc1])) ?_
      simp only [Act.put, List.setIfInBounds_toArray, List.set_cons_zero, List.set_cons_succ]
      refine l_done (by kernel_rfl) ?_
      have FIN := Lib.hid (And.intro P.1 (hb5.setCell (p := ⟨g, 2, none⟩) HT2.out.hg v1))
      clear P hb5 hS5 hf5 hM5 hS hSA ho5 ho5' hg5 hat5 HT2 HB2 HRW hcv2 hrow2 hgl2 hv
      generalize hw7 : w5.setCell ⟨g, 2, none⟩ v1 = w9 at *
      clear hw7
      simp only [List.set_cons_zero, List.set_cons_succ] at FIN
      have hrep : ∀ (x : List Int), List.replicate kk x ++ [x] = List.replicate (kk + 1) x := fun x => List.replicate_succ'.symm
      rw [hrep, hrep] at FIN
      go_wp2
      go_roundg (n - (kk + 1))
      case measure => omega
      case rel => exact ⟨kk + 1, _, by omega, by omega, by go_num, ⟨FIN.out⟩⟩
    · have hltz : ¬ (kk : Int) < (n : Int) := by omega
      have e : kk = n := by omega
      subst e
      go_wp2
      go_ret
      have h := HR.out
      rw [HBS.out] at h
      exact ⟨g, vs, rfl, h.1, h.2⟩
end Go.Proofs.Ytoiiacbbfhlocaa.HDa
