/- Layer 6: a disk's blocks in the heap; at, now, Blocks. -/
import Derived.Test.YtoiiacbbfhlocaaCom
import Derived.Test.YtoiiacbbfhlocaaChs
import Derived.Test.YtoiiacbbfhlocaaRng
import Derived.Deep.MidRow
set_option linter.unusedVariables false
set_option linter.unusedSimpArgs false
namespace Go.Proofs.Ytoiiacbbfhlocaa.HDa
open Go.RowKit Go.Proofs.YtoiiacbbfhlocaaW.PrintWords Go.Proofs.YtoiiacbbfhlocaaW.PrintLast Go.Proofs.YtoiiacbbfhlocaaW.PrintMore Go.Proofs.Ytoiiacbbfhlocaa.Kit
/-- all blocks but some are as they were -/
structure KeepB (bs : List Nat) (w w' : World) : Prop where
  size : w.heap.size ≤ w'.heap.size
  keep : ∀ k, k < w.heap.size → k ∉ bs → w'.heap[k]? = w.heap[k]?
theorem KeepB.refl (bs : List Nat) (w : World) : KeepB bs w w := ⟨Nat.le_refl _, fun _ _ _ => rfl⟩
theorem KeepB.trans {bs : List Nat} {a b c : World} (h : KeepB bs a b) (h' : KeepB bs b c) : KeepB bs a c := ⟨Nat.le_trans h.size h'.size, fun k hk hn => (h'.keep k (Nat.lt_of_lt_of_le hk h.size) hn).trans (h.keep k hk hn)⟩
theorem KeepB.mono {bs cs : List Nat} {a b : World} (h : KeepB bs a b) (hs : ∀ k, k ∈ bs → k ∈ cs) : KeepB cs a b := ⟨h.size, fun k hk hn => h.keep k hk (fun hm => hn (hs k hm))⟩
theorem KeepB.of_below (bs : List Nat) {w w' : World} (h : Below w.heap.size w w') : KeepB bs w w' := ⟨h.size, fun k hk _ => h.block k hk⟩
theorem KeepB.next {bs : List Nat} {w w1 w2 : World} (h : KeepB bs w w1) (hb : Below w1.heap.size w1 w2) : KeepB bs w w2 := h.trans (.of_below bs hb)
theorem KeepB.cells {bs : List Nat} {w w' : World} (h : KeepB bs w w') {k : Nat} {o : Obj} (ho : w.heap[k]? = some o) (hn : k ∉ bs) : w'.heap[k]? = some o := (h.keep k (Array.getElem?_eq_some_iff.1 ho).1 hn).trans ho
theorem cell_of_heap {w w' : World} {p : Addr} (h : w'.heap[p.block]? = w.heap[p.block]?) : w'.cell? p = w.cell? p := by
  unfold World.cell?
  rw [h]
theorem frozen_of_heap {w w' : World} {p : Addr} (h : w'.heap[p.block]? = w.heap[p.block]?) : w'.frozen? p = w.frozen? p := by
  unfold World.frozen?
  rw [h]
theorem rangeAt_of_heap {w w' : World} {b o : Nat} {cs : List Value} (h : w'.heap[b]? = w.heap[b]?) (hr : w.rangeAt b o cs) : w'.rangeAt b o cs := fun j v hv => (cell_of_heap (p := ⟨b, o + j, none⟩) h).trans (hr j v hv)
theorem heap_setCells_ne (b k : Nat) (hk : k ≠ b) : ∀ (vs : List Value) (o : Nat) (w : World), (w.setCells b o vs).heap[k]? = w.heap[k]?
  | [], o, w => rfl
  | v :: r, o, w => by rw [World.setCells, heap_setCells_ne b k hk r, Below.heap_setCell w ⟨b, o, none⟩ v k hk]
theorem size_setCells (b : Nat) : ∀ (vs : List Value) (o : Nat) (w : World), (w.setCells b o vs).heap.size = w.heap.size
  | [], o, w => rfl
  | v :: r, o, w => by
    rw [World.setCells, size_setCells b r]
    simp
theorem heap_setCells_some (b : Nat) (t : TypeId) (n : Nat) : ∀ (vs : List Value) (o : Nat) (w : World), (∃ cs, w.heap[b]? = some (.cells cs t (0, 0)) ∧ cs.size = n) → ∃ cs, (w.setCells b o vs).heap[b]? = some (.cells cs t (0, 0)) ∧ cs.size = n
  | [], o, w, h => h
  | v :: r, o, w, h => by
    rw [World.setCells]
    refine heap_setCells_some b t n r (o + 1) _ ?_
    obtain ⟨cs, h1, h2⟩ := h
    rw [setCell_eq_setRow w b o _ _ _ v h1]
    exact ⟨_, setRow_heap w b _ _ _ _ h1, by simp [h2]⟩
theorem below_cells {B b : Nat} (hb : B ≤ b) (vs : List Value) (o : Nat) {a w : World} (h : Below B a w) : Below B a (w.setCells b o vs) := by
  induction vs generalizing o w with
  | nil => exact h
  | cons v r ih =>
    rw [World.setCells]
    exact ih (o + 1) (h.setCell (p := ⟨b, o, none⟩) hb v)
theorem KeepB.setCells (w : World) (b o : Nat) (vs : List Value) : KeepB [b] w (w.setCells b o vs) := ⟨by rw [size_setCells]; exact Nat.le_refl _, fun k _ hn => heap_setCells_ne b k (fun e => hn (e ▸ List.mem_singleton.2 rfl)) vs o w⟩
structure Blk where
  d : List Int
  f : List Int
  p : List Int
  q : Bool
def Blk.now (b : Blk) : List Int := if b.q then b.f else b.d
structure Blk.Fine (b : Blk) : Prop where
  ld : b.d.length = 72
  lf : b.f.length = 72
  lp : b.p.length = 72
  bd : Bytes b.d
  bf : Bytes b.f
  bp : Bytes b.p
theorem Blk.Fine.now_len {b : Blk} (h : b.Fine) : b.now.length = 72 := by unfold Blk.now; split; exact h.lf; exact h.ld
theorem Blk.Fine.now_bytes {b : Blk} (h : b.Fine) : Bytes b.now := by unfold Blk.now; split; exact h.bf; exact h.bd
structure BlkAt (W : World) (r o : Nat) (b : Blk) : Prop where
  d : W.rangeAt r o (nums .u8 b.d)
  f : W.rangeAt r (o + 72) (nums .u8 b.f)
  p : W.rangeAt r (o + 144) (nums .u8 b.p)
  q : W.cell? ⟨r, o + 216, none⟩ = some (.bool b.q)
theorem BlkAt.heap {W W' : World} {r o : Nat} {b : Blk} (h : BlkAt W r o b) (e : W'.heap[r]? = W.heap[r]?) : BlkAt W' r o b := ⟨rangeAt_of_heap e h.d, rangeAt_of_heap e h.f, rangeAt_of_heap e h.p, (cell_of_heap (p := ⟨r, o + 216, none⟩) e).trans h.q⟩
theorem nums_len (k : IntKind) (l : List Int) : (nums k l).length = l.length := by simp [nums]
/-- a store into another block's cells -/
theorem BlkAt.far {W : World} {r o : Nat} {b : Blk} (h : BlkAt W r o b) (hb : b.Fine) (o2 : Nat) (vs : List Value) (ha : o + 217 ≤ o2 ∨ o2 + vs.length ≤ o) : BlkAt (W.setCells r o2 vs) r o b := by
  have l1 := hb.ld; have l2 := hb.lf; have l3 := hb.lp
  refine ⟨World.rangeAt_setCells_apart h.d r o2 vs (by rw [nums_len]; omega), World.rangeAt_setCells_apart h.f r o2 vs (by rw [nums_len]; omega), World.rangeAt_setCells_apart h.p r o2 vs (by rw [nums_len]; omega), ?_⟩
  rw [World.cell?_setCells_out r vs o2 W ⟨r, o + 216, none⟩ (fun _ _ => by
    rcases ha with ha | ha
    · left; show o + 216 < o2; omega
    · right; show o2 + vs.length ≤ o + 216; omega)]
  exact h.q
structure DTab (base : Nat) (W : World) (g r : Nat) (L : List Blk) : Prop where
  tab : W.heap[g]? = some (.cells #[.slice (some ⟨r, 0, none⟩) L.length L.length] 154 (0, 0))
  rws : ∃ cs : Array Value, W.heap[r]? = some (.cells cs 164 (0, 0)) ∧ cs.size = L.length * 217
  blk : ∀ (i : Nat) (b : Blk), L[i]? = some b → BlkAt W r (i * 217) b ∧ b.Fine
  hg : base ≤ g
  hr : base ≤ r
theorem DTab.keepB {bs : List Nat} {base : Nat} {W W' : World} {g r : Nat} {L : List Blk} (h : DTab base W g r L) (hk : KeepB bs W W') (h1 : g ∉ bs) (h2 : r ∉ bs) : DTab base W' g r L := by
  obtain ⟨cs, hc, hs⟩ := h.rws
  have e : W'.heap[r]? = W.heap[r]? := hk.keep r (Array.getElem?_eq_some_iff.1 hc).1 h2
  exact ⟨hk.cells h.tab h1, ⟨cs, e.trans hc, hs⟩, fun i b hb => ⟨(h.blk i b hb).1.heap e, (h.blk i b hb).2⟩, h.hg, h.hr⟩
theorem DTab.next {base : Nat} {W W' : World} {g r : Nat} {L : List Blk} (h : DTab base W g r L) (hb : Below W.heap.size W W') : DTab base W' g r L := h.keepB (.of_below [] hb) (by simp) (by simp)
theorem DTab.cell {base : Nat} {W : World} {g r : Nat} {L : List Blk} (h : DTab base W g r L) : W.cell? ⟨g, 0, none⟩ = some (.slice (some ⟨r, 0, none⟩) L.length L.length) := by
  rw [cell_of_row W g 0 _ _ _ h.tab]; rfl
theorem DTab.le {base : Nat} {W : World} {g r : Nat} {L : List Blk} (h : DTab base W g r L) : base ≤ W.heap.size := by
  have := (Array.getElem?_eq_some_iff.1 h.tab).1
  have := h.hg
  omega
theorem DTab.rlt {base : Nat} {W : World} {g r : Nat} {L : List Blk} (h : DTab base W g r L) : r < W.heap.size := by
  obtain ⟨cs, hc, -⟩ := h.rws
  exact (Array.getElem?_eq_some_iff.1 hc).1
theorem DTab.ne {base : Nat} {W : World} {g r : Nat} {L : List Blk} (h : DTab base W g r L) : g ≠ r := by
  intro e
  obtain ⟨cs, hc, -⟩ := h.rws
  have := h.tab
  rw [e, hc] at this
  exact absurd (Obj.cells.inj (Option.some.inj this)).2.1 (by decide)
theorem DTab.free {base : Nat} {W : World} {g r : Nat} {L : List Blk} (h : DTab base W g r L) (j : Nat) : W.frozen? ⟨r, j, none⟩ = false := by
  obtain ⟨cs, hc, -⟩ := h.rws
  exact frozen_of_row W r j _ _ hc
theorem DTab.there {base : Nat} {W : World} {g r : Nat} {L : List Blk} (h : DTab base W g r L) (o n : Nat) (hn : o + n ≤ L.length * 217) : W.there r o n := fun j hj => by
  obtain ⟨cs, hc, hs⟩ := h.rws
  refine ⟨?_, h.free _⟩
  rw [cell_of_row W r (o + j) _ _ _ hc, Array.getElem?_eq_getElem (by omega)]
  rfl
theorem at_lt {L : List Blk} {i : Nat} {b : Blk} (hb : L[i]? = some b) : i * 217 + 217 ≤ L.length * 217 := by
  have := (List.getElem?_eq_some_iff.1 hb).1
  omega
/-- some cells of a block are stored -/
theorem DTab.set {base : Nat} {W : World} {g r : Nat} {L : List Blk} (h : DTab base W g r L) (i : Nat) (b b' : Blk) (hb : L[i]? = some b) (off : Nat) (vs : List Value) (ho : off + vs.length ≤ 217) (hb' : BlkAt (W.setCells r (i * 217 + off) vs) r (i * 217) b') (hf : b'.Fine) :
    DTab base (W.setCells r (i * 217 + off) vs) g r (L.set i b') ∧ KeepB [r] W (W.setCells r (i * 217 + off) vs) ∧ Below base W (W.setCells r (i * 217 + off) vs) := by
  refine ⟨⟨?_, ?_, ?_, h.hg, h.hr⟩, .setCells W r _ vs, below_cells h.hr vs _ (Below.refl base W)⟩
  · rw [heap_setCells_ne r g h.ne, List.length_set]
    exact h.tab
  · rw [List.length_set]
    exact heap_setCells_some r _ _ vs _ W h.rws
  · intro j c hc
    by_cases e : j = i
    · subst e
      rw [List.getElem?_set_self (List.getElem?_eq_some_iff.1 hb).1] at hc
      obtain rfl := Option.some.inj hc
      exact ⟨hb', hf⟩
    · rw [List.getElem?_set_ne (fun h => e h.symm)] at hc
      obtain ⟨h1, h2⟩ := h.blk j c hc
      refine ⟨h1.far h2 _ vs ?_, h2⟩
      rcases Nat.lt_or_ge j i with hl | hl
      · left; omega
      · right; omega
section
variable {base : Nat} {W : World} {g r : Nat} {L : List Blk} {i : Nat} {b : Blk}
theorem DTab.setD (h : DTab base W g r L) (hb : L[i]? = some b) (xs : List Int) (hl : xs.length = 72) (hx : Bytes xs) :
    DTab base (W.setCells r (i * 217) (nums .u8 xs)) g r (L.set i { b with d := xs }) ∧ KeepB [r] W (W.setCells r (i * 217) (nums .u8 xs)) ∧ Below base W (W.setCells r (i * 217) (nums .u8 xs)) := by
  obtain ⟨h1, h2⟩ := h.blk i b hb
  have hlt := at_lt hb
  have hh := h.set i b { b with d := xs } hb 0 (nums .u8 xs) (by rw [nums_len]; omega) ⟨World.rangeAt_setCells_same W r _ _ (h.there _ _ (by rw [nums_len]; omega)), World.rangeAt_setCells_apart h1.f r _ _ (by rw [nums_len, nums_len]; omega), World.rangeAt_setCells_apart h1.p r _ _ (by rw [nums_len, nums_len]; omega), ?_⟩ ⟨hl, h2.lf, h2.lp, hx, h2.bf, h2.bp⟩
  · exact hh
  · rw [World.cell?_setCells_out r _ _ W ⟨r, i * 217 + 216, none⟩ (fun _ _ => by right; show i * 217 + 0 + _ ≤ i * 217 + 216; rw [nums_len]; omega)]
    exact h1.q
theorem DTab.setF (h : DTab base W g r L) (hb : L[i]? = some b) (xs : List Int) (hl : xs.length = 72) (hx : Bytes xs) :
    DTab base (W.setCells r (i * 217 + 72) (nums .u8 xs)) g r (L.set i { b with f := xs }) ∧ KeepB [r] W (W.setCells r (i * 217 + 72) (nums .u8 xs)) ∧ Below base W (W.setCells r (i * 217 + 72) (nums .u8 xs)) := by
  obtain ⟨h1, h2⟩ := h.blk i b hb
  have hlt := at_lt hb
  have ld := h2.ld
  refine h.set i b { b with f := xs } hb 72 (nums .u8 xs) (by rw [nums_len]; omega) ⟨World.rangeAt_setCells_apart h1.d r _ _ (by rw [nums_len, nums_len]; omega), World.rangeAt_setCells_same W r _ _ (h.there _ _ (by rw [nums_len]; omega)), World.rangeAt_setCells_apart h1.p r _ _ (by rw [nums_len, nums_len]; omega), ?_⟩ ⟨h2.ld, hl, h2.lp, h2.bd, hx, h2.bp⟩
  rw [World.cell?_setCells_out r _ _ W ⟨r, i * 217 + 216, none⟩ (fun _ _ => by right; show i * 217 + 72 + _ ≤ i * 217 + 216; rw [nums_len]; omega)]
  exact h1.q
theorem DTab.setP (h : DTab base W g r L) (hb : L[i]? = some b) (xs : List Int) (hl : xs.length = 72) (hx : Bytes xs) :
    DTab base (W.setCells r (i * 217 + 144) (nums .u8 xs)) g r (L.set i { b with p := xs }) ∧ KeepB [r] W (W.setCells r (i * 217 + 144) (nums .u8 xs)) ∧ Below base W (W.setCells r (i * 217 + 144) (nums .u8 xs)) := by
  obtain ⟨h1, h2⟩ := h.blk i b hb
  have hlt := at_lt hb
  have ld := h2.ld
  have lf := h2.lf
  refine h.set i b { b with p := xs } hb 144 (nums .u8 xs) (by rw [nums_len]; omega) ⟨World.rangeAt_setCells_apart h1.d r _ _ (by rw [nums_len, nums_len]; omega), World.rangeAt_setCells_apart h1.f r _ _ (by rw [nums_len, nums_len]; omega), World.rangeAt_setCells_same W r _ _ (h.there _ _ (by rw [nums_len]; omega)), ?_⟩ ⟨h2.ld, h2.lf, hl, h2.bd, h2.bf, hx⟩
  rw [World.cell?_setCells_out r _ _ W ⟨r, i * 217 + 216, none⟩ (fun _ _ => by right; show i * 217 + 144 + _ ≤ i * 217 + 216; rw [nums_len]; omega)]
  exact h1.q
theorem DTab.setQ (h : DTab base W g r L) (hb : L[i]? = some b) (q : Bool) :
    DTab base (W.setCell ⟨r, i * 217 + 216, none⟩ (.bool q)) g r (L.set i { b with q := q }) ∧ KeepB [r] W (W.setCell ⟨r, i * 217 + 216, none⟩ (.bool q)) ∧ Below base W (W.setCell ⟨r, i * 217 + 216, none⟩ (.bool q)) := by
  obtain ⟨h1, h2⟩ := h.blk i b hb
  have hlt := at_lt hb
  have ld := h2.ld
  have lf := h2.lf
  have lp := h2.lp
  refine h.set i b { b with q := q } hb 216 [.bool q] (by simp) ⟨World.rangeAt_setCells_apart h1.d r _ _ (by rw [nums_len]; simp; omega), World.rangeAt_setCells_apart h1.f r _ _ (by rw [nums_len]; simp; omega), World.rangeAt_setCells_apart h1.p r _ _ (by rw [nums_len]; simp; omega), ?_⟩ ⟨h2.ld, h2.lf, h2.lp, h2.bd, h2.bf, h2.bp⟩
  exact World.rangeAt_setCells_same W r (i * 217 + 216) [.bool q] (h.there _ _ (by simp; omega)) 0 _ rfl
end
def TellsP (x : Value) (w : World) (e : Ending) (w' : World) : Prop := e = .returned x ∧ Below w.heap.size w w'
theorem blocks_any {base : Nat} {W : World} {g r : Nat} {L : List Blk} (h : DTab base W g r L) : Calls Try.prog 67 #[.pointer (some ⟨g, 0, none⟩)] W (TellsP (.int .i64 L.length) W) := by
  have hc := h.cell
  clear h
  go_enter Try.func67, Try.ntmps67
  go_wp2_with fail
  go_ret
  exact ⟨rfl, Below.refl _ _⟩
theorem at_out {base : Nat} {W : World} {g r : Nat} {L : List Blk} (h : DTab base W g r L) (i : Int) (hi : ¬ (0 ≤ i ∧ i < L.length)) : Calls Try.prog 103 #[.pointer (some ⟨g, 0, none⟩), .int .i64 i] W (TellsP (.pointer none) W) := by
  have hb := blocks_any h
  clear h
  by_cases h0 : i < 0
  · go_enter Try.func103, Try.ntmps103
    go_wp2_with fail
    go_ret
    exact ⟨rfl, Below.refl _ _⟩
  · have h1 : i ≥ (L.length : Int) := by omega
    clear hi
    go_enter Try.func103, Try.ntmps103
    go_wp2_with (go_at_call 67; refine hb.mono ?_; rintro e w1 ⟨rfl, hb1⟩)
    go_ret
    exact ⟨rfl, hb1⟩
theorem at_in {base : Nat} {W : World} {g r : Nat} {L : List Blk} (h : DTab base W g r L) (i : Nat) (hi : i < L.length) (hm : L.length ≤ 1000) : Calls Try.prog 103 #[.pointer (some ⟨g, 0, none⟩), .int .i64 i] W (TellsP (.pointer (some ⟨r, i * 217, none⟩)) W) := by
  have hb := blocks_any h
  have HC := Lib.hid (fun W' (hb : Below W.heap.size W W') => (h.next hb).cell)
  clear h
  have h0 : ¬ (i : Int) < 0 := by omega
  have h1 : ¬ (i : Int) ≥ (L.length : Int) := by omega
  have h2 : (i : Int) < (L.length : Int) := by omega
  have h3 : i ≤ 9223372036854775807 := by omega
  go_enter Try.func103, Try.ntmps103
  go_wp2_with (go_at_call 67; refine hb.mono ?_; rintro e w1 ⟨rfl, hb1⟩; have hc := HC.out _ hb1)
  go_ret
  exact ⟨rfl, hb1⟩
theorem now_any {W : World} {r o : Nat} {q : Bool} (h : W.cell? ⟨r, o + 216, none⟩ = some (.bool q)) : Calls Try.prog 104 #[.pointer (some ⟨r, o, none⟩)] W (TellsP (.pointer (some ⟨r, if q then o + 72 else o, none⟩)) W) := by
  cases q
  · go_enter Try.func104, Try.ntmps104
    go_wp2_with fail
    go_ret
    exact ⟨rfl, Below.refl _ _⟩
  · go_enter Try.func104, Try.ntmps104
    go_wp2_with fail
    go_ret
    exact ⟨rfl, Below.refl _ _⟩
end Go.Proofs.Ytoiiacbbfhlocaa.HDa
