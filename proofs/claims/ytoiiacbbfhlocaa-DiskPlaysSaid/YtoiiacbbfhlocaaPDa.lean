/- Layer 6: what writes and a crash come to; the contracts of a write, in one. -/
import Derived.Test.YtoiiacbbfhlocaaHDh
set_option linter.unusedVariables false
set_option linter.unusedSimpArgs false
namespace Go.Proofs.Ytoiiacbbfhlocaa.HDa
open Go.RowKit Go.Proofs.YtoiiacbbfhlocaaW.PrintWords Go.Proofs.YtoiiacbbfhlocaaW.PrintLast Go.Proofs.YtoiiacbbfhlocaaW.PrintMore Go.Proofs.Ytoiiacbbfhlocaa.Kit
def wrOk (L : List Blk) (I : Int) (xs : List Int) : Bool := decide ((0 ≤ I ∧ I < L.length) ∧ xs.length = 72)
def wrB (L : List Blk) (I : Int) (xs : List Int) : List Blk := if wrOk L I xs then (match L[I.toNat]? with | some b => L.set I.toNat { b with f := xs, p := b.now, q := true } | none => L) else L
theorem wrB_length (L : List Blk) (I : Int) (xs : List Int) : (wrB L I xs).length = L.length := by
  unfold wrB
  split
  · split
    · rw [List.length_set]
    · rfl
  · rfl
theorem wrB_ok {L : List Blk} {I : Int} {xs : List Int} (h : wrOk L I xs = true) : ∃ (i : Nat) (b : Blk), I = (i : Int) ∧ L[i]? = some b ∧ xs.length = 72 ∧ wrB L I xs = L.set i { b with f := xs, p := b.now, q := true } := by
  obtain ⟨⟨h0, h1⟩, h2⟩ := of_decide_eq_true h
  obtain ⟨i, rfl⟩ := Int.eq_ofNat_of_zero_le h0
  have hi : i < L.length := by omega
  refine ⟨i, L[i], rfl, List.getElem?_eq_getElem hi, h2, ?_⟩
  unfold wrB
  rw [if_pos h, Int.toNat_natCast, List.getElem?_eq_getElem hi]
theorem wrB_bad {L : List Blk} {I : Int} {xs : List Int} (h : wrOk L I xs = false) : wrB L I xs = L := by
  unfold wrB
  rw [h]
  rfl
theorem write_any {base : Nat} {w : World} {g r : Nat} {L : List Blk} (h : DTab base w g r L) (I : Int) (A : Option Addr) (n c : Nat) (xs : List Int) (hm : L.length ≤ 1000) (hC : Kd.C (Kd.int .u8) w A n xs) (hcap : n ≤ c) (hxb : Bytes xs) (hfar : ∀ p, A = some p → 0 < n → p.block ≠ r) :
    Calls Try.prog 50 #[.pointer (some ⟨g, 0, none⟩), .int .i64 I, .slice A n c] w (WriteOut base g r (if wrOk L I xs then 0 else 1) (wrB L I xs) w) := by
  have hn : xs.length = n := Kd.C_len hC
  cases hok : wrOk L I xs with
  | true =>
    obtain ⟨i, b, rfl, hb, hl, he⟩ := wrB_ok hok
    rw [he, if_pos rfl]
    have e : n = 72 := by omega
    subst e
    exact write_in h i b hb A c xs hm hC hcap hxb (fun p hp => hfar p hp (by omega))
  | false =>
    rw [wrB_bad hok, if_neg (by decide)]
    refine write_bad h I A n c hm (fun hh => ?_)
    have := of_decide_eq_false hok
    exact this ⟨hh.1, by omega⟩
theorem rwrite_any {base : Nat} {w : World} {g : Nat} {vs : List Value} {L : List Blk} (h : RD base w g vs L) (hf : ∀ (i : Nat) (b : Blk), L[i]? = some b → b.Fine) (I : Int) (xs : List Int) (hm : L.length ≤ 1000) :
    Calls Try.prog 51 #[.pointer (some ⟨g, 0, none⟩), .int .i64 I, .string (strOfNums xs)] w (RSetOut base g vs (wrOk L I xs) (wrB L I xs) w) := by
  cases hok : wrOk L I xs with
  | true =>
    obtain ⟨i, b, rfl, hb, hl, he⟩ := wrB_ok hok
    rw [he]
    exact rwrite_in h i b hb (hf i b hb) hm xs hl
  | false =>
    rw [wrB_bad hok]
    exact rwrite_bad h I xs (of_decide_eq_false hok)
def crB (b : Blk) (k : Bool) : Blk := if b.q then { b with d := if k then b.f else b.d, q := false } else b
theorem crash_at (ks : Nat → Bool) : ∀ (L : List Blk) (n i : Nat) (b : Blk), L[i]? = some b → (crashF ks n L)[i]? = some (crB b (ks (n + cntQ (L.take i))))
  | a :: L, n, 0, b, h => by
    simp only [List.getElem?_cons_zero, Option.some.injEq] at h
    subst h
    rw [crashF, List.take_zero, cntQ, Nat.add_zero]
    unfold crB
    split <;> rfl
  | a :: L, n, i + 1, b, h => by
    simp only [List.getElem?_cons_succ] at h
    rw [crashF, List.take_succ_cons, cntQ]
    split
    · rw [List.getElem?_cons_succ, crash_at ks L (n + 1) i b h, show n + 1 + cntQ (L.take i) = n + (1 + cntQ (L.take i)) from by omega]
    · rw [List.getElem?_cons_succ, crash_at ks L n i b h, Nat.zero_add]
  | [], n, i, b, h => by simp at h
theorem crash_clean (ks : Nat → Bool) : ∀ (L : List Blk) (n : Nat), cntQ (crashF ks n L) = 0
  | [], n => rfl
  | a :: L, n => by
    rw [crashF]
    split
    · rw [cntQ, crash_clean ks L]; rfl
    · rename_i h
      rw [cntQ, crash_clean ks L, if_neg h]
theorem crB_now (b : Blk) (k : Bool) : (crB b k).now = if b.q then (if k then b.f else b.d) else b.d := by
  unfold crB Blk.now
  cases hq : b.q with
  | true => simp
  | false => simp [hq]
/-- since the flush: what is durable, and what was written last -/
structure Rel2 (L L2 : List Blk) (last : List (List Int)) : Prop where
  len : L2.length = L.length
  len2 : last.length = L.length
  at_ : ∀ (i : Nat) (b b2 : Blk) (s : List Int), L[i]? = some b → L2[i]? = some b2 → last[i]? = some s → b2.d = b.now ∧ ((b2.q = true ∧ b2.f = s ∧ s.length = 72) ∨ (b2.q = false ∧ s = []))
theorem Rel2.start (L : List Blk) : Rel2 L (crashF (fun _ => true) 0 L) (List.replicate L.length []) := by
  refine ⟨crashF_length _ _ _, List.length_replicate, fun i b b2 s hb hb2 hs => ?_⟩
  rw [crash_at _ _ _ i b hb] at hb2
  obtain rfl := Option.some.inj hb2
  obtain rfl := (List.mem_replicate.1 (List.mem_of_getElem? hs)).2
  unfold crB Blk.now
  cases hq : b.q with
  | true => simp
  | false => simp [hq]
theorem Rel2.write {L L2 : List Blk} {last : List (List Int)} (h : Rel2 L L2 last) (i : Nat) (b2 : Blk) (hb2 : L2[i]? = some b2) (xs : List Int) (hx : xs.length = 72) (p : List Int) : Rel2 L (L2.set i { b2 with f := xs, p := p, q := true }) (last.set i xs) := by
  refine ⟨by rw [List.length_set]; exact h.len, by rw [List.length_set]; exact h.len2, fun j b c s hb hc hs => ?_⟩
  by_cases e : j = i
  · subst e
    have hj := (List.getElem?_eq_some_iff.1 hb2).1
    rw [List.getElem?_set_self hj] at hc
    obtain rfl := Option.some.inj hc
    have hj2 : j < last.length := by rw [h.len2, ← h.len]; exact hj
    rw [List.getElem?_set_self hj2] at hs
    obtain rfl := Option.some.inj hs
    exact ⟨(h.at_ j b b2 _ hb hb2 (List.getElem?_eq_getElem hj2)).1, .inl ⟨rfl, rfl, hx⟩⟩
  · rw [List.getElem?_set_ne (fun h => e h.symm)] at hc hs
    exact h.at_ j b c s hb hc hs
theorem own_down {base b : Nat} {W : World} {v : Value} {l : List (List Int)} (h : StrR b W v l) (hb : base ≤ b) : StrR base W v l := by
  refine ⟨h.1, ?_⟩
  rcases h.2 with hn | ⟨g, cap, cur, hv, hg, rest⟩
  · exact .inl hn
  · exact .inr ⟨g, cap, cur, hv, by omega, rest⟩
/-- a row of texts of one's own -/
def SArr (W : World) (bl : Nat) (l : List (List Int)) : Prop := W.heap[bl]? = some (.cells (strC l).toArray 9 (0, 0))
theorem SArr.next {W W' : World} {bl : Nat} {l : List (List Int)} (h : SArr W bl l) (hb : Below W.heap.size W W') : SArr W' bl l := (hb.block bl (Array.getElem?_eq_some_iff.1 h).1).trans h
theorem SArr.keepB {bs : List Nat} {W W' : World} {bl : Nat} {l : List (List Int)} (h : SArr W bl l) (hk : KeepB bs W W') (hn : bl ∉ bs) : SArr W' bl l := hk.cells h hn
theorem SArr.cell {W : World} {bl : Nat} {l : List (List Int)} (h : SArr W bl l) (i : Nat) (s : List Int) (hs : l[i]? = some s) : W.cell? ⟨bl, i, none⟩ = some (.string (strOfNums s)) := by
  rw [cell_of_row W bl i _ _ _ h]
  simp [strC, hs]
theorem SArr.free {W : World} {bl : Nat} {l : List (List Int)} (h : SArr W bl l) (i : Nat) : W.frozen? ⟨bl, i, none⟩ = false := frozen_of_row W bl i _ _ h
theorem SArr.set {W : World} {bl : Nat} {l : List (List Int)} (h : SArr W bl l) (i : Nat) (s : List Int) : SArr (W.setCell ⟨bl, i, none⟩ (.string (strOfNums s))) bl (l.set i s) ∧ KeepB [bl] W (W.setCell ⟨bl, i, none⟩ (.string (strOfNums s))) := by
  refine ⟨?_, ⟨((Below.refl 0 W).setCell (p := ⟨bl, i, none⟩) (Nat.zero_le _) _).size, fun k _ hn => Below.heap_setCell W ⟨bl, i, none⟩ _ k (fun e => hn (e ▸ List.mem_singleton.2 rfl))⟩⟩
  unfold SArr
  rw [setCell_eq_setRow W bl i _ _ _ _ h, setRow_heap W bl _ _ _ _ h]
  simp [strC, List.map_set]
/-- a store into a block that is none of the document's disk's -/
theorem RDsk.keepOwn {base : Nat} {W W' : World} {g : Nat} {vs : List Value} {T : List (List (List Int))} (h : RDsk base W g vs T) (bs : List Nat) (hk : KeepB bs W W') (hg : g ∉ bs) (hv : ∀ v ∈ vs, ∀ k, v.ownBlock = some k → k ∉ bs) : RDsk base W' g vs T := by
  refine ⟨hk.cells h.tab hg, h.hg, h.len, fun i v l hv' hl => own_heap (h.row i v l hv' hl) (fun k hk' => ?_), h.apart⟩
  obtain ⟨cs, hc⟩ := own_type (h.row i v l hv' hl) k hk'
  exact hk.keep k (Array.getElem?_eq_some_iff.1 hc).1 (hv v (List.mem_of_getElem? hv') k hk')
theorem RDsk.own_lt {base : Nat} {W : World} {g : Nat} {vs : List Value} {T : List (List (List Int))} (h : RDsk base W g vs T) : g < W.heap.size ∧ ∀ v ∈ vs, ∀ k, v.ownBlock = some k → k < W.heap.size := by
  refine ⟨(Array.getElem?_eq_some_iff.1 h.tab).1, fun v hv k hk => ?_⟩
  obtain ⟨i, hi⟩ := List.getElem?_of_mem hv
  have hl : i < T.length := by rw [← h.len]; exact (List.getElem?_eq_some_iff.1 hi).1
  obtain ⟨cs, hc⟩ := own_type (h.row i v _ hi (List.getElem?_eq_getElem hl)) k hk
  exact (Array.getElem?_eq_some_iff.1 hc).1
end Go.Proofs.Ytoiiacbbfhlocaa.HDa
