/- Layer 6: Dirty, Crash. -/
import Derived.Test.YtoiiacbbfhlocaaHDd
set_option linter.unusedVariables false
set_option linter.unusedSimpArgs false
namespace Go.Proofs.Ytoiiacbbfhlocaa.HDa
open Go.RowKit Go.Proofs.YtoiiacbbfhlocaaW.PrintWords Go.Proofs.YtoiiacbbfhlocaaW.PrintLast Go.Proofs.YtoiiacbbfhlocaaW.PrintMore Go.Proofs.Ytoiiacbbfhlocaa.Kit
theorem blk_cell {W : World} {g : Nat} {cs : Array Value} {t : TypeId} {fr : Nat × Nat} (h : W.heap[g]? = some (.cells cs t fr)) (i : Nat) : W.cell? ⟨g, i, none⟩ = cs[i]? := cell_of_row W g i _ _ _ h
theorem box_set {W : World} {g : Nat} {v v' : Value} {t : TypeId} (h : W.heap[g]? = some (.cells #[v] t (0, 0))) : (W.setCell ⟨g, 0, none⟩ v').heap[g]? = some (.cells #[v'] t (0, 0)) := by
  rw [setCell_eq_setRow W g 0 _ _ _ v' h, setRow_heap W g _ _ _ _ h]
  rfl
theorem dirty1 {W : World} {nb n : Nat} {p : Value} (h : W.heap[nb]? = some (.cells #[.int .i64 n] 3 (0, 0))) (hn : n ≤ 100000) (x : Value) : Calls Try.prog 108 #[x, p, .pointer (some ⟨nb, 0, none⟩)] W fun e w' => e = .returned (.tuple #[]) ∧ w' = W.setCell ⟨nb, 0, none⟩ (.int .i64 ((n + 1 : Nat) : Int)) := by
  have hc := (blk_cell h 0).trans (show _ = some (Value.int .i64 n) from rfl)
  have hf : W.frozen? ⟨nb, 0, none⟩ = false := frozen_of_row W nb 0 _ _ h
  go_enter Try.func108, Try.ntmps108
  go_wp2_with fail
  go_end0
  exact ⟨rfl, rfl⟩
theorem eg_dirty : ∀ args w, (callFunc 108 args).run Try.prog w = .ok (.enter 108 args) w := enters_of Try.func108 (by kernel_rfl) rfl
def TellsI (x : Int) (w : World) (e : Ending) (w' : World) : Prop := e = .returned (.int .i64 x) ∧ Below w.heap.size w w'
set_option maxRecDepth 100000 in
theorem dirty_any {base : Nat} {w : World} {g r : Nat} {L : List Blk} (h : DTab base w g r L) (hm : L.length ≤ 1000) : Calls Try.prog 56 #[.pointer (some ⟨g, 0, none⟩)] w (TellsI (cntQ L) w) := by
  have hgl := (Array.getElem?_eq_some_iff.1 h.tab).1
  have hrl := h.rlt
  have hcl : ∀ k, cntQ (L.take k) ≤ k := fun k => by
    have : ∀ (A : List Blk), cntQ A ≤ A.length := fun A => by
      induction A with
      | nil => exact Nat.le_refl _
      | cons a A ih => rw [cntQ, List.length_cons]; split <;> omega
    exact Nat.le_trans (this _) (by rw [List.length_take]; omega)
  have he : ∀ W, Below w.heap.size w W → W.heap[w.heap.size]? = some (.cells #[.int .i64 ((0 : Nat) : Int)] 3 (0, 0)) → Calls Try.prog 105 #[.pointer (some ⟨g, 0, none⟩), .func (.func 108) #[] #[.pointer (some ⟨w.heap.size, 0, none⟩)]] W fun e w' => e = .returned (.tuple #[]) ∧ Below w.heap.size w w' ∧ w'.heap[w.heap.size]? = some (.cells #[.int .i64 (cntQ L)] 3 (0, 0)) := fun W hW h0 =>
    (each_any base g r L.length 108 #[.pointer (some ⟨w.heap.size, 0, none⟩)] (fun k n L' V => L' = L ∧ n = cntQ (L.take k) ∧ Below w.heap.size w V ∧ V.heap[w.heap.size]? = some (.cells #[.int .i64 n] 3 (0, 0))) eg_dirty (fun V k n L' b hl' hT hI hb hnk => by
      obtain ⟨rfl, rfl, hB, hV⟩ := hI
      have hk := (List.getElem?_eq_some_iff.1 hb).1
      refine ⟨fun hq => ?_, fun hq => ?_⟩
      · refine (dirty1 hV (by have := hcl k; omega) (.int .i64 (cntQ (L'.take k)))).mono ?_
        rintro e w' ⟨rfl, rfl⟩
        refine ⟨rfl, L', rfl, ?_, rfl, ?_, hB.setCell (p := ⟨w.heap.size, 0, none⟩) (Nat.le_refl _) _, box_set hV⟩
        · refine hT.keepB (bs := [w.heap.size]) ⟨((Below.refl 0 V).setCell (p := ⟨w.heap.size, 0, none⟩) (Nat.zero_le _) _).size, fun k' _ hn => Below.heap_setCell V ⟨w.heap.size, 0, none⟩ _ k' (fun e => hn (e ▸ List.mem_singleton.2 rfl))⟩ (fun hh => ?_) (fun hh => ?_)
          · have := List.mem_singleton.1 hh; omega
          · have := List.mem_singleton.1 hh; omega
        · rw [cntQ_step hb, if_pos hq]
      · refine ⟨rfl, ?_, hB, hV⟩
        rw [cntQ_step hb, hq]
        rfl)
    (fun k n L' V V' hI hV => ⟨hI.1, hI.2.1, hI.2.2.1.trans (hV.mono hI.2.2.1.size), (hV.block _ (Array.getElem?_eq_some_iff.1 hI.2.2.2).1).trans hI.2.2.2⟩) L W hm rfl (h.next hW) ⟨rfl, rfl, hW, h0⟩).mono (by
      rintro e w' ⟨rfl, n, L', hl, -, rfl, rfl, hB, hV⟩
      refine ⟨rfl, hB, ?_⟩
      rw [hV, List.take_of_length_le (Nat.le_refl _)])
  have HE := Lib.hid he
  clear h he hgl hrl hcl
  go_enter Try.func56, Try.ntmps56
  go_wp2_with (go_at_call 105; refine (HE.out _ ?hB ?hH).mono ?_; (case hB => first | exact (below_alloc (Below.refl _ _) _).setCell (p := ⟨w.heap.size, 0, none⟩) (Nat.le_refl _) _ | exact below_alloc (Below.refl _ _) _); (case hH => first | exact box_set (heap_alloc_new w _) | exact heap_alloc_new w _); rintro e w1 ⟨rfl, hB1, hV1⟩; have hc1 := (blk_cell hV1 0).trans (show _ = some (Value.int .i64 (cntQ L)) from rfl); have HB1 := Lib.hid hB1; clear hB1 hV1)
  go_ret
  exact ⟨rfl, HB1.out⟩
/-- what is to be kept: cells that lie there -/
def KeepRow (A : Option Addr) (len : Nat) (ks : Nat → Bool) (W : World) : Prop := ∀ j, j < len → ∃ b o, A = some ⟨b, o, none⟩ ∧ W.cell? ⟨b, o + j, none⟩ = some (.bool (ks j))
theorem KeepRow.keepB {A : Option Addr} {len : Nat} {ks : Nat → Bool} {W W' : World} {bs : List Nat} (h : KeepRow A len ks W) (hk : KeepB bs W W') (hf : ∀ p, A = some p → 0 < len → p.block ∉ bs) : KeepRow A len ks W' := fun j hj => by
  obtain ⟨b, o, hA, hc⟩ := h j hj
  exact ⟨b, o, hA, (cell_of_heap (p := ⟨b, o + j, none⟩) (hk.keep b (World.block_lt_of_cell? _ _ hc) (hf _ hA (by omega)))).trans hc⟩
theorem KeepRow.next {A : Option Addr} {len : Nat} {ks : Nat → Bool} {W W' : World} (h : KeepRow A len ks W) (hb : Below W.heap.size W W') : KeepRow A len ks W' := h.keepB (bs := []) (.of_below [] hb) (fun _ _ _ => List.not_mem_nil)
set_option maxRecDepth 100000 in
theorem crash1 {base : Nat} {w : World} {g r : Nat} {L : List Blk} (h : DTab base w g r L) (k n : Nat) (b : Blk) (hb : L[k]? = some b) (kb : Nat) (A : Option Addr) (len c : Nat) (ks : Nat → Bool) (hbox : w.cell? ⟨kb, 0, none⟩ = some (.slice A len c)) (hkb : kb ≠ r) (hk : KeepRow A len ks w) (hko : ∀ j, len ≤ j → ks j = false) (hlen : len ≤ 1000000) (hn : n ≤ 1000000) (hx : ks n = true → n < len) :
    Calls Try.prog 107 #[.int .i64 n, .pointer (some ⟨r, k * 217, none⟩), .pointer (some ⟨kb, 0, none⟩)] w (SetOut base g r (L.set k { b with d := if ks n then b.f else b.d, q := false }) w) := by
  obtain ⟨h1, h2⟩ := h.blk k b hb
  have hlt := at_lt hb
  have hn5 : n ≤ 9223372036854775807 := by omega
  by_cases hq : ks n = true
  · rw [if_pos hq]
    obtain ⟨T3, K3, B3⟩ := h.setD hb b.f h2.lf h2.bf
    obtain ⟨T4, K4, B4⟩ := T3.setQ (b := { b with d := b.f }) (List.getElem?_set_self (List.getElem?_eq_some_iff.1 hb).1) false
    rw [List.set_set] at T4
    have HX := Lib.hid (And.intro T4 (And.intro (K3.trans K4) (B3.trans B4)))
    have hc := (T3.blk k { b with d := b.f } (List.getElem?_set_self (List.getElem?_eq_some_iff.1 hb).1)).1.q
    have hfz := T3.free (k * 217 + 216)
    have HR := Lib.hid h1.f
    have HTH := Lib.hid (h.there (k * 217) 72 (by omega))
    have HL := Lib.hid h2.lf
    obtain ⟨bb, oo, rfl, hcell⟩ := hk n (hx hq)
    rw [hq] at hcell
    have hnl := hx hq
    have hnz : (n : Int) < (len : Int) := by omega
    have hn4 : ¬ (n : Int) < 0 := by omega
    clear T3 K3 B3 T4 K4 B4 h h1 h2 hk hko hx hq
    simp only at hc
    generalize hw3 : w.setCells r (k * 217) (nums .u8 b.f) = w3 at *
    have HW3 := Lib.hid hw3
    clear hw3
    go_enter Try.func107, Try.ntmps107
    go_wp2_with (first
      | ((with_reducible refine gate_dst (N := 19) rfl ?_); refine wpList_load_mid rfl 160 _ rfl r (k * 217 + 72) rfl (nums .u8 b.f) _ HR.out Try.underlying160 rfl (by rw [nums_len, HL.out]; kernel_rfl) ?_)
      | ((with_reducible refine gate_store (t := 160) (p := 21) rfl ?_); refine wpList_store_mid rfl 160 _ _ rfl r (k * 217) (nums .u8 b.f).toArray rfl rfl (by rw [List.size_toArray, nums_len, HL.out]; exact HTH.out) (by rw [List.size_toArray, nums_len, HL.out]; kernel_rfl) (nums_one .u8 b.f) ?_; rw [HW3.out]))
    go_end0
    exact ⟨rfl, HX.out⟩
  · rw [if_neg hq]
    have hq' : ks n = false := by simpa using hq
    obtain ⟨T4, K4, B4⟩ := h.setQ hb false
    have HX := Lib.hid (And.intro T4 (And.intro K4 B4))
    have hc := h1.q
    have hfz := h.free (k * 217 + 216)
    clear T4 K4 B4 h1 h2 hq
    by_cases hnl : n < len
    · obtain ⟨bb, oo, rfl, hcell⟩ := hk n hnl
      rw [hq'] at hcell
      have hnz : (n : Int) < (len : Int) := by omega
      have hn4 : ¬ (n : Int) < 0 := by omega
      clear h hk hko hx hq'
      go_enter Try.func107, Try.ntmps107
      go_wp2_with fail
      go_end0
      exact ⟨rfl, HX.out⟩
    · have hnz : ¬ (n : Int) < (len : Int) := by omega
      clear h hk hko hx hq'
      go_enter Try.func107, Try.ntmps107
      go_wp2_with fail
      go_end0
      exact ⟨rfl, HX.out⟩
theorem eg_crash : ∀ args w, (callFunc 107 args).run Try.prog w = .ok (.enter 107 args) w := enters_of Try.func107 (by kernel_rfl) rfl
set_option maxRecDepth 100000 in
theorem crash_any {base : Nat} {w : World} {g r : Nat} {L : List Blk} (h : DTab base w g r L) (hm : L.length ≤ 1000) (A : Option Addr) (len c : Nat) (ks : Nat → Bool) (hk : KeepRow A len ks w) (hko : ∀ j, len ≤ j → ks j = false) (hlen : len ≤ 1000000) (hfar : ∀ p, A = some p → 0 < len → p.block ≠ r) :
    Calls Try.prog 53 #[.pointer (some ⟨g, 0, none⟩), .slice A len c] w (SetOut base g r (crashF ks 0 L) w) := by
  have hrl := h.rlt
  have hx : ∀ n, ks n = true → n < len := fun n hn => by
    apply Classical.byContradiction
    intro hh
    rw [hko n (by omega)] at hn
    cases hn
  have hcl : ∀ k, cntQ (L.take k) ≤ k := fun k => by
    have : ∀ (A : List Blk), cntQ A ≤ A.length := fun A => by
      induction A with
      | nil => exact Nat.le_refl _
      | cons a A ih => rw [cntQ, List.length_cons]; split <;> omega
    exact Nat.le_trans (this _) (by rw [List.length_take]; omega)
  have he : ∀ W, Below w.heap.size w W → W.cell? ⟨w.heap.size, 0, none⟩ = some (.slice A len c) → Calls Try.prog 105 #[.pointer (some ⟨g, 0, none⟩), .func (.func 107) #[] #[.pointer (some ⟨w.heap.size, 0, none⟩)]] W (SetOut base g r (crashF ks 0 L) w) := fun W hW h0 =>
    (each_any base g r L.length 107 #[.pointer (some ⟨w.heap.size, 0, none⟩)] (fun k n L' V => L' = midF ks L k ∧ n = cntQ (L.take k) ∧ KeepB [r] w V ∧ Below base w V ∧ V.cell? ⟨w.heap.size, 0, none⟩ = some (.slice A len c)) eg_crash (fun V k n L' b hl' hT hI hb hnk => by
      obtain ⟨rfl, rfl, hK, hB, hV⟩ := hI
      have hk' : k < L.length := by rw [← hl']; exact (List.getElem?_eq_some_iff.1 hb).1
      have hb0 := midF_at hb hk'
      have hs := midF_step (ks := ks) hb0
      have hcn := cntQ_step hb0
      refine ⟨fun hq => ?_, fun hq => ?_⟩
      · rw [if_pos hq] at hs hcn
        have hkV : KeepRow A len ks V := hk.keepB hK (fun p hp h0 hh => hfar p hp h0 (List.mem_singleton.1 hh))
        refine (crash1 hT k (cntQ (L.take k)) b hb w.heap.size A len c ks hV (by omega) hkV hko hlen (by have := hcl k; omega) (hx _)).mono ?_
        rintro e w' ⟨rfl, h1, h2, h3⟩
        refine ⟨rfl, _, ?_, h1, hs.symm, hcn.symm, hK.trans h2, hB.trans h3, ?_⟩
        · rw [List.length_set]; exact hl'
        · exact (cell_of_heap (p := ⟨w.heap.size, 0, none⟩) (h2.keep _ (World.block_lt_of_cell? _ _ hV) (fun hh => absurd (show w.heap.size = r from List.mem_singleton.1 hh) (by omega)))).trans hV
      · rw [hq] at hs hcn
        simp only [Bool.false_eq_true, if_false, Nat.add_zero] at hs hcn
        refine ⟨?_, hcn.symm, hK, hB, hV⟩
        rw [hs]
        exact (List.ext_getElem? fun j => by
          by_cases e : k = j
          · subst e; rw [List.getElem?_set_self (by rw [hl']; exact hk')]; exact hb
          · rw [List.getElem?_set_ne e]))
    (fun k n L' V V' hI hV => ⟨hI.1, hI.2.1, hI.2.2.1.next hV, hI.2.2.2.1.trans (hV.mono (Nat.le_trans h.le hI.2.2.1.size)), (hV.cell (p := ⟨w.heap.size, 0, none⟩) (World.block_lt_of_cell? _ _ hI.2.2.2.2)).trans hI.2.2.2.2⟩) L W hm rfl (h.next hW) ⟨(midF_zero _ _).symm, rfl, .of_below _ hW, hW.mono h.le, h0⟩).mono (by
      rintro e w' ⟨rfl, n, L', hl, hT, rfl, rfl, hK, hB, -⟩
      rw [midF_end _ _ _ rfl] at hT
      exact ⟨rfl, hT, hK, hB⟩)
  have HE := Lib.hid he
  clear h he hrl hcl hx hk hko hfar
  go_enter Try.func53, Try.ntmps53
  go_wp2_with (go_at_call 105; refine (HE.out _ ?hB ?hH).mono ?_; (case hB => exact below_alloc (Below.refl _ _) _); (case hH => exact (blk_cell (heap_alloc_new w _) 0).trans rfl); rintro e w1 ⟨rfl, h1⟩; have H1 := Lib.hid h1; clear h1)
  go_end0
  exact ⟨rfl, H1.out⟩
end Go.Proofs.Ytoiiacbbfhlocaa.HDa
