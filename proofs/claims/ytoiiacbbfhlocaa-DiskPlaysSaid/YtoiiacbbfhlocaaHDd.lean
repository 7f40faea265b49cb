/- Layer 6: each, with any function; Flush, Dirty. -/
import Derived.Test.YtoiiacbbfhlocaaHDc
set_option linter.unusedVariables false
set_option linter.unusedSimpArgs false
namespace Go.Proofs.Ytoiiacbbfhlocaa.HDa
open Go.RowKit Go.Proofs.YtoiiacbbfhlocaaW.PrintWords Go.Proofs.YtoiiacbbfhlocaaW.PrintLast Go.Proofs.YtoiiacbbfhlocaaW.PrintMore Go.Proofs.Ytoiiacbbfhlocaa.Kit
/-- what a function value does with the blocks of which something isn't flushed, one by one: from Inv k n on (k blocks are behind, n of them weren't flushed) -/
def StepB (f : Nat) (lb : Array Value) (base g r m : Nat) (Inv : Nat → Nat → List Blk → World → Prop) : Prop :=
  ∀ (W : World) (k n : Nat) (L : List Blk) (b : Blk), L.length = m → DTab base W g r L → Inv k n L W → L[k]? = some b → n ≤ k →
    (b.q = true → Calls Try.prog f (#[.int .i64 n, .pointer (some ⟨r, k * 217, none⟩)] ++ lb) W fun e w' => e = .returned (.tuple #[]) ∧ ∃ L', L'.length = m ∧ DTab base w' g r L' ∧ Inv (k + 1) (n + 1) L' w') ∧ (b.q = false → Inv (k + 1) n L W)
set_option maxRecDepth 100000 in
theorem each_any (base g r m f : Nat) (lb : Array Value) (Inv : Nat → Nat → List Blk → World → Prop) (eg : ∀ args w, (callFunc f args).run Try.prog w = .ok (.enter f args) w) (hp : StepB f lb base g r m Inv) (hn : ∀ k n L W W', Inv k n L W → Below W.heap.size W W' → Inv k n L W') (L : List Blk) (w : World) (hm : m ≤ 1000) (hl : L.length = m) (h : DTab base w g r L) (hI : Inv 0 0 L w) :
    Calls Try.prog 105 #[.pointer (some ⟨g, 0, none⟩), .func (.func f) #[] lb] w fun e w' => e = .returned (.tuple #[]) ∧ ∃ n L', L'.length = m ∧ DTab base w' g r L' ∧ Inv m n L' w' := by
  have hbl := blocks_any h
  rw [hl] at hbl
  have HH := Lib.hid (fun W (hW : Below w.heap.size w W) => And.intro (h.next hW) (hn 0 0 L w W hI hW))
  have HP := Lib.hid hp
  have HL := Lib.hid hl
  clear h hI hp hl hn
  go_enter Try.func105, Try.ntmps105
  go_wp2_with (go_at_call 67; refine hbl.mono ?_; rintro e w1 ⟨rfl, hb1⟩; have HH1 := Lib.hid (HH.out _ hb1); clear hb1)
  clear hbl HH
  go_loopg [4, 9] m (fun gg s4 s9 wr => ∃ (k n : Nat) (L' : List Blk), k ≤ m ∧ m - k ≤ gg ∧ n ≤ k ∧ s4 = .int .i64 n ∧ s9 = .int .i64 k ∧ L'.length = m ∧ Aside0 (DTab base wr g r L') ∧ Aside0 (Inv k n L' wr))
  case atStart => exact ⟨0, 0, L, Nat.zero_le _, by omega, Nat.le_refl _, rfl, rfl, HL.out, ⟨HH1.out.1⟩, ⟨HH1.out.2⟩⟩
  case round =>
    clear HH1
    obtain ⟨k, n, L', hk, hg, hnk, rfl, rfl, hl', HT, HI⟩ := hrel
    by_cases hlt : k < m
    · have hltz : (k : Int) < (m : Int) := by omega
      obtain ⟨b, hb⟩ : ∃ b, L'[k]? = some b := ⟨_, List.getElem?_eq_getElem (by omega)⟩
      have hs := HP.out wr k n L' b hl' HT.out HI.out hb hnk
      have hq := (HT.out.blk k b hb).1.q
      have hc := HT.out.cell
      rw [hl'] at hc
      have HS := Lib.hid hs
      have HLL := Lib.hid hl'
      clear hs hl' hb
      cases hbq : b.q with
      | true =>
        rw [hbq] at hq
        have hcall := HS.out.1 hbq
        clear hbq
        go_wp2_with (go_at_fn f; refine hcall.mono ?_; rintro e w2 ⟨rfl, L2, hl2, hT2, hI2⟩; have HT2 := Lib.hid hT2; have HI2 := Lib.hid hI2; have HL2 := Lib.hid hl2; clear hT2 hI2 hl2)
        go_roundg (m - (k + 1))
        case measure => omega
        case rel => exact ⟨k + 1, n + 1, L2, by omega, by omega, by omega, by go_num, by go_num, HL2.out, ⟨HT2.out⟩, ⟨HI2.out⟩⟩
      | false =>
        rw [hbq] at hq
        have hnext := HS.out.2 hbq
        have HNX := Lib.hid hnext
        clear hbq hnext
        go_wp2
        go_roundg (m - (k + 1))
        case measure => omega
        case rel => exact ⟨k + 1, n, L', by omega, by omega, by omega, by go_num, by go_num, HLL.out, ⟨HT.out⟩, ⟨HNX.out⟩⟩
    · have hltz : ¬ (k : Int) < (m : Int) := by omega
      have e : k = m := by omega
      subst e
      go_wp2
      go_end0
      exact ⟨rfl, n, L', hl', HT.out, HI.out⟩
def cntQ : List Blk → Nat
  | [] => 0
  | b :: L => (if b.q then 1 else 0) + cntQ L
/-- what is left: of the n-th that isn't flushed what is fresh is kept if ks n -/
def crashF (ks : Nat → Bool) : Nat → List Blk → List Blk
  | _, [] => []
  | n, b :: L => if b.q then { b with d := if ks n then b.f else b.d, q := false } :: crashF ks (n + 1) L else b :: crashF ks n L
theorem cntQ_snoc (b : Blk) : ∀ A : List Blk, cntQ (A ++ [b]) = cntQ A + (if b.q then 1 else 0)
  | [] => by simp [cntQ]
  | a :: A => by rw [List.cons_append, cntQ, cntQ, cntQ_snoc b A]; omega
theorem crashF_length (ks : Nat → Bool) : ∀ (L : List Blk) (n : Nat), (crashF ks n L).length = L.length
  | [], n => rfl
  | b :: L, n => by
    rw [crashF]
    split
    · rw [List.length_cons, List.length_cons, crashF_length ks L]
    · rw [List.length_cons, List.length_cons, crashF_length ks L]
theorem crashF_snoc (ks : Nat → Bool) (b : Blk) : ∀ (A : List Blk) (n : Nat), crashF ks n (A ++ [b]) = crashF ks n A ++ [if b.q then { b with d := if ks (n + cntQ A) then b.f else b.d, q := false } else b]
  | [], n => by
    rw [List.nil_append, crashF, crashF, cntQ, Nat.add_zero]
    split <;> rfl
  | a :: A, n => by
    rw [List.cons_append, crashF, crashF]
    split
    · rename_i h
      rw [crashF_snoc ks b A, List.cons_append, cntQ, if_pos h]
      rw [show n + 1 + cntQ A = n + (1 + cntQ A) from by omega]
    · rename_i h
      rw [crashF_snoc ks b A, List.cons_append, cntQ, if_neg h]
      rw [show n + cntQ A = n + (0 + cntQ A) from by omega]
/-- the list in the midst of each -/
def midF (ks : Nat → Bool) (L0 : List Blk) (k : Nat) : List Blk := crashF ks 0 (L0.take k) ++ L0.drop k
theorem midF_zero (ks : Nat → Bool) (L0 : List Blk) : midF ks L0 0 = L0 := by simp [midF, crashF]
theorem midF_end (ks : Nat → Bool) (L0 : List Blk) (m : Nat) (h : L0.length = m) : midF ks L0 m = crashF ks 0 L0 := by
  unfold midF
  rw [List.take_of_length_le (by omega), List.drop_eq_nil_of_le (by omega), List.append_nil]
theorem midF_at {ks : Nat → Bool} {L0 : List Blk} {k : Nat} {b : Blk} (h : (midF ks L0 k)[k]? = some b) (hk : k < L0.length) : L0[k]? = some b := by
  unfold midF at h
  rw [List.getElem?_append_right (by rw [crashF_length, List.length_take]; omega), crashF_length, List.length_take, List.getElem?_drop] at h
  rw [← h]
  congr 1
  omega
theorem midF_step {ks : Nat → Bool} {L0 : List Blk} {k : Nat} {b : Blk} (h : L0[k]? = some b) : midF ks L0 (k + 1) = (midF ks L0 k).set k (if b.q then { b with d := if ks (cntQ (L0.take k)) then b.f else b.d, q := false } else b) := by
  have hk := (List.getElem?_eq_some_iff.1 h).1
  have e : L0.take (k + 1) = L0.take k ++ [b] := by rw [List.take_add_one, h]; rfl
  have e2 : L0.drop k = b :: L0.drop (k + 1) := by
    rw [List.drop_eq_getElem_cons hk]
    rw [List.getElem?_eq_getElem hk] at h
    rw [Option.some.inj h]
  have hl : (crashF ks 0 (L0.take k)).length = k := by rw [crashF_length, List.length_take]; omega
  unfold midF
  rw [e, crashF_snoc, e2, List.set_append_right _ _ (by omega), hl, Nat.sub_self, List.set_cons_zero, Nat.zero_add]
  simp
theorem cntQ_step {L0 : List Blk} {k : Nat} {b : Blk} (h : L0[k]? = some b) : cntQ (L0.take (k + 1)) = cntQ (L0.take k) + (if b.q then 1 else 0) := by
  have e : L0.take (k + 1) = L0.take k ++ [b] := by rw [List.take_add_one, h]; rfl
  rw [e, cntQ_snoc]
def SetOut (base g r : Nat) (L : List Blk) (w : World) (e : Ending) (w' : World) : Prop := e = .returned (.tuple #[]) ∧ DTab base w' g r L ∧ KeepB [r] w w' ∧ Below base w w'
set_option maxRecDepth 100000 in
theorem flush1 {base : Nat} {w : World} {g r : Nat} {L : List Blk} (h : DTab base w g r L) (k n : Nat) (b : Blk) (hb : L[k]? = some b) : Calls Try.prog 106 #[.int .i64 n, .pointer (some ⟨r, k * 217, none⟩)] w (SetOut base g r (L.set k { b with d := b.f, q := false }) w) := by
  obtain ⟨h1, h2⟩ := h.blk k b hb
  have hlt := at_lt hb
  obtain ⟨T3, K3, B3⟩ := h.setD hb b.f h2.lf h2.bf
  obtain ⟨T4, K4, B4⟩ := T3.setQ (b := { b with d := b.f }) (List.getElem?_set_self (List.getElem?_eq_some_iff.1 hb).1) false
  rw [List.set_set] at T4
  have HX := Lib.hid (And.intro T4 (And.intro (K3.trans K4) (B3.trans B4)))
  have hc := (T3.blk k { b with d := b.f } (List.getElem?_set_self (List.getElem?_eq_some_iff.1 hb).1)).1.q
  have hfz := T3.free (k * 217 + 216)
  have HR := Lib.hid h1.f
  have HTH := Lib.hid (h.there (k * 217) 72 (by omega))
  have HL := Lib.hid h2.lf
  clear T3 K3 B3 T4 K4 B4 h h1 h2
  simp only at hc
  generalize hw3 : w.setCells r (k * 217) (nums .u8 b.f) = w3 at *
  have HW3 := Lib.hid hw3
  clear hw3
  go_enter Try.func106, Try.ntmps106
  go_wp2_with (first
    | ((with_reducible refine gate_dst (N := 9) rfl ?_); refine wpList_load_mid rfl 160 _ rfl r (k * 217 + 72) rfl (nums .u8 b.f) _ HR.out Try.underlying160 rfl (by rw [nums_len, HL.out]; kernel_rfl) ?_)
    | ((with_reducible refine gate_store (t := 160) (p := 11) rfl ?_); refine wpList_store_mid rfl 160 _ _ rfl r (k * 217) (nums .u8 b.f).toArray rfl rfl (by rw [List.size_toArray, nums_len, HL.out]; exact HTH.out) (by rw [List.size_toArray, nums_len, HL.out]; kernel_rfl) (nums_one .u8 b.f) ?_; rw [HW3.out]))
  go_end0
  exact ⟨rfl, HX.out⟩
theorem eg_flush : ∀ args w, (callFunc 106 args).run Try.prog w = .ok (.enter 106 args) w := enters_of Try.func106 (by kernel_rfl) rfl
theorem flush_any {base : Nat} {w : World} {g r : Nat} {L : List Blk} (h : DTab base w g r L) (hm : L.length ≤ 1000) : Calls Try.prog 52 #[.pointer (some ⟨g, 0, none⟩)] w (SetOut base g r (crashF (fun _ => true) 0 L) w) := by
  have he := each_any base g r L.length 106 #[] (fun k n L' W => L' = midF (fun _ => true) L k ∧ KeepB [r] w W ∧ Below base w W) eg_flush (fun W k n L' b hl' hT hI hb hnk => by
      obtain ⟨rfl, hK, hB⟩ := hI
      have hk : k < L.length := by rw [← hl']; exact (List.getElem?_eq_some_iff.1 hb).1
      have hb0 := midF_at hb hk
      have hs := midF_step (ks := fun _ => true) hb0
      refine ⟨fun hq => ?_, fun hq => ?_⟩
      · rw [if_pos hq] at hs
        simp only [if_true] at hs
        refine (flush1 hT k n b hb).mono ?_
        rintro e w' ⟨rfl, h1, h2, h3⟩
        refine ⟨rfl, _, ?_, h1, hs.symm, hK.trans h2, hB.trans h3⟩
        rw [List.length_set]; exact hl'
      · rw [hq] at hs
        simp only [Bool.false_eq_true, if_false] at hs
        refine ⟨?_, hK, hB⟩
        rw [hs]
        exact (List.ext_getElem? fun j => by
          by_cases e : k = j
          · subst e; rw [List.getElem?_set_self (by rw [hl']; exact hk)]; exact hb
          · rw [List.getElem?_set_ne e]))
    (fun k n L' W W' hI hW => ⟨hI.1, hI.2.1.next hW, hI.2.2.trans (hW.mono (Nat.le_trans h.le hI.2.1.size))⟩) L w hm rfl h ⟨(midF_zero _ _).symm, .refl _ _, Below.refl _ _⟩
  have HE := Lib.hid he
  clear h he
  go_enter Try.func52, Try.ntmps52
  go_wp2_with (go_at_call 105; refine HE.out.mono ?_; rintro e w1 ⟨rfl, n, L', hl', hT, hI⟩; have HT := Lib.hid hT; have HI := Lib.hid hI; clear hT hI)
  go_end0
  have hI := HI.out
  rw [midF_end _ _ _ rfl] at hI
  obtain ⟨rfl, h2, h3⟩ := hI
  exact ⟨rfl, HT.out, h2, h3⟩
end Go.Proofs.Ytoiiacbbfhlocaa.HDa
