/- Layer 6: the document's set, Alter, Swap, Back. -/
import Derived.Test.YtoiiacbbfhlocaaHDl
import Derived.Test.YtoiiacbbfhlocaaPDa
set_option linter.unusedVariables false
set_option linter.unusedSimpArgs false
namespace Go.Proofs.Ytoiiacbbfhlocaa.HDa
open Go.RowKit Go.Proofs.YtoiiacbbfhlocaaW.PrintWords Go.Proofs.YtoiiacbbfhlocaaW.PrintLast Go.Proofs.YtoiiacbbfhlocaaW.PrintMore Go.Proofs.Ytoiiacbbfhlocaa.Kit
theorem setNow_now (b : Blk) (xs : List Int) : (setNow b xs).now = xs := by
  unfold setNow Blk.now
  cases hq : b.q <;> simp [hq]
def SetR (base g : Nat) (vs : List Value) (L : List Blk) (w : World) (e : Ending) (w' : World) : Prop := e = .returned (.tuple #[]) ∧ RD base w' g vs L ∧ KeepT [9] w w' ∧ Below base w w'
section
variable {base : Nat} {w : World} {g : Nat} {vs : List Value} {L : List Blk}
set_option maxRecDepth 100000 in
theorem rset_in (h : RD base w g vs L) (hm : L.length ≤ 1000) (i : Nat) (b : Blk) (hb : L[i]? = some b) (hf : b.Fine) (xs : List Int) : Calls Try.prog 109 #[.pointer (some ⟨g, 0, none⟩), .int .i64 i, .string (strOfNums xs)] w (SetR base g vs (L.set i (setNow b xs)) w) := by
  obtain ⟨A0, c0, h0, v0, -, k0⟩ := RD.row h 0 (by omega) Blk.d rfl
  obtain ⟨A1, c1, h1, v1, -, k1⟩ := RD.row h 1 (by omega) frF rfl
  obtain ⟨b0, rfl, -, q0⟩ := k0 i b hb
  obtain ⟨b1, rfl, -, q1⟩ := k1 i b hb
  have hi := (List.getElem?_eq_some_iff.1 hb).1
  have hi1 : (i : Int) < (L.length : Int) := by omega
  have hi2 : ¬ (i : Int) < 0 := by omega
  have hi3 : i ≤ 9223372036854775807 := by omega
  unfold frF at q1
  cases hq : b.q with
  | true =>
    rw [hq] at q1
    simp only [if_true] at q1
    have hl := str_some b.f 71 hf.lf
    obtain ⟨-, m2⟩ := RDsk.cellAt h v1 rfl i (by rw [List.length_map]; exact hi)
    obtain ⟨T, K, B⟩ := RDsk.store h v1 rfl i (by rw [List.length_map]; exact hi) xs
    have HX := Lib.hid (And.intro T (And.intro K B))
    have HE := Lib.hid (show ([L.map Blk.d, L.map frF, L.map Blk.p] : List (List (List Int))).set 1 ((L.map frF).set i xs) = [(L.set i (setNow b xs)).map Blk.d, (L.set i (setNow b xs)).map frF, (L.set i (setNow b xs)).map Blk.p] from by
      rw [List.map_set, List.map_set, List.map_set]
      unfold setNow
      rw [hq]
      simp only [if_true]
      rw [set_same (show (L.map Blk.d)[i]? = some b.d from by rw [List.getElem?_map, hb]; rfl), set_same (show (L.map Blk.p)[i]? = some b.p from by rw [List.getElem?_map, hb]; rfl)]
      unfold frF
      simp [hq])
    clear k0 k1 h hb T K B v0 v1 hf hq
    go_enter Try.func109, Try.ntmps109
    go_wp2_with fail
    go_end0
    refine ⟨rfl, ?_, HX.out.2⟩
    have h := HX.out.1
    rw [HE.out] at h
    exact h
  | false =>
    rw [hq] at q1
    simp only [Bool.false_eq_true, if_false] at q1
    rw [strOf_nil] at q1
    obtain ⟨-, m2⟩ := RDsk.cellAt h v0 rfl i (by rw [List.length_map]; exact hi)
    obtain ⟨T, K, B⟩ := RDsk.store h v0 rfl i (by rw [List.length_map]; exact hi) xs
    have HX := Lib.hid (And.intro T (And.intro K B))
    have HE := Lib.hid (show ([L.map Blk.d, L.map frF, L.map Blk.p] : List (List (List Int))).set 0 ((L.map Blk.d).set i xs) = [(L.set i (setNow b xs)).map Blk.d, (L.set i (setNow b xs)).map frF, (L.set i (setNow b xs)).map Blk.p] from by
      rw [List.map_set, List.map_set, List.map_set]
      unfold setNow
      rw [hq]
      simp only [Bool.false_eq_true, if_false]
      rw [set_same (show (L.map Blk.p)[i]? = some b.p from by rw [List.getElem?_map, hb]; rfl)]
      rw [show frF { d := xs, f := b.f, p := b.p, q := false } = frF b from by unfold frF; simp [hq], set_same (show (L.map frF)[i]? = some (frF b) from by rw [List.getElem?_map, hb]; rfl)]
      rfl)
    clear k0 k1 h hb T K B v0 v1 hf hq
    go_enter Try.func109, Try.ntmps109
    go_wp2_with fail
    go_end0
    refine ⟨rfl, ?_, HX.out.2⟩
    have h := HX.out.1
    rw [HE.out] at h
    exact h
theorem ralter_bad (h : RD base w g vs L) (I at_ x : Int) (hi : ¬ ((0 ≤ I ∧ I < L.length) ∧ 0 ≤ at_ ∧ at_ < 72 ∧ x ≠ 0)) : Calls Try.prog 60 #[.pointer (some ⟨g, 0, none⟩), .int .i64 I, .int .i64 at_, .int .u8 x] w (RSetOut base g vs false L w) := by
  have hh := rhas_any h I
  have HT := Lib.hid h
  have HE := Lib.hid (show ∀ w', Below w.heap.size w w' → RSetOut base g vs false L w (.returned (.bool false)) w' from fun w' hb => ⟨rfl, RDsk.next h hb, .of_below _ hb, hb.mono (RDsk.le h)⟩)
  by_cases h1 : 0 ≤ I ∧ I < L.length
  · rw [decide_eq_true h1] at hh
    clear h
    by_cases h2 : at_ < 0
    · clear hi h1
      go_enter Try.func60, Try.ntmps60
      go_wp2_with (go_at_call 65; refine hh.mono ?_; rintro e w1 ⟨rfl, hb1⟩)
      go_ret
      exact HE.out _ hb1
    · by_cases h3 : at_ > 71
      · clear hi h1
        go_enter Try.func60, Try.ntmps60
        go_wp2_with (go_at_call 65; refine hh.mono ?_; rintro e w1 ⟨rfl, hb1⟩)
        go_ret
        exact HE.out _ hb1
      · obtain rfl : x = 0 := by
          apply Classical.byContradiction
          intro hx
          exact hi ⟨h1, by omega, by omega, hx⟩
        clear hi h1
        go_enter Try.func60, Try.ntmps60
        go_wp2_with (go_at_call 65; refine hh.mono ?_; rintro e w1 ⟨rfl, hb1⟩)
        go_ret
        exact HE.out _ hb1
  · rw [decide_eq_false h1] at hh
    clear h hi h1
    go_enter Try.func60, Try.ntmps60
    go_wp2_with (go_at_call 65; refine hh.mono ?_; rintro e w1 ⟨rfl, hb1⟩)
    go_ret
    exact HE.out _ hb1
theorem bytes_back (xs : List Int) (h : Bytes xs) : bytesOf (strOfNums xs) = xs := by
  unfold bytesOf
  rw [strOfNums_data, List.map_map]
  refine (List.map_congr_left (fun x hx => ?_)).trans (List.map_id xs)
  obtain ⟨h0, h1⟩ := h x hx
  obtain ⟨n, rfl⟩ := Int.eq_ofNat_of_zero_le h0
  simp only [Function.comp_apply, Int.toNat_natCast, id]
  rw [UInt8.toNat_ofNat', Nat.mod_eq_of_lt (by omega)]
theorem bytes_free (W : World) (e : TypeId) (s : ByteArray) (j : Nat) (hj : j < s.size) : (Lib.bytesWorld W e s).frozen? ⟨W.heap.size, j, none⟩ = false := by
  have hs : j < (Lib.bytesCells W e s).size := by unfold Lib.bytesCells; simp; omega
  unfold World.frozen?
  rw [Lib.bytesWorld_at_new]
  simp
  omega
set_option maxRecDepth 100000 in
set_option maxHeartbeats 4000000 in
theorem ralter_in (h : RD base w g vs L) (hm : L.length ≤ 1000) (i : Nat) (b : Blk) (hb : L[i]? = some b) (hf : b.Fine) (at_ : Nat) (x : Int) (ha : at_ < 72) (hx : 0 ≤ x ∧ x ≤ 255) (hx0 : x ≠ 0) : Calls Try.prog 60 #[.pointer (some ⟨g, 0, none⟩), .int .i64 i, .int .i64 at_, .int .u8 x] w (RSetOut base g vs true (L.set i (setNow b (b.now.set at_ (Go.bits .xor .u8 (b.now.getD at_ 0) x)))) w) := by
  have hh := rhas_any h i
  have hi := (List.getElem?_eq_some_iff.1 hb).1
  rw [decide_eq_true ⟨by omega, by omega⟩] at hh
  obtain ⟨xs, hxs⟩ : ∃ xs, xs = b.now := ⟨_, rfl⟩
  have hxl : xs.length = 72 := by rw [hxs]; exact hf.now_len
  have hxb : Bytes xs := by rw [hxs]; exact hf.now_bytes
  obtain ⟨y, hy⟩ : ∃ y, y = xs.getD at_ 0 := ⟨_, rfl⟩
  rw [← hxs, ← hy]
  have HRR := Lib.hid (show ∀ W, RD base W g vs L → Calls Try.prog 55 #[.pointer (some ⟨g, 0, none⟩), .int .i64 i] W (TellsS xs W) from fun W hW => by rw [hxs]; exact rread_in hW i b hb hf hm)
  have HRS := Lib.hid (show ∀ W, RD base W g vs L → Calls Try.prog 109 #[.pointer (some ⟨g, 0, none⟩), .int .i64 i, .string (strOfNums (xs.set at_ (Go.bits .xor .u8 y x)))] W (SetR base g vs (L.set i (setNow b (xs.set at_ (Go.bits .xor .u8 y x)))) W) from fun W hW => rset_in hW hm i b hb hf _)
  have kb := fun W => print_bytes (P := Try.prog) 9 29 5 Try.underlying9 Try.underlying29 Try.underlying5 (strOfNums xs) W
  have hsz : (strOfNums xs).size = 72 := (strOfNums_size xs).trans hxl
  rw [hsz] at kb
  have HC0 := Lib.hid (show ∀ W : World, ∀ j, j < 72 → (Lib.bytesWorld W 5 (strOfNums xs)).cell? ⟨W.heap.size, j, none⟩ = some (.int .u8 (xs.getD j 0)) from fun W j hj => by
    have h := (bytes_reads W 5 (strOfNums xs) (by rw [hsz]; omega)).2.2 (by rw [hsz]; omega)
    obtain ⟨ad, e, hc⟩ := h
    obtain rfl := Option.some.inj e
    have := hc j (by rw [hsz]; exact hj)
    rw [add_plain, bytes_back xs hxb] at this
    exact this)
  have HF0 := Lib.hid (show ∀ W : World, (Lib.bytesWorld W 5 (strOfNums xs)).frozen? ⟨W.heap.size, at_, none⟩ = false from fun W => bytes_free W _ _ at_ (by rw [hsz]; exact ha))
  have HST := Lib.hid (show ∀ (W : World) (c : Nat), (convert 29 9 (.slice (some ⟨W.heap.size, 0, none⟩) 72 c)).run Try.prog ((Lib.bytesWorld W 5 (strOfNums xs)).setCell ⟨W.heap.size, at_, none⟩ (.int .u8 (Go.bits .xor .u8 y x))) = .ok (.string (strOfNums (xs.set at_ (Go.bits .xor .u8 y x)))) ((Lib.bytesWorld W 5 (strOfNums xs)).setCell ⟨W.heap.size, at_, none⟩ (.int .u8 (Go.bits .xor .u8 y x))) from fun W c => by
    refine Kd.C_string (P := Try.prog) (dst := 9) (c := c) Try.underlying29 Try.underlying5 Try.underlying9 (Kd.C_of_reads (d := (0 : Int)) (h1 := fun _ => rfl) ⟨by rw [List.length_set]; exact hxl, by omega, fun _ => ⟨_, rfl, fun j hj => ?_⟩⟩)
    rw [add_plain]
    by_cases e : j = at_
    · subst e
      rw [World.cell?_setCell_same _ _ _ (HC0.out W j ha)]
      simp [List.getD_eq_getElem?_getD, List.getElem?_set_self (show j < xs.length from by omega)]
    · rw [World.cell?_setCell_other _ _ _ _ (by intro e2; have := (Addr.mk.inj e2).2.1; omega), HC0.out W j hj]
      simp [List.getD_eq_getElem?_getD, List.getElem?_set_ne (fun h => e h.symm)])
  have HT := Lib.hid h
  have ha1 : (at_ : Int) < 72 := by omega
  have ha2 : ¬ (at_ : Int) < 0 := by omega
  have ha3 : at_ ≤ 9223372036854775807 := by omega
  have hcond : (decide ((at_ : Int) < 0) || decide (71 < (at_ : Int)) || x == 0) = false := by
    rw [decide_eq_false ha2, decide_eq_false (by omega)]
    simpa using hx0
  have hcond2 : (decide (71 < (at_ : Int)) || x == 0) = false := by
    rw [decide_eq_false (by omega)]
    simpa using hx0
  have HY := Lib.hid hy
  clear h hxs hxl hxb hy hsz hb hf hx hi
  go_enter Try.func60, Try.ntmps60
  go_wp2_with (first
    | (go_at_call 109; (refine (HRS.out _ ?hR).mono ?_); (case hR => exact RDsk.next HR2.out ((bytes_below (Below.refl _ _) (Nat.le_refl _) _ _).setCell (p := ⟨w2.heap.size, at_, none⟩) (Nat.le_refl _) _)); rintro e w3 ⟨rfl, hR3, hK3, hB3⟩; have HR3 := Lib.hid hR3; have HK3 := Lib.hid hK3; have HB3 := Lib.hid hB3; clear hR3 hK3 hB3)
    | (go_at_call 55; refine (HRR.out _ HR1.out).mono ?_; rintro e w2 ⟨rfl, hb2⟩; have HR2 := Lib.hid (RDsk.next HR1.out hb2); have HB2 := Lib.hid (below_next HB1.out hb2); have hcy := HC0.out w2 at_ ha; rw [← HY.out] at hcy; have hfz := HF0.out w2; have hst := HST.out w2 (grownCap w2 72 0 5); clear hb2)
    | (go_at_call 65; refine hh.mono ?_; rintro e w1 ⟨rfl, hb1⟩; have HR1 := Lib.hid (RDsk.next HT.out hb1); have HB1 := Lib.hid hb1; clear hb1))
  go_ret
  have hbw : Below w2.heap.size w2 ((Lib.bytesWorld w2 5 (strOfNums xs)).setCell ⟨w2.heap.size, at_, none⟩ (.int .u8 (Go.bits .xor .u8 y x))) := (bytes_below (Below.refl _ _) (Nat.le_refl _) _ _).setCell (p := ⟨w2.heap.size, at_, none⟩) (Nat.le_refl _) _
  have hb2 := below_next HB2.out hbw
  exact ⟨rfl, HR3.out, (KeepT.of_below _ hb2).trans HK3.out, (hb2.mono (RDsk.le HT.out)).trans HB3.out⟩
end
end Go.Proofs.Ytoiiacbbfhlocaa.HDa
