/- Layer 19: frames by type; New, Free, Row. -/
import Derived.Test.YtoiiacbbfhlocaaHLc
import Derived.Test.YtoiiacbbfhlocaaMake
set_option linter.unusedVariables false
set_option linter.unusedSimpArgs false
namespace Go.Proofs.Ytoiiacbbfhlocaa.HLa
open Go.RowKit Go.Proofs.YtoiiacbbfhlocaaW.PrintWords Go.Proofs.YtoiiacbbfhlocaaW.PrintLast Go.Proofs.YtoiiacbbfhlocaaW.PrintMore Go.Proofs.Ytoiiacbbfhlocaa.Kit
/-- all blocks but those of the types ts are as they were -/
structure KeepT (ts : List Nat) (w w' : World) : Prop where
  size : w.heap.size ≤ w'.heap.size
  keep : ∀ (k : Nat) (o : Obj), w.heap[k]? = some o → (∀ cs t fr, o = .cells cs t fr → t ∉ ts) → w'.heap[k]? = some o
theorem KeepT.refl (ts : List Nat) (w : World) : KeepT ts w w := ⟨Nat.le_refl _, fun _ _ h _ => h⟩
theorem KeepT.trans {ts : List Nat} {a b c : World} (h : KeepT ts a b) (h' : KeepT ts b c) : KeepT ts a c := ⟨Nat.le_trans h.size h'.size, fun k o ho ht => h'.keep k o (h.keep k o ho ht) ht⟩
theorem KeepT.mono {ts us : List Nat} {a b : World} (h : KeepT ts a b) (hs : ∀ t, t ∈ ts → t ∈ us) : KeepT us a b := ⟨h.size, fun k o ho ht => h.keep k o ho (fun cs t fr e hm => ht cs t fr e (hs t hm))⟩
theorem KeepT.of_below {ts : List Nat} {w w' : World} (h : Below w.heap.size w w') : KeepT ts w w' := ⟨h.size, fun k o ho _ => (h.block k (Array.getElem?_eq_some_iff.1 ho).1).trans ho⟩
theorem KeepT.next {ts : List Nat} {w w1 w2 : World} (h : KeepT ts w w1) (hb : Below w1.heap.size w1 w2) : KeepT ts w w2 := h.trans (.of_below hb)
theorem KeepT.cells {ts : List Nat} {w w' : World} (h : KeepT ts w w') {k : Nat} {cs : Array Value} {t : TypeId} {fr : Nat × Nat} (ho : w.heap[k]? = some (.cells cs t fr)) (ht : t ∉ ts) : w'.heap[k]? = some (.cells cs t fr) := h.keep k _ ho (fun cs' t' fr' e => by cases e; exact ht)
theorem KeepT.own {ts : List Nat} {w w' : World} (h : KeepT ts w w') {base e size n : Nat} {v : Value} {xs : List Value} (ho : w.ownsRow base e size v n xs) (ht : e ∉ ts) : w'.ownsRow base e size v n xs := by
  refine ⟨ho.1, ?_⟩
  rcases ho.2 with hn | ⟨g, cap, cur, hv, hb, hg, rest⟩
  · exact .inl hn
  · exact .inr ⟨g, cap, cur, hv, hb, h.cells hg ht, rest⟩
theorem KeepT.of_grown {w w' : World} {base e size n : Nat} {v : Value} {xs : List Value} (hr : w.ownsRow base e size v n xs) (h : w.grownBy w' v.ownBlock) : KeepT [e] w w' := by
  refine ⟨h.size, fun k o ho ht => (h.block k (Array.getElem?_eq_some_iff.1 ho).1 ?_).trans ho⟩
  intro hk
  obtain ⟨cells, hc⟩ := own_typed hr k hk.symm
  rw [hc] at ho
  cases ho
  exact ht _ _ _ rfl (List.mem_singleton.2 rfl)
theorem LRows.keepT {ts : List Nat} {base : Nat} {W W' : World} {vs : List Value} {T : List (List (Int × Bool))} (h : LRows base W vs T) (hk : KeepT ts W W') (h3 : 144 ∉ ts) : LRows base W' vs T := ⟨h.len, fun i v l hv hl => hk.own (h.row i v l hv hl) h3, h.apart⟩
theorem LTab.keepT {ts : List Nat} {base : Nat} {W W' : World} {g r : Nat} {vs : List Value} {T : List (List (Int × Bool))} (h : LTab base W g r vs T) (hk : KeepT ts W W') (h1 : 140 ∉ ts) (h2 : 141 ∉ ts) (h3 : 144 ∉ ts) : LTab base W' g r vs T :=
  ⟨hk.cells h.tab h1, hk.cells h.rws h2, h.hg, h.hr, h.pos, h.rows.keepT hk h3⟩
theorem new_bad (n : Int) (w : World) (h : n < 1 ∨ 64 < n) : Calls Try.prog 36 #[.int .i64 n] w fun e w' => e = .returned (.tuple #[.pointer none, .int .i64 1]) ∧ w' = w := by
  go_enter Try.func36, Try.ntmps36
  rcases h with h | h
  · go_wp2_with fail
    go_ret2
    exact ⟨rfl, rfl⟩
  · have h1 : ¬ n < 1 := by omega
    go_wp2_with fail
    go_ret2
    exact ⟨rfl, rfl⟩
theorem info_row : (Try.prog.info? 141).map (fun i => (i.zero, i.size, i.bytes)) = some (some (.slice none 0 0), 1, 24) := by kernel_rfl
theorem made_rep (z : Value) (n : Nat) : madeCells #[z] n = (List.replicate n z).toArray := by
  apply Array.ext
  · simp [madeCells]
  · intro i h1 h2
    simp [madeCells, Nat.mod_one]
def NewOut (n : Nat) (w : World) (e : Ending) (w' : World) : Prop := ∃ g r vs, e = .returned (.tuple #[.pointer (some ⟨g, 0, none⟩), .int .i64 0]) ∧ LTab w.heap.size w' g r vs (List.replicate n []) ∧ Below w.heap.size w w'
set_option maxRecDepth 100000 in
theorem new_any (n : Nat) (w : World) (h1 : 1 ≤ n) (h2 : n ≤ 64) : Calls Try.prog 36 #[.int .i64 n] w (NewOut n w) := by
  have k1 : ¬ (n : Int) < 1 := by omega
  have k2 : ¬ (n : Int) > 64 := by omega
  have hmk := run_make_row' 138 141 (.slice none 0 0) 24 Try.underlying138 info_row rfl .i64 .i64 n (by omega) (by omega) w
  rw [made_rep] at hmk
  go_enter Try.func36, Try.ntmps36
  go_wp2_with fail
  go_ret2
  have hn : (w.alloc (Obj.cells (Array.replicate n (Value.slice none 0 0)) 141)).heap.size = w.heap.size + 1 := by simp
  refine ⟨w.heap.size + 1, w.heap.size, List.replicate n (.slice none 0 0), rfl, ⟨?_, ?_, by omega, Nat.le_refl _, by simp; omega, ⟨by simp, fun i v l hv hl => ?_, fun i j v v' _ hv _ => .inl ?_⟩⟩, below_alloc (below_alloc (Below.refl _ _) _) _⟩
  · have h := heap_alloc_new (w.alloc (Obj.cells (Array.replicate n (Value.slice none 0 0)) 141)) (.cells #[.slice (some ⟨w.heap.size, 0, none⟩) n n] 140)
    rw [hn] at h
    simpa using h
  · have h := heap_alloc_new w (Obj.cells (Array.replicate n (Value.slice none 0 0)) 141)
    rw [← List.toArray_replicate] at h
    refine ((below_alloc (Below.refl _ _) _).block w.heap.size (by omega)).trans ?_
    simpa using h
  · obtain rfl := (List.mem_replicate.1 (List.mem_of_getElem? hv)).2
    obtain rfl := (List.mem_replicate.1 (List.mem_of_getElem? hl)).2
    exact ⟨rfl, .inl ⟨rfl, rfl⟩⟩
  · obtain rfl := (List.mem_replicate.1 (List.mem_of_getElem? hv)).2
    rfl
theorem free_none (w : World) : Calls Try.prog 41 #[.pointer none] w (TellsL true w) := by
  go_enter Try.func41, Try.ntmps41
  go_wp2_with fail
  go_ret
  exact ⟨rfl, Below.refl _ _⟩
def someF : Value → Bool
  | .slice _ n _ => decide (0 < n)
  | _ => false
theorem free_pred (A : Option Addr) (n c : Nat) (w : World) : Calls Try.prog 98 #[.slice A n c] w (TellsL (decide (0 < n)) w) := by
  go_enter Try.func98, Try.ntmps98
  go_wp2
  go_ret
  exact ⟨rfl, Below.refl _ _⟩
theorem eg_free : ∀ args w, (callFunc 98 args).run Try.prog w = .ok (.enter 98 args) w := enters_of Try.func98 (by kernel_rfl) rfl
set_option maxRecDepth 100000 in
set_option maxHeartbeats 2000000 in
theorem idx_rows (r n : Nat) (vs : List Value) (w : World) (hn : vs.length = n) (hbig : n ≤ 9223372036854775807) (hb : r < w.heap.size)
    (hc : ∀ (j : Nat) (v : Value), vs[j]? = some v → w.cell? ⟨r, j, none⟩ = some v ∧ ∃ A m c, v = .slice A m c) :
    Calls Try.prog 122 #[.slice (some ⟨r, 0, none⟩) n n, .func (.func 98) #[] #[]] w (TellsI (fI someF vs 0) w) := by
  have eg := eg_free
  have hc' : ∀ (W : World), Below w.heap.size w W → ∀ (j : Nat) (v : Value), vs[j]? = some v → ∃ A m c, v = .slice A m c ∧ W.cell? ⟨r, j, none⟩ = some (.slice A m c) := fun W hW j a ha => by
    obtain ⟨h1, A, m, c, rfl⟩ := hc j a ha
    exact ⟨A, m, c, rfl, (hW.cell (p := ⟨r, j, none⟩) hb).trans h1⟩
  clear hc
  go_enter Try.func122, Try.ntmps122
  go_wp2
  go_loopg [5, 8] n (fun gg _ s8 wr => ∃ kk : Nat, kk ≤ n ∧ n - kk ≤ gg ∧ s8 = .int .i64 kk ∧ Aside0 (Below w.heap.size w wr) ∧ Aside0 (∀ (j : Nat) (v : Value), j < kk → vs[j]? = some v → someF v = false))
  case atStart => exact ⟨0, Nat.zero_le _, by omega, rfl, ⟨Below.refl _ w⟩, ⟨fun j a hj => absurd hj (Nat.not_lt_zero _)⟩⟩
  case round =>
    obtain ⟨kk, hkk, hg, rfl, BW, A⟩ := hrel
    by_cases hlt : kk < n
    · have hltz : (kk : Int) < (n : Int) := by omega
      obtain ⟨v, hv⟩ : ∃ v, vs[kk]? = some v := ⟨_, List.getElem?_eq_getElem (by omega)⟩
      obtain ⟨A0, m, c, rfl, c1⟩ := hc' wr BW.out kk v hv
      have hcall := free_pred A0 m c wr
      have ha' := Lib.hid hv
      clear hc' hv
      cases hq : decide (0 < m) with
      | true =>
        rw [hq] at hcall
        have hq' := Lib.hid hq
        clear hq
        go_wp2_with (go_at_fn 98; refine hcall.mono ?_; rintro e w' ⟨rfl, hb'⟩)
        go_ret
        refine ⟨?_, BW.out.trans (hb'.mono BW.out.size)⟩
        rw [fI_hit someF vs 0 kk _ ha'.out hq'.out A.out]
        simp
      | false =>
        rw [hq] at hcall
        have hq' := Lib.hid hq
        clear hq
        go_wp2_with (go_at_fn 98; refine hcall.mono ?_; rintro e w' ⟨rfl, hb'⟩)
        go_roundg (n - (kk + 1))
        case measure => omega
        case rel =>
          refine ⟨kk + 1, by omega, by omega, by go_num, ⟨BW.out.trans (hb'.mono BW.out.size)⟩, ⟨fun j a' hj ha1 => ?_⟩⟩
          by_cases e : j = kk
          · subst e
            have := ha'.out
            rw [ha1] at this
            obtain rfl := Option.some.inj this
            exact hq'.out
          · exact A.out j a' (by omega) ha1
    · have hltz : ¬ (kk : Int) < (n : Int) := by omega
      have : kk = n := by omega
      subst this
      have hn' := Lib.hid hn
      clear hn
      go_wp2
      go_ret
      refine ⟨?_, BW.out⟩
      rw [fI_miss someF vs 0 (fun i b hi => A.out i b (by have := (List.getElem?_eq_some_iff.1 hi).1; have := hn'.out; omega) hi)]
      rfl
def freeF (T : List (List (Int × Bool))) : Bool := T.all fun l => l.isEmpty
theorem LRows.any {base : Nat} {W : World} {vs : List Value} {T : List (List (Int × Bool))} (h : LRows base W vs T) : (!(vs.any someF)) = freeF T := by
  have h1 : ∀ (i : Nat) (v : Value) (l : List (Int × Bool)), vs[i]? = some v → T[i]? = some l → someF v = !l.isEmpty := fun i v l hv hl => by
    obtain ⟨A, c, rfl, -, -⟩ := (h.row i v l hv hl).cells
    cases l <;> simp [someF]
  unfold freeF
  rw [Bool.eq_iff_iff]
  simp only [Bool.not_eq_true', List.any_eq_false, List.all_eq_true]
  constructor
  · intro hh l hl
    obtain ⟨i, hi⟩ := List.mem_iff_getElem?.1 hl
    have hi' : i < vs.length := by rw [h.len]; exact (List.getElem?_eq_some_iff.1 hi).1
    have := hh _ (List.getElem_mem hi')
    rw [h1 i _ l (List.getElem?_eq_getElem hi') hi] at this
    simpa using this
  · intro hh v hv
    obtain ⟨i, hi⟩ := List.mem_iff_getElem?.1 hv
    have hi' : i < T.length := by rw [← h.len]; exact (List.getElem?_eq_some_iff.1 hi).1
    rw [h1 i v _ hi (List.getElem?_eq_getElem hi')]
    simpa using hh _ (List.getElem_mem hi')
set_option maxRecDepth 100000 in
theorem free_any (base g r : Nat) (vs : List Value) (T : List (List (Int × Bool))) (w : World) (h : LTab base w g r vs T) (hm : T.length ≤ 9223372036854775807) : Calls Try.prog 41 #[.pointer (some ⟨g, 0, none⟩)] w (TellsL (freeF T) w) := by
  have hc := h.cell
  have hr : r < w.heap.size := (Array.getElem?_eq_some_iff.1 h.rws).1
  have hx := idx_rows r T.length vs w h.rows.len hm hr (fun j v hv => by
    have hj : j < T.length := by rw [← h.rows.len]; exact (List.getElem?_eq_some_iff.1 hv).1
    obtain ⟨v', e, h1, h2⟩ := h.at_ j _ (List.getElem?_eq_getElem hj)
    rw [hv] at e
    obtain rfl := Option.some.inj e
    obtain ⟨A, c, e, -, -⟩ := h2.cells
    exact ⟨h1, A, _, c, e⟩)
  have e := h.rows.any
  rw [← fI_any someF vs] at e
  rw [← e]
  clear e h
  generalize fI someF vs 0 = z at hx
  have hcont : Calls Try.prog 97 #[.slice (some ⟨r, 0, none⟩) T.length T.length, .func (.func 98) #[] #[]] w (TellsL (decide (z ≥ 0)) w) := by
    clear hc
    go_enter Try.func97, Try.ntmps97
    go_wp2_with (go_at_call 122; refine hx.mono ?_; rintro e w' ⟨rfl, hb'⟩)
    go_ret
    exact ⟨rfl, hb'⟩
  go_enter Try.func41, Try.ntmps41
  go_wp2_with (go_at_call 97; refine hcont.mono ?_; rintro e w' ⟨rfl, hb'⟩)
  go_ret
  exact ⟨rfl, hb'⟩
end Go.Proofs.Ytoiiacbbfhlocaa.HLa
