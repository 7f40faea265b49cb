/- Layer 19: the document's table: at, whether it fits, Granted, Row. -/
import Derived.Test.YtoiiacbbfhlocaaHLe
import Derived.Test.YtoiiacbbfhlocaaLst
set_option linter.unusedVariables false
set_option linter.unusedSimpArgs false
namespace Go.Proofs.Ytoiiacbbfhlocaa.HLa
open Go.RowKit Go.Proofs.YtoiiacbbfhlocaaW.PrintWords Go.Proofs.YtoiiacbbfhlocaaW.PrintLast Go.Proofs.YtoiiacbbfhlocaaW.PrintMore Go.Proofs.Ytoiiacbbfhlocaa.Kit
/-- the document's asks: lock, client, to write -/
abbrev RA := Int × Int × Bool
def kR : Kd RA := Kd.pair (Kd.int .i64) (Kd.pair (Kd.int .i64) Kd.bool)
theorem kR_open {w : World} {x : RA} {cs : List Value} (h : kR.K w x cs) : cs = [.int .i64 x.1, .int .i64 x.2.1, .bool x.2.2] := by
  obtain ⟨_, _, rfl, rfl, ⟨_, _, rfl, rfl, rfl⟩⟩ := h
  rfl
theorem kR_openM {w : World} {base : Nat} {ok : Nat → Prop} {x : RA} {cs : List Value} (h : kR.M w base ok x cs) : cs = [.int .i64 x.1, .int .i64 x.2.1, .bool x.2.2] := by
  obtain ⟨_, _, rfl, rfl, ⟨_, _, rfl, rfl, rfl⟩⟩ := h
  rfl
theorem kR_mkM (w : World) (base : Nat) (ok : Nat → Prop) (x : RA) : kR.M w base ok x [.int .i64 x.1, .int .i64 x.2.1, .bool x.2.2] := ⟨[.int .i64 x.1], [.int .i64 x.2.1, .bool x.2.2], rfl, rfl, ⟨[.int .i64 x.2.1], [.bool x.2.2], rfl, rfl, rfl⟩⟩
def rC (l : List RA) : List Value := l.flatMap fun x => [.int .i64 x.1, .int .i64 x.2.1, .bool x.2.2]
theorem rC_length : ∀ l : List RA, (rC l).length = l.length * 3
  | [] => rfl
  | a :: l => by
    have h := rC_length l
    simp only [rC, List.flatMap_cons, List.length_append, List.length_cons, List.length_nil] at h ⊢
    omega
theorem reps_rC (w : World) (base : Nat) (ok : Nat → Prop) : ∀ l : List RA, Reps (kR.M w base ok) 3 l (rC l)
  | [] => ⟨rfl, fun j p h => by simp at h⟩
  | a :: l => by
    refine ⟨rC_length _, fun j p hp => ?_⟩
    cases j with
    | zero =>
      simp only [List.getElem?_cons_zero, Option.some.injEq] at hp
      subst hp
      exact kR_mkM w base ok a
    | succ j =>
      have h := (reps_rC w base ok l).2 j p (by simpa using hp)
      rw [show (j + 1) * 3 = j * 3 + 1 + 1 + 1 from by omega]
      exact h
theorem rC_of_reps {w : World} {base : Nat} {ok : Nat → Prop} : ∀ (l : List RA) (cs : List Value), Reps (kR.M w base ok) 3 l cs → cs = rC l
  | [], cs, h => List.length_eq_zero_iff.1 h.1
  | a :: l, cs, h => by
    have h0 := kR_openM (h.2 0 a rfl)
    have ht : Reps (kR.M w base ok) 3 l (cs.drop 3) := ⟨by rw [List.length_drop, h.1, List.length_cons]; omega, fun j p hp => by
      have := h.2 (j + 1) p (by simpa using hp)
      rw [List.drop_drop, show 3 + j * 3 = (j + 1) * 3 from by omega]
      exact this⟩
    have h1 := rC_of_reps l _ ht
    have : cs = cs.take 3 ++ cs.drop 3 := (List.take_append_drop 3 cs).symm
    rw [this, h1]
    have h0' : cs.take 3 = [.int .i64 a.1, .int .i64 a.2.1, .bool a.2.2] := by simpa using h0
    rw [h0']
    rfl
/-- the document's row of asks -/
def RRow (base : Nat) (W : World) (v : Value) (l : List RA) : Prop := W.ownsRow base 146 3 v l.length (rC l)
theorem RRow.toR {base : Nat} {W : World} {v : Value} {l : List RA} (h : RRow base W v l) : Kd.R kR 146 W base (fun _ => True) v l := ⟨fun _ _ => trivial, rC l, h, reps_rC _ _ _ l⟩
theorem RRow.ofR {base : Nat} {W : World} {v : Value} {l : List RA} {ok : Nat → Prop} (h : Kd.R kR 146 W base ok v l) : RRow base W v l := by
  obtain ⟨-, inner, ho, hr⟩ := h
  rw [RRow, ← rC_of_reps l inner hr]
  exact ho
theorem RRow.next {base : Nat} {W W' : World} {v : Value} {l : List RA} (h : RRow base W v l) (hb : Below W.heap.size W W') : RRow base W' v l := pw_own_below h hb
/-- the document's table at g -/
structure RTab (base : Nat) (W : World) (g : Nat) (v : Value) (N : Int) (l : List RA) : Prop where
  tab : W.heap[g]? = some (.cells #[.int .i64 N, v] 71 (0, 0))
  hg : base ≤ g
  row : RRow base W v l
theorem RTab.next {base : Nat} {W W' : World} {g : Nat} {v : Value} {N : Int} {l : List RA} (h : RTab base W g v N l) (hb : Below W.heap.size W W') : RTab base W' g v N l := ⟨(hb.block g (Array.getElem?_eq_some_iff.1 h.tab).1).trans h.tab, h.hg, h.row.next hb⟩
theorem RTab.keepT {ts : List Nat} {base : Nat} {W W' : World} {g : Nat} {v : Value} {N : Int} {l : List RA} (h : RTab base W g v N l) (hk : KeepT ts W W') (h1 : 71 ∉ ts) (h2 : 146 ∉ ts) : RTab base W' g v N l := ⟨hk.cells h.tab h1, h.hg, hk.own h.row h2⟩
theorem RTab.c0 {base : Nat} {W : World} {g : Nat} {v : Value} {N : Int} {l : List RA} (h : RTab base W g v N l) : W.cell? ⟨g, 0, none⟩ = some (.int .i64 N) := (blk_cell h.tab 0).trans rfl
theorem RTab.c1 {base : Nat} {W : World} {g : Nat} {v : Value} {N : Int} {l : List RA} (h : RTab base W g v N l) : W.cell? ⟨g, 1, none⟩ = some v := (blk_cell h.tab 1).trans rfl
theorem RTab.le {base : Nat} {W : World} {g : Nat} {v : Value} {N : Int} {l : List RA} (h : RTab base W g v N l) : base ≤ W.heap.size := by
  have := (Array.getElem?_eq_some_iff.1 h.tab).1
  have := h.hg
  omega
/-- what a reader of the table sees -/
theorem RTab.reads {base : Nat} {W : World} {g : Nat} {v : Value} {N : Int} {l : List RA} (h : RTab base W g v N l) : ∃ A c, v = .slice A l.length c ∧ l.length ≤ c ∧ ∀ (j : Nat) (a : RA), l[j]? = some a → ∃ b o, A = some ⟨b, o, none⟩ ∧ W.cell? ⟨b, o + j * 3, none⟩ = some (.int .i64 a.1) ∧ W.cell? ⟨b, o + j * 3 + 1, none⟩ = some (.int .i64 a.2.1) ∧ W.cell? ⟨b, o + j * 3 + 2, none⟩ = some (.bool a.2.2) := by
  obtain ⟨A, c, rfl, hc, -⟩ := Kd.R_reads h.row.toR
  refine ⟨A, c, rfl, hc, fun j a ha => ?_⟩
  have hj : j < l.length := (List.getElem?_eq_some_iff.1 ha).1
  rcases h.row.2 with ⟨-, h0⟩ | ⟨g', cap, cur, e, hg, hh, hn, hm, hs, ht⟩
  · omega
  · obtain ⟨rfl, -, -⟩ := Value.slice.inj e
    have key : ∀ i u, i < 3 → [Value.int .i64 a.1, .int .i64 a.2.1, .bool a.2.2][i]? = some u → W.cell? ⟨g', 0 + j * 3 + i, none⟩ = some u := by
      intro i u hi hu
      have h1 := (reps_rC W base (fun _ => True) l).2 j a ha
      have h2 := kR_openM h1
      rw [← h2, List.getElem?_take, if_pos hi, List.getElem?_drop, ← ht, List.getElem?_take, if_pos (by omega)] at hu
      rw [blk_cell hh, Nat.zero_add]
      simpa using hu
    exact ⟨g', 0, rfl, key 0 _ (by omega) rfl, key 1 _ (by omega) rfl, key 2 _ (by omega) rfl⟩
def fitsF (N lock client : Int) : Bool := decide (0 ≤ lock) && (decide (lock < N) && (decide (0 ≤ client) && decide (client < 64)))
theorem fits_any (base g : Nat) (v : Value) (N : Int) (l : List RA) (lock client : Int) (w : World) (h : RTab base w g v N l) : Calls Try.prog 95 #[.pointer (some ⟨g, 0, none⟩), .int .i64 lock, .int .i64 client] w (TellsL (fitsF N lock client) w) := by
  have hc := h.c0
  unfold fitsF
  by_cases h1 : 0 ≤ lock
  · by_cases h2 : lock < N
    · by_cases h3 : 0 ≤ client
      · by_cases h4 : client < 64
        · rw [decide_eq_true h1, decide_eq_true h2, decide_eq_true h3, decide_eq_true h4]
          go_enter Try.func95, Try.ntmps95
          go_wp2
          go_ret
          exact ⟨rfl, Below.refl _ _⟩
        · rw [decide_eq_true h1, decide_eq_true h2, decide_eq_true h3, decide_eq_false h4]
          go_enter Try.func95, Try.ntmps95
          go_wp2
          go_ret
          exact ⟨rfl, Below.refl _ _⟩
      · rw [decide_eq_true h1, decide_eq_true h2, decide_eq_false h3]
        go_enter Try.func95, Try.ntmps95
        go_wp2
        go_ret
        exact ⟨rfl, Below.refl _ _⟩
    · rw [decide_eq_true h1, decide_eq_false h2]
      go_enter Try.func95, Try.ntmps95
      go_wp2
      go_ret
      exact ⟨rfl, Below.refl _ _⟩
  · rw [decide_eq_false h1]
    go_enter Try.func95, Try.ntmps95
    go_wp2
    go_ret
    exact ⟨rfl, Below.refl _ _⟩
def rAt (l : List RA) (lock client : Int) : Int := fI (fun a => a.1 == lock && a.2.1 == client) l 0
set_option maxRecDepth 100000 in
set_option maxHeartbeats 2000000 in
theorem at_any (base g : Nat) (v : Value) (N : Int) (l : List RA) (lock client : Int) (w : World) (h : RTab base w g v N l) (hm : l.length ≤ 1000000) : Calls Try.prog 96 #[.pointer (some ⟨g, 0, none⟩), .int .i64 lock, .int .i64 client] w (TellsI (rAt l lock client) w) := by
  obtain ⟨A, c, rfl, hc, hcs⟩ := h.reads
  have hg1 := h.c1
  clear h
  go_enter Try.func96, Try.ntmps96
  go_wp2
  go_loopg [7] l.length (fun gg s7 wr => ∃ kk : Nat, kk ≤ l.length ∧ l.length - kk ≤ gg ∧ s7 = .int .i64 kk ∧ wr = w ∧ Aside0 (∀ (j : Nat) (a : RA), j < kk → l[j]? = some a → (a.1 == lock && a.2.1 == client) = false))
  case atStart => exact ⟨0, Nat.zero_le _, by omega, rfl, rfl, ⟨fun j a hj => absurd hj (Nat.not_lt_zero _)⟩⟩
  case round =>
    obtain ⟨kk, hkk, hg, rfl, rfl, AN⟩ := hrel
    by_cases hlt : kk < l.length
    · have hltz : (kk : Int) < (l.length : Int) := by omega
      obtain ⟨a, ha⟩ : ∃ a, l[kk]? = some a := ⟨_, List.getElem?_eq_getElem hlt⟩
      obtain ⟨b, o, rfl, c1, c2, c3⟩ := hcs kk a ha
      have ha' := Lib.hid ha
      clear hcs ha c3
      by_cases e1 : a.1 = lock
      · by_cases e2 : a.2.1 = client
        · have b1 : (a.1 == lock) = true := beq_iff_eq.2 e1
          have b2 : (a.2.1 == client) = true := beq_iff_eq.2 e2
          clear e1 e2
          go_wp2
          go_ret
          refine ⟨?_, Below.refl _ _⟩
          unfold rAt
          rw [fI_hit (fun a => a.1 == lock && a.2.1 == client) l 0 kk a ha'.out (by simp only [b1, b2, Bool.and_self]) AN.out]
          simp
        · have b1 : (a.1 == lock) = true := beq_iff_eq.2 e1
          have b2 : (a.2.1 == client) = false := beq_eq_false_iff_ne.2 e2
          clear e1 e2
          go_wp2
          go_roundg (l.length - (kk + 1))
          case measure => omega
          case rel =>
            refine ⟨kk + 1, by omega, by omega, by go_num, rfl, ⟨fun j a' hj ha1 => ?_⟩⟩
            by_cases e : j = kk
            · subst e
              have := ha'.out
              rw [ha1] at this
              obtain rfl := Option.some.inj this
              simp only [b1, b2, Bool.and_false]
            · exact AN.out j a' (by omega) ha1
      · have b1 : (a.1 == lock) = false := beq_eq_false_iff_ne.2 e1
        clear e1
        go_wp2
        go_roundg (l.length - (kk + 1))
        case measure => omega
        case rel =>
          refine ⟨kk + 1, by omega, by omega, by go_num, rfl, ⟨fun j a' hj ha1 => ?_⟩⟩
          by_cases e : j = kk
          · subst e
            have := ha'.out
            rw [ha1] at this
            obtain rfl := Option.some.inj this
            simp only [b1, Bool.false_and]
          · exact AN.out j a' (by omega) ha1
    · have hltz : ¬ (kk : Int) < (l.length : Int) := by omega
      have hk := Lib.hid (show kk = l.length from by omega)
      go_wp2
      go_ret
      refine ⟨?_, Below.refl _ _⟩
      unfold rAt
      rw [fI_miss (fun a => a.1 == lock && a.2.1 == client) l 0 (fun i b hi => AN.out i b (by have := (List.getElem?_eq_some_iff.1 hi).1; have := hk.out; omega) hi)]
      rfl
end Go.Proofs.Ytoiiacbbfhlocaa.HLa
