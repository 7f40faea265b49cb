/- Layer 19: the library's IndexFunc and ContainsFunc over asks; find. -/
import Derived.Test.YtoiiacbbfhlocaaHLa
set_option linter.unusedVariables false
set_option linter.unusedSimpArgs false
namespace Go.Proofs.Ytoiiacbbfhlocaa.HLa
open Go.RowKit Go.Proofs.YtoiiacbbfhlocaaW.PrintWords Go.Proofs.YtoiiacbbfhlocaaW.PrintLast Go.Proofs.YtoiiacbbfhlocaaW.PrintMore Go.Proofs.Ytoiiacbbfhlocaa.Kit
/-- the place of the first one of which p is said, of what stands ahead of n -/
def fI {α : Type} (p : α → Bool) : List α → Nat → Int
  | [], _ => -1
  | a :: l, k => if p a then (k : Int) else fI p l (k + 1)
theorem fI_hit {α : Type} (p : α → Bool) : ∀ (l : List α) (k j : Nat) (a : α), l[j]? = some a → p a = true → (∀ (i : Nat) (b : α), i < j → l[i]? = some b → p b = false) → fI p l k = ((k + j : Nat) : Int)
  | b :: l, k, 0, a, h, hp, hn => by
    simp only [List.getElem?_cons_zero, Option.some.injEq] at h
    subst h
    simp [fI, hp]
  | b :: l, k, j + 1, a, h, hp, hn => by
    have e := hn 0 b (Nat.zero_lt_succ j) rfl
    rw [fI, e]
    simp only [Bool.false_eq_true, if_false]
    rw [fI_hit p l (k + 1) j a (by simpa using h) hp (fun i c hi hc => hn (i + 1) c (by omega) (by simpa using hc))]
    congr 1; omega
  | [], k, j, a, h, hp, hn => by simp at h
theorem fI_miss {α : Type} (p : α → Bool) : ∀ (l : List α) (k : Nat), (∀ (i : Nat) (b : α), l[i]? = some b → p b = false) → fI p l k = -1
  | [], k, hn => rfl
  | b :: l, k, hn => by
    have e := hn 0 b rfl
    rw [fI, e]
    simp only [Bool.false_eq_true, if_false]
    exact fI_miss p l (k + 1) (fun i c hc => hn (i + 1) c (by simpa using hc))
theorem fI_cases {α : Type} (p : α → Bool) (l : List α) : (fI p l 0 = -1 ∧ ∀ a ∈ l, p a = false) ∨ ∃ (j : Nat) (a : α), l[j]? = some a ∧ p a = true ∧ fI p l 0 = (j : Int) ∧ ∀ (i : Nat) (b : α), i < j → l[i]? = some b → p b = false := by
  by_cases h : ∀ a ∈ l, p a = false
  · exact .inl ⟨fI_miss p l 0 (fun i b hb => h b (List.mem_of_getElem? hb)), h⟩
  · right
    have h' : ∃ j : Nat, ∃ a, l[j]? = some a ∧ p a = true := by
      apply Classical.byContradiction
      intro hn
      apply h
      intro a ha
      obtain ⟨j, hj⟩ := List.mem_iff_getElem?.1 ha
      cases hp : p a with
      | false => rfl
      | true => exact absurd ⟨j, a, hj, hp⟩ hn
    obtain ⟨j, a, hj, hp⟩ := h'
    induction j using Nat.strongRecOn generalizing a with
    | _ j ih =>
      by_cases hm : ∃ i : Nat, i < j ∧ ∃ b, l[i]? = some b ∧ p b = true
      · obtain ⟨i, hi, b, hb, hpb⟩ := hm
        exact ih i hi b hb hpb
      · have hn : ∀ (i : Nat) (b : α), i < j → l[i]? = some b → p b = false := fun i b hi hb => by
          cases hp' : p b with
          | false => rfl
          | true => exact absurd ⟨i, hi, b, hb, hp'⟩ hm
        refine ⟨j, a, hj, hp, ?_, hn⟩
        rw [fI_hit p l 0 j a hj hp hn]; simp
def encA (a : Int × Bool) : Value := .agg #[.int .i64 a.1, .bool a.2]
/-- what is asked of a function value that tells of an ask -/
def PredA (g : Nat) (lb : Array Value) (p : Int × Bool → Bool) (w : World) : Prop := ∀ (W : World) (a : Int × Bool), Below w.heap.size w W → Calls Try.prog g (#[encA a] ++ lb) W (TellsL (p a) W)
set_option maxRecDepth 100000 in
set_option maxHeartbeats 2000000 in
theorem idx_some (b n c : Nat) (l : List (Int × Bool)) (g : Nat) (lb : Array Value) (eg : ∀ args w, (callFunc g args).run Try.prog w = .ok (.enter g args) w) (p : Int × Bool → Bool) (w : World) (hp : PredA g lb p w) (hn : n ≤ l.length) (hbig : n ≤ 9223372036854775807) (hb : b < w.heap.size)
    (hc : ∀ (j : Nat) (a : Int × Bool), l[j]? = some a → w.cell? ⟨b, j * 2, none⟩ = some (.int .i64 a.1) ∧ w.cell? ⟨b, j * 2 + 1, none⟩ = some (.bool a.2)) :
    Calls Try.prog 120 #[.slice (some ⟨b, 0, none⟩) n c, .func (.func g) #[] lb] w (TellsI (fI p (l.take n) 0) w) := by
  have hc' : ∀ (W : World), Below w.heap.size w W → ∀ (j : Nat) (a : Int × Bool), l[j]? = some a → W.cell? ⟨b, j * 2, none⟩ = some (.int .i64 a.1) ∧ W.cell? ⟨b, j * 2 + 1, none⟩ = some (.bool a.2) := fun W hW j a ha => by
    rw [hW.cell (p := ⟨b, j * 2, none⟩) hb, hW.cell (p := ⟨b, j * 2 + 1, none⟩) hb]
    exact hc j a ha
  clear hc
  go_enter Try.func120, Try.ntmps120
  go_wp2
  go_loopg [5, 8] n (fun gg _ s8 wr => ∃ kk : Nat, kk ≤ n ∧ n - kk ≤ gg ∧ s8 = .int .i64 kk ∧ Aside0 (Below w.heap.size w wr) ∧ Aside0 (∀ (j : Nat) (a : Int × Bool), j < kk → l[j]? = some a → p a = false))
  case atStart => exact ⟨0, Nat.zero_le _, by omega, rfl, ⟨Below.refl _ w⟩, ⟨fun j a hj => absurd hj (Nat.not_lt_zero _)⟩⟩
  case round =>
    obtain ⟨kk, hkk, hg, rfl, BW, A⟩ := hrel
    by_cases hlt : kk < n
    · have hltz : (kk : Int) < (n : Int) := by omega
      obtain ⟨a, ha⟩ : ∃ a, l[kk]? = some a := ⟨_, List.getElem?_eq_getElem (by omega)⟩
      obtain ⟨c1, c2⟩ := hc' wr BW.out kk a ha
      have hcall := hp wr a BW.out
      have ha' := Lib.hid ha
      clear hc' hp ha
      cases hq : p a with
      | true =>
        rw [hq] at hcall
        go_wp2_with (go_at_fn g; refine hcall.mono ?_; rintro e w' ⟨rfl, hb'⟩)
        go_ret
        refine ⟨?_, BW.out.trans (hb'.mono BW.out.size)⟩
        rw [fI_hit p (l.take n) 0 kk a (by rw [List.getElem?_take, if_pos hlt]; exact ha'.out) hq (fun i b hi hb => by
          rw [List.getElem?_take] at hb
          split at hb
          · exact A.out i b hi hb
          · simp at hb)]
        simp
      | false =>
        rw [hq] at hcall
        go_wp2_with (go_at_fn g; refine hcall.mono ?_; rintro e w' ⟨rfl, hb'⟩)
        go_roundg (n - (kk + 1))
        case measure => omega
        case rel =>
          refine ⟨kk + 1, by omega, by omega, by go_num, ⟨BW.out.trans (hb'.mono BW.out.size)⟩, ⟨fun j a' hj ha1 => ?_⟩⟩
          by_cases e : j = kk
          · subst e
            have := ha'.out
            rw [ha1] at this
            obtain rfl := Option.some.inj this
            exact hq
          · exact A.out j a' (by omega) ha1
    · have hltz : ¬ (kk : Int) < (n : Int) := by omega
      have : kk = n := by omega
      subst this
      go_wp2
      go_ret
      refine ⟨?_, BW.out⟩
      rw [fI_miss p (l.take kk) 0 (fun i b hi => by
        rw [List.getElem?_take] at hi
        split at hi
        · exact A.out i b ‹_› hi
        · simp at hi)]
      rfl
theorem idx_empty (A : Option Addr) (c : Nat) (fv : Value) (w : World) : Calls Try.prog 120 #[.slice A 0 c, fv] w (TellsI (-1) w) := by
  go_enter Try.func120, Try.ntmps120
  go_wp2
  go_loopg [5, 8] 0 (fun _ _ s8 wr => s8 = .int .i64 0 ∧ wr = w)
  case atStart => exact ⟨rfl, rfl⟩
  case round =>
    obtain ⟨rfl, rfl⟩ := hrel
    go_wp2
    go_ret
    exact ⟨rfl, Below.refl _ _⟩
/-- a row's first ask of which p is said, of the first n -/
theorem idx_row {base : Nat} {w : World} {v : Value} {l : List (Int × Bool)} (h : AskRow base w v l) (hl : l.length ≤ 9223372036854775807) (n : Nat) (hn : n ≤ l.length) (g : Nat) (lb : Array Value) (eg : ∀ args w, (callFunc g args).run Try.prog w = .ok (.enter g args) w) (p : Int × Bool → Bool) (hp : PredA g lb p w) :
    ∃ A c, v = .slice A l.length c ∧ l.length ≤ c ∧ ∀ c', Calls Try.prog 120 #[.slice A n c', .func (.func g) #[] lb] w (TellsI (fI p (l.take n) 0) w) := by
  obtain ⟨A, c, rfl, hc, hcell⟩ := h.cells
  refine ⟨A, c, rfl, hc, fun c' => ?_⟩
  rcases Nat.eq_zero_or_pos n with rfl | hp0
  · exact idx_empty A c' _ w
  · obtain ⟨b, rfl, hcs⟩ := hcell (by omega)
    have hb : b < w.heap.size := by
      have hpos : 0 < l.length := by omega
      obtain ⟨c1, -⟩ := hcs 0 l[0] (List.getElem?_eq_getElem hpos)
      exact World.block_lt_of_cell? w _ c1
    exact idx_some b n c' l g lb eg p w hp hn (by omega) hb hcs
set_option maxRecDepth 100000 in
theorem find_pred (client : Int) (B : Nat) (w : World) (hcell : w.cell? ⟨B, 0, none⟩ = some (.int .i64 client)) : PredA 121 #[.pointer (some ⟨B, 0, none⟩)] (fun a => a.1 == client) w := fun W a hb => by
  have hB := World.block_lt_of_cell? w _ hcell
  have hc : W.cell? ⟨B, 0, none⟩ = some (.int .i64 client) := (hb.cell (p := ⟨B, 0, none⟩) hB).trans hcell
  have hBW : B < W.heap.size := Nat.lt_of_lt_of_le hB hb.size
  have hne : B ≠ W.heap.size := by omega
  show Calls Try.prog 121 #[.agg #[.int .i64 a.1, .bool a.2], .pointer (some ⟨B, 0, none⟩)] W _
  go_enter Try.func121, Try.ntmps121
  go_wp2
  go_ret
  exact ⟨rfl, (Below.refl _ W).alloc (Nat.le_refl _) _⟩
theorem eg_find : ∀ args w, (callFunc 121 args).run Try.prog w = .ok (.enter 121 args) w := enters_of Try.func121 (by kernel_rfl) rfl
/-- the place of a client's ask in a row -/
def atF (l : List (Int × Bool)) (client : Int) : Int := fI (fun a => a.1 == client) l 0
set_option maxRecDepth 100000 in
theorem find_any (base g r : Nat) (vs : List Value) (T : List (List (Int × Bool))) (i : Nat) (l : List (Int × Bool)) (client : Int) (w : World) (h : LTab base w g r vs T) (hl : T[i]? = some l) (hm : l.length ≤ 9223372036854775807) (hi : i ≤ 9223372036854775807) : Calls Try.prog 93 #[.pointer (some ⟨g, 0, none⟩), .int .i64 i, .int .i64 client] w (TellsI (atF l client) w) := by
  have hc := h.cell
  obtain ⟨v, -, hv, hrow⟩ := h.at_ i l hl
  have hi' : i < T.length := (List.getElem?_eq_some_iff.1 hl).1
  obtain ⟨A, c, rfl, hlc, hidx⟩ := idx_row (w := w.alloc (.cells #[.int .i64 client] 3)) (hrow.next ((Below.refl _ w).alloc (Nat.le_refl _) _)) hm l.length (Nat.le_refl _) 121 #[.pointer (some ⟨w.heap.size, 0, none⟩)] eg_find (fun a => a.1 == client) (find_pred client w.heap.size _ (by simp))
  have hgl : g < w.heap.size := World.block_lt_of_cell? w _ hc
  have hrl : r < w.heap.size := World.block_lt_of_cell? w _ hv
  have hgn : g ≠ w.heap.size := by omega
  have hrn : r ≠ w.heap.size := by omega
  have hx := hidx c
  rw [List.take_length] at hx
  clear hidx hlc h hrow hl
  go_enter Try.func93, Try.ntmps93
  go_wp2_with (go_at_call 120; refine hx.mono ?_; rintro e w' ⟨rfl, hb'⟩)
  go_ret
  exact ⟨rfl, ((Below.refl _ w).alloc (Nat.le_refl _) _).trans (hb'.mono (by simp))⟩
end Go.Proofs.Ytoiiacbbfhlocaa.HLa
