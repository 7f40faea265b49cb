/- Layer 19: ContainsFunc, Granted, Free, Row. -/
import Derived.Test.YtoiiacbbfhlocaaHLb
set_option linter.unusedVariables false
set_option linter.unusedSimpArgs false
namespace Go.Proofs.Ytoiiacbbfhlocaa.HLa
open Go.RowKit Go.Proofs.YtoiiacbbfhlocaaW.PrintWords Go.Proofs.YtoiiacbbfhlocaaW.PrintLast Go.Proofs.YtoiiacbbfhlocaaW.PrintMore Go.Proofs.Ytoiiacbbfhlocaa.Kit
theorem fI_any {α : Type} (p : α → Bool) (l : List α) : decide (fI p l 0 ≥ 0) = l.any p := by
  rcases fI_cases p l with ⟨h, hn⟩ | ⟨j, a, hj, hp, h, -⟩
  · rw [h, List.any_eq_false.2 (fun x hx => by simp [hn x hx])]
    simp
  · rw [h, List.any_eq_true.2 ⟨a, List.mem_of_getElem? hj, hp⟩]
    simp
set_option maxRecDepth 100000 in
theorem cont_row {base : Nat} {w : World} {v : Value} {l : List (Int × Bool)} (h : AskRow base w v l) (hl : l.length ≤ 9223372036854775807) (n : Nat) (hn : n ≤ l.length) (g : Nat) (lb : Array Value) (eg : ∀ args w, (callFunc g args).run Try.prog w = .ok (.enter g args) w) (p : Int × Bool → Bool) (hp : PredA g lb p w) :
    ∃ A c, v = .slice A l.length c ∧ l.length ≤ c ∧ ∀ c', Calls Try.prog 99 #[.slice A n c', .func (.func g) #[] lb] w (TellsL ((l.take n).any p) w) := by
  obtain ⟨A, c, rfl, hc, hidx⟩ := idx_row h hl n hn g lb eg p hp
  refine ⟨A, c, rfl, hc, fun c' => ?_⟩
  rw [← fI_any p (l.take n)]
  have hx := hidx c'
  generalize fI p (l.take n) 0 = z at hx
  clear h hidx
  go_enter Try.func99, Try.ntmps99
  go_wp2_with (go_at_call 120; refine hx.mono ?_; rintro e w' ⟨rfl, hb'⟩)
  go_ret
  exact ⟨rfl, hb'⟩
theorem gr_pred (w : World) : PredA 100 #[] (fun a => a.2) w := fun W a hb => by
  show Calls Try.prog 100 #[.agg #[.int .i64 a.1, .bool a.2]] W _
  go_enter Try.func100, Try.ntmps100
  go_wp2
  go_ret
  exact ⟨rfl, (Below.refl _ W).alloc (Nat.le_refl _) _⟩
theorem eg_gr : ∀ args w, (callFunc 100 args).run Try.prog w = .ok (.enter 100 args) w := enters_of Try.func100 (by kernel_rfl) rfl
/-- is a client's ask in a row granted? -/
def grF (l : List (Int × Bool)) (client : Int) : Bool := if atF l client < 0 then false else if atF l client = 0 then true else !((l.take ((atF l client).toNat + 1)).any fun a => a.2)
theorem atF_cases (l : List (Int × Bool)) (client : Int) : atF l client = -1 ∨ ∃ j : Nat, atF l client = (j : Int) ∧ j < l.length := by
  rcases fI_cases (fun a => a.1 == client) l with ⟨h, -⟩ | ⟨j, a, hj, -, h, -⟩
  · exact .inl h
  · exact .inr ⟨j, h, (List.getElem?_eq_some_iff.1 hj).1⟩
set_option maxRecDepth 100000 in
theorem granted_out (base g r : Nat) (vs : List Value) (T : List (List (Int × Bool))) (i client : Int) (w : World) (h : LTab base w g r vs T) (ho : inT T i = false) : Calls Try.prog 42 #[.pointer (some ⟨g, 0, none⟩), .int .i64 i, .int .i64 client] w (TellsL false w) := by
  have hh := has_any base g r vs T i w h
  rw [ho] at hh
  clear h
  go_enter Try.func42, Try.ntmps42
  go_wp2_with (go_at_call 92; refine hh.mono ?_; rintro e w' ⟨rfl, hb'⟩)
  go_ret
  exact ⟨rfl, hb'⟩
set_option maxRecDepth 100000 in
theorem granted_in (base g r : Nat) (vs : List Value) (T : List (List (Int × Bool))) (i : Nat) (l : List (Int × Bool)) (client : Int) (w : World) (h : LTab base w g r vs T) (hl : T[i]? = some l) (hm : l.length ≤ 9223372036854775806) (hi : i ≤ 9223372036854775807) : Calls Try.prog 42 #[.pointer (some ⟨g, 0, none⟩), .int .i64 i, .int .i64 client] w (TellsL (grF l client) w) := by
  have hi' : i < T.length := (List.getElem?_eq_some_iff.1 hl).1
  have hh := has_any base g r vs T i w h
  rw [show inT T i = true from decide_eq_true ⟨by omega, by omega⟩] at hh
  have hfind : ∀ W, Below w.heap.size w W → Calls Try.prog 93 #[.pointer (some ⟨g, 0, none⟩), .int .i64 i, .int .i64 client] W (TellsI (atF l client) W) := fun W hW => find_any base g r vs T i l client W (h.next hW) hl (by omega) hi
  have hcont : ∀ W, Below w.heap.size w W → ∃ A c, W.cell? ⟨g, 0, none⟩ = some (.slice (some ⟨r, 0, none⟩) T.length T.length) ∧ W.cell? ⟨r, i, none⟩ = some (.slice A l.length c) ∧ l.length ≤ c ∧ ∀ n : Nat, n ≤ l.length → ∀ c', Calls Try.prog 99 #[.slice A n c', .func (.func 100) #[] #[]] W (TellsL ((l.take n).any fun a => a.2) W) := fun W hW => by
    obtain ⟨v, -, hv, hrow⟩ := (h.next hW).at_ i l hl
    obtain ⟨A, c, rfl, hlc, -⟩ := hrow.cells
    refine ⟨A, c, (h.next hW).cell, hv, hlc, fun n hn c' => ?_⟩
    obtain ⟨A', c2, e, -, hx⟩ := cont_row hrow (by omega) n hn 100 #[] eg_gr (fun a => a.2) (gr_pred W)
    obtain ⟨rfl, -, rfl⟩ := Value.slice.inj e
    exact hx c'
  clear h hl
  have G : ∀ x, x = atF l client → grF l client = if x < 0 then false else if x = 0 then true else !((l.take (x.toNat + 1)).any fun a => a.2) := fun x hx => by rw [hx]; rfl
  generalize grF l client = gr at G
  have C := atF_cases l client
  have G' := G _ rfl
  clear G
  generalize atF l client = at_ at G' C hfind
  rcases C with rfl | ⟨j, rfl, hj⟩
  · obtain rfl : gr = false := by rw [G']; rfl
    clear G'
    go_enter Try.func42, Try.ntmps42
    go_wp2_with (first
      | (go_at_call 92; refine hh.mono ?_; rintro e w1 ⟨rfl, hb1⟩)
      | (go_at_call 93; refine (hfind _ hb1).mono ?_; rintro e w2 ⟨rfl, hb2⟩))
    go_ret
    exact ⟨rfl, hb1.trans (hb2.mono hb1.size)⟩
  · rcases Nat.eq_zero_or_pos j with rfl | hj0
    · obtain rfl : gr = true := by rw [G']; rfl
      clear G'
      go_enter Try.func42, Try.ntmps42
      go_wp2_with (first
        | (go_at_call 92; refine hh.mono ?_; rintro e w1 ⟨rfl, hb1⟩)
        | (go_at_call 93; refine (hfind _ hb1).mono ?_; rintro e w2 ⟨rfl, hb2⟩))
      go_ret
      exact ⟨rfl, hb1.trans (hb2.mono hb1.size)⟩
    · obtain rfl : gr = !((l.take (j + 1)).any fun a => a.2) := by
        rw [G', if_neg (by omega), if_neg (by omega)]; simp
      clear G'
      go_enter Try.func42, Try.ntmps42
      go_wp2_with (first
        | (go_at_call 92; refine hh.mono ?_; rintro e w1 ⟨rfl, hb1⟩)
        | (go_at_call 93; refine (hfind _ hb1).mono ?_; rintro e w2 ⟨rfl, hb2⟩; obtain ⟨A, c, q1, q2, q3, q4⟩ := hcont w2 (hb1.trans (hb2.mono hb1.size)))
        | (go_at_call 99; refine (q4 (j + 1) (by omega) _).mono ?_; rintro e w3 ⟨rfl, hb3⟩))
      go_ret
      have hj' : ((j : Int) == 0) = false := by simp; omega
      refine ⟨?_, hb1.trans ((hb2.trans (hb3.mono hb2.size)).mono hb1.size)⟩
      show Ending.returned (.bool (((j : Int) == 0) || _)) = _
      rw [hj']; rfl
end Go.Proofs.Ytoiiacbbfhlocaa.HLa
