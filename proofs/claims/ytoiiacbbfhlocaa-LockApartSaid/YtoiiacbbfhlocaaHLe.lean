/- Layer 19: Row. -/
import Derived.Test.YtoiiacbbfhlocaaHLd
set_option linter.unusedVariables false
set_option linter.unusedSimpArgs false
namespace Go.Proofs.Ytoiiacbbfhlocaa.HLa
open Go.RowKit Go.Proofs.YtoiiacbbfhlocaaW.PrintWords Go.Proofs.YtoiiacbbfhlocaaW.PrintLast Go.Proofs.YtoiiacbbfhlocaaW.PrintMore Go.Proofs.Ytoiiacbbfhlocaa.Kit
/-- a row of whole numbers that is new since w -/
def GivesI (xs : List Int) (w : World) (e : Ending) (w' : World) : Prop := ∃ v : Value, e = .returned v ∧ Kd.R (Kd.int .i64) 3 w' w.heap.size (fun _ => True) v xs ∧ Below w.heap.size w w'
def whoF (l : List (Int × Bool)) : List Int := l.map (·.1)
theorem infoI : (Try.prog.info? 3).map (fun i => (i.zero, i.size, i.bytes)) = some (some (.int .i64 0), 1, 8) := by kernel_rfl
theorem blk {p : Prop} (h : Aside0 p) : p := h.out
theorem own_le {w : World} {b b' e size n : Nat} {v : Value} {xs : List Value} (h : w.ownsRow b e size v n xs) (hb : b' ≤ b) : w.ownsRow b' e size v n xs := by
  refine ⟨h.1, ?_⟩
  rcases h.2 with hn | ⟨g, cap, cur, hv, hg, rest⟩
  · exact .inl hn
  · exact .inr ⟨g, cap, cur, hv, by omega, rest⟩
set_option maxRecDepth 100000 in
theorem row_out (base g r : Nat) (vs : List Value) (T : List (List (Int × Bool))) (i : Int) (w : World) (h : LTab base w g r vs T) (ho : inT T i = false) : Calls Try.prog 44 #[.pointer (some ⟨g, 0, none⟩), .int .i64 i] w (GivesI [] w) := by
  have hh := has_any base g r vs T i w h
  rw [ho] at hh
  clear h
  go_enter Try.func44, Try.ntmps44
  go_wp2_with (go_at_call 92; refine hh.mono ?_; rintro e w' ⟨rfl, hb'⟩)
  go_ret
  exact ⟨_, rfl, Kd.R_nil _ _ _ _ _, hb'⟩
set_option maxRecDepth 100000 in
set_option maxHeartbeats 4000000 in
theorem row_in (base g r : Nat) (vs : List Value) (T : List (List (Int × Bool))) (i : Nat) (l : List (Int × Bool)) (w : World) (h : LTab base w g r vs T) (hl : T[i]? = some l) (hm : l.length ≤ 1000000) (hi : i ≤ 9223372036854775807) : Calls Try.prog 44 #[.pointer (some ⟨g, 0, none⟩), .int .i64 i] w (GivesI (whoF l) w) := by
  have hi' : i < T.length := (List.getElem?_eq_some_iff.1 hl).1
  have hh := has_any base g r vs T i w h
  rw [show inT T i = true from decide_eq_true ⟨by omega, by omega⟩] at hh
  have hcont : ∀ W, Below w.heap.size w W → ∃ A c, W.cell? ⟨g, 0, none⟩ = some (.slice (some ⟨r, 0, none⟩) T.length T.length) ∧ W.cell? ⟨r, i, none⟩ = some (.slice A l.length c) ∧ l.length ≤ c ∧ AskRow base W (.slice A l.length c) l := fun W hW => by
    obtain ⟨v, -, hv, hrow⟩ := (h.next hW).at_ i l hl
    obtain ⟨A, c, rfl, hlc, -⟩ := hrow.cells
    exact ⟨A, c, (h.next hW).cell, hv, hlc, hrow⟩
  clear h hl
  go_enter Try.func44, Try.ntmps44
  go_wp2_with (go_at_call 92; refine hh.mono ?_; rintro e w1 ⟨rfl, hb1⟩; obtain ⟨A, c, q1, q2, q3, q4⟩ := hcont w1 hb1; clear hcont; have Q4 := Lib.hid q4; clear q4)
  have HB1 := Lib.hid hb1
  clear hb1
  go_loopg [5, 20] l.length (fun gg v5 s8 wr => ∃ kk : Nat, kk ≤ l.length ∧ l.length - kk ≤ gg ∧ s8 = .int .i64 kk ∧ Aside0 (Below w1.heap.size w1 wr) ∧ Aside0 (Kd.R (Kd.int .i64) 3 wr w1.heap.size (fun _ => True) v5 (whoF (l.take kk))))
  case atStart => exact ⟨0, Nat.zero_le _, by omega, rfl, ⟨Below.refl _ _⟩, ⟨Kd.R_nil _ _ _ _ _⟩⟩
  case round =>
    obtain ⟨kk, hkk, hg, rfl, BW, HO⟩ := hrel
    by_cases hlt : kk < l.length
    · have hltz : (kk : Int) < (l.length : Int) := by omega
      obtain ⟨a, ha⟩ : ∃ a, l[kk]? = some a := ⟨_, List.getElem?_eq_getElem hlt⟩
      obtain ⟨A', c', e', -, hcs⟩ := (Q4.out.next BW.out).cells
      obtain ⟨b, rfl, hcs2⟩ := hcs (by omega)
      obtain ⟨rfl, -, -⟩ := Value.slice.inj e'
      obtain ⟨c1, c2⟩ := hcs2 kk a ha
      have ha' := Lib.hid ha
      clear hcs hcs2 e' ha
      go_wp2_with (((with_reducible refine gate_builtin (b := .append) (xs := #[.tmp 24, .tmp 27]) rfl ?_); at_builtin; refine blk ?_))
      refine ⟨?_⟩
      refine Kd.R_append (Kd.int .i64) (w0 := w1) w1.heap.size rfl (.tmp 24) (.tmp 27) 37 3 (.int .i64 0) 8 rfl Try.underlying37 infoI rfl (by decide) (by decide) u5 (whoF (l.take kk)) a.1 [.int .i64 a.1] (fun _ => True) (fun _ => False) rfl (by rw [World.size_alloc]; rfl) rfl (fun _ hk => hk.elim) (fun _ _ => trivial) ?aO ?aB ?aS ?aL ?_
      (case aO => exact (by apply Kd.R_alloc; exact HO.out))
      (case aB => exact below_alloc BW.out _)
      (case aS => exact (below_alloc BW.out _).size)
      (case aL => exact (by rw [whoF, List.length_map, List.length_take]; omega))
      intro v1 w8 ho hb hg hat; have HO8 := Lib.hid ho; have HB8 := Lib.hid hb; clear ho hb hg hat
      go_wp2
      go_roundg (l.length - (kk + 1))
      case measure => omega
      case rel =>
        refine ⟨kk + 1, by omega, by omega, by go_num, ⟨HB8.out⟩, ⟨?_⟩⟩
        have e : l.take (kk + 1) = l.take kk ++ [a] := by rw [List.take_add_one, ha'.out]; rfl
        rw [e, whoF, List.map_append]
        exact HO8.out
    · have hltz : ¬ (kk : Int) < (l.length : Int) := by omega
      have hk : kk = l.length := by omega
      have HKK := Lib.hid hk
      clear hk
      go_wp2
      go_ret
      refine ⟨_, rfl, ?_, below_next HB1.out BW.out⟩
      have h := HO.out
      rw [HKK.out, List.take_length] at h
      exact Kd.R_of_own (own_le (Kd.own_of_R h) HB1.out.size) (fun _ _ => trivial)
end Go.Proofs.Ytoiiacbbfhlocaa.HLa
