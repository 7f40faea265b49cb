/- Layer 19: the document's Granted and Row. -/
import Derived.Test.YtoiiacbbfhlocaaHLi
set_option linter.unusedVariables false
set_option linter.unusedSimpArgs false
namespace Go.Proofs.Ytoiiacbbfhlocaa.HLa
open Go.RowKit Go.Proofs.YtoiiacbbfhlocaaW.PrintWords Go.Proofs.YtoiiacbbfhlocaaW.PrintLast Go.Proofs.YtoiiacbbfhlocaaW.PrintMore Go.Proofs.Ytoiiacbbfhlocaa.Kit
theorem rAt_cases (l : List RA) (lock client : Int) : rAt l lock client = -1 ∨ ∃ (j : Nat) (x : RA), rAt l lock client = (j : Int) ∧ l[j]? = some x := by
  rcases fI_cases (fun a => a.1 == lock && a.2.1 == client) l with ⟨h, -⟩ | ⟨j, a, hj, -, h, -⟩
  · exact .inl h
  · exact .inr ⟨j, a, h, hj⟩
def badA (lock : Int) (x a : RA) : Bool := a.1 == lock && (a.2.2 || x.2.2)
/-- is a client's ask granted, by the document -/
def grR (l : List RA) (lock client : Int) : Bool := if rAt l lock client < 0 then false else
  match l[(rAt l lock client).toNat]? with
  | some x => !((l.take (rAt l lock client).toNat).any (badA lock x))
  | none => false
set_option maxRecDepth 100000 in
set_option maxHeartbeats 4000000 in
theorem rgranted_any (base g : Nat) (v : Value) (N : Int) (l : List RA) (lock client : Int) (w : World) (h : RTab base w g v N l) (hm : l.length ≤ 1000000) : Calls Try.prog 43 #[.pointer (some ⟨g, 0, none⟩), .int .i64 lock, .int .i64 client] w (TellsL (grR l lock client) w) := by
  have hat := at_any base g v N l lock client w h hm
  rcases rAt_cases l lock client with e | ⟨n, x, e, hx⟩
  · unfold grR
    rw [e] at hat ⊢
    rw [if_pos (by omega)]
    clear h
    go_enter Try.func43, Try.ntmps43
    go_wp2_with (go_at_call 96; refine hat.mono ?_; rintro e w1 ⟨rfl, hb1⟩)
    go_ret
    exact ⟨rfl, hb1⟩
  · have hgr : grR l lock client = !((l.take n).any (badA lock x)) := by
      unfold grR
      rw [e, if_neg (by omega), Int.toNat_natCast, hx]
    rw [hgr]
    rw [e] at hat
    have hnl : n < l.length := (List.getElem?_eq_some_iff.1 hx).1
    have HR := Lib.hid (fun W (hW : Below w.heap.size w W) => h.next hW)
    clear h hgr e
    have hnn : ¬ (n : Int) < 0 := by omega
    go_enter Try.func43, Try.ntmps43
    go_wp2_with (go_at_call 96; refine hat.mono ?_; rintro e w1 ⟨rfl, hb1⟩)
    obtain ⟨A, c, rfl, hc, hcs⟩ := (HR.out _ hb1).reads
    have hg1 := (HR.out _ hb1).c1
    have HB1 := Lib.hid hb1
    clear hb1 HR
    obtain ⟨b, o, rfl, -, -, x3⟩ := hcs n x hx
    have hcs' : ∀ (j : Nat) (a : RA), l[j]? = some a → w1.cell? ⟨b, o + j * 3, none⟩ = some (.int .i64 a.1) ∧ w1.cell? ⟨b, o + j * 3 + 2, none⟩ = some (.bool a.2.2) := fun j a ha => by
      obtain ⟨b', o', e, h1, -, h3⟩ := hcs j a ha
      injection e with e
      injection e with e1 e2
      subst e1 e2
      exact ⟨h1, h3⟩
    have hx' := Lib.hid hx
    clear hcs hx
    go_loopg [8] n (fun gg s8 wr => ∃ kk : Nat, kk ≤ n ∧ n - kk ≤ gg ∧ s8 = .int .i64 kk ∧ wr = w1 ∧ Aside0 (∀ (j : Nat) (a : RA), j < kk → l[j]? = some a → badA lock x a = false))
    case atStart => exact ⟨0, Nat.zero_le _, by omega, rfl, rfl, ⟨fun j a hj => absurd hj (Nat.not_lt_zero _)⟩⟩
    case round =>
      obtain ⟨kk, hkk, hg, rfl, rfl, AN⟩ := hrel
      by_cases hlt : kk < n
      · have hltz : (kk : Int) < (n : Int) := by omega
        have hltl : kk < l.length := by omega
        obtain ⟨a, ha⟩ : ∃ a, l[kk]? = some a := ⟨_, List.getElem?_eq_getElem hltl⟩
        obtain ⟨c1, c3⟩ := hcs' kk a ha
        have ha' := Lib.hid ha
        clear hcs' ha
        have hrest : badA lock x a = false → ∀ (j : Nat) (a' : RA), j < kk + 1 → l[j]? = some a' → badA lock x a' = false := fun hbad j a' hj ha1 => by
          by_cases e : j = kk
          · subst e
            have := ha'.out
            rw [ha1] at this
            obtain rfl := Option.some.inj this
            exact hbad
          · exact AN.out j a' (by omega) ha1
        have HRS := Lib.hid hrest
        clear hrest
        have hhit : badA lock x a = true → (!((l.take n).any (badA lock x))) = false := fun hbad => by
          rw [Bool.not_eq_false']
          exact List.any_eq_true.2 ⟨a, List.mem_of_getElem? (show (l.take n)[kk]? = some a by rw [List.getElem?_take, if_pos hlt]; exact ha'.out), hbad⟩
        have HH := Lib.hid hhit
        clear hhit
        by_cases e1 : a.1 = lock
        · have b1 : (a.1 == lock) = true := beq_iff_eq.2 e1
          clear e1
          cases e2 : a.2.2 with
          | true =>
            have hbad : badA lock x a = true := by simp only [badA, b1, e2, Bool.true_or, Bool.and_self]
            rw [e2] at c3
            have HBD := Lib.hid hbad
            clear hbad e2
            go_wp2
            go_ret
            exact ⟨by rw [HH.out HBD.out]; rfl, HB1.out⟩
          | false =>
            rw [e2] at c3
            cases e3 : x.2.2 with
            | true =>
              have hbad : badA lock x a = true := by simp only [badA, b1, e2, e3, Bool.or_true, Bool.and_self]
              have HBD := Lib.hid hbad
              rw [e3] at x3
              clear hbad e2 e3
              go_wp2
              go_ret
              exact ⟨by rw [HH.out HBD.out]; rfl, HB1.out⟩
            | false =>
              have hbad : badA lock x a = false := by simp only [badA, b1, e2, e3, Bool.or_self, Bool.and_false]
              have HBD := Lib.hid hbad
              rw [e3] at x3
              clear hbad e2 e3
              go_wp2
              go_roundg (n - (kk + 1))
              case measure => omega
              case rel => exact ⟨kk + 1, by omega, by omega, by go_num, rfl, ⟨HRS.out HBD.out⟩⟩
        · have b1 : (a.1 == lock) = false := beq_eq_false_iff_ne.2 e1
          have hbad : badA lock x a = false := by simp only [badA, b1, Bool.false_and]
          have HBD := Lib.hid hbad
          clear e1 hbad
          go_wp2
          go_roundg (n - (kk + 1))
          case measure => omega
          case rel => exact ⟨kk + 1, by omega, by omega, by go_num, rfl, ⟨HRS.out HBD.out⟩⟩
      · have hltz : ¬ (kk : Int) < (n : Int) := by omega
        have hk := Lib.hid (show kk = n from by omega)
        have HF := Lib.hid (show (!((l.take n).any (badA lock x))) = true from by
          rw [Bool.not_eq_true', List.any_eq_false]
          intro a ha
          obtain ⟨j, hj⟩ := List.mem_iff_getElem?.1 ha
          rw [List.getElem?_take] at hj
          split at hj
          · rw [AN.out j a (by have := hk.out; omega) hj]; simp
          · simp at hj)
        go_wp2
        go_ret
        exact ⟨by rw [HF.out]; rfl, HB1.out⟩
def rowR (l : List RA) (lock : Int) : List Int := (l.filter fun a => a.1 == lock).map (·.2.1)
theorem rowR_snoc (l : List RA) (lock : Int) (a : RA) : rowR (l ++ [a]) lock = if a.1 == lock then rowR l lock ++ [a.2.1] else rowR l lock := by
  unfold rowR
  rw [List.filter_append, List.map_append]
  cases h : a.1 == lock <;> simp [h]
set_option maxRecDepth 100000 in
set_option maxHeartbeats 4000000 in
theorem rrow_any (base g : Nat) (v : Value) (N : Int) (l : List RA) (lock : Int) (w : World) (h : RTab base w g v N l) (hm : l.length ≤ 1000000) : Calls Try.prog 46 #[.pointer (some ⟨g, 0, none⟩), .int .i64 lock] w (GivesI (rowR l lock) w) := by
  have HT := Lib.hid (fun W (hW : Below w.heap.size w W) => h.next hW)
  clear h
  go_enter Try.func46, Try.ntmps46
  go_wp2
  go_loopg [5, 6] l.length (fun gg v5 s6 wr => ∃ kk : Nat, kk ≤ l.length ∧ l.length - kk ≤ gg ∧ s6 = .int .i64 kk ∧ Aside0 (Below w.heap.size w wr) ∧ Aside0 (Kd.R (Kd.int .i64) 3 wr w.heap.size (fun _ => True) v5 (rowR (l.take kk) lock)))
  case atStart => exact ⟨0, Nat.zero_le _, by omega, rfl, ⟨Below.refl _ _⟩, ⟨Kd.R_nil _ _ _ _ _⟩⟩
  case round =>
    obtain ⟨kk, hkk, hg, rfl, BW, HO⟩ := hrel
    obtain ⟨A, c, rfl, hc, hcs⟩ := (HT.out _ BW.out).reads
    have hg1 := (HT.out _ BW.out).c1
    by_cases hlt : kk < l.length
    · have hltz : (kk : Int) < (l.length : Int) := by omega
      obtain ⟨a, ha⟩ : ∃ a, l[kk]? = some a := ⟨_, List.getElem?_eq_getElem hlt⟩
      obtain ⟨b, o, rfl, c1, c2, c3⟩ := hcs kk a ha
      have ha' := Lib.hid (show rowR (l.take (kk + 1)) lock = if a.1 == lock then rowR (l.take kk) lock ++ [a.2.1] else rowR (l.take kk) lock from by rw [List.take_add_one, ha]; exact rowR_snoc _ _ _)
      have hlk := Lib.hid (show (rowR (l.take kk) lock).length ≤ kk from by
        unfold rowR
        rw [List.length_map]
        have := List.length_filter_le (fun a : RA => a.1 == lock) (l.take kk)
        rw [List.length_take] at this
        omega)
      clear hcs ha c3
      by_cases e1 : a.1 = lock
      · have b1 : (a.1 == lock) = true := beq_iff_eq.2 e1
        have hb' := Lib.hid b1
        clear e1
        go_wp2_with (((with_reducible refine gate_builtin (b := .append) (xs := #[.tmp 26, .tmp 35]) rfl ?_); at_builtin; refine blk ?_))
        refine ⟨?_⟩
        refine Kd.R_append (Kd.int .i64) (w0 := w) w.heap.size rfl (.tmp 26) (.tmp 35) 37 3 (.int .i64 0) 8 rfl Try.underlying37 infoI rfl (by decide) (by decide) u5 (rowR (l.take kk) lock) a.2.1 [.int .i64 a.2.1] (fun _ => True) (fun _ => False) rfl rfl rfl (fun _ hk => hk.elim) (fun _ _ => trivial) HO.out BW.out BW.out.size (by have := hlk.out; omega) ?_
        intro v1 w8 ho hb hg hat
        have HO8 := Lib.hid ho
        have HB8 := Lib.hid hb
        clear ho hb hg hat
        go_wp2
        go_roundg (l.length - (kk + 1))
        case measure => omega
        case rel =>
          refine ⟨kk + 1, by omega, by omega, by go_num, ⟨HB8.out⟩, ⟨?_⟩⟩
          rw [ha'.out, if_pos hb'.out]
          exact HO8.out
      · have b1 : (a.1 == lock) = false := beq_eq_false_iff_ne.2 e1
        have hb' := Lib.hid b1
        clear e1
        go_wp2
        go_roundg (l.length - (kk + 1))
        case measure => omega
        case rel =>
          refine ⟨kk + 1, by omega, by omega, by go_num, ⟨BW.out⟩, ⟨?_⟩⟩
          rw [ha'.out, hb'.out]
          exact HO.out
    · have hltz : ¬ (kk : Int) < (l.length : Int) := by omega
      have HKK := Lib.hid (show kk = l.length from by omega)
      go_wp2
      go_ret
      refine ⟨_, rfl, ?_, BW.out⟩
      have h := HO.out
      rw [HKK.out, List.take_length] at h
      exact h
end Go.Proofs.Ytoiiacbbfhlocaa.HLa
