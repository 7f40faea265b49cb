/- Contracts of aes's functions, by hand: mix, the adding of a round's key. -/
import Derived.Test.YtljmjeaocojnmaaHAa
import Derived.StillTailTactics
import Derived.Deep.DrawnRows
set_option linter.unusedVariables false
set_option linter.unusedSimpArgs false
namespace Go.Proofs.Ytljmjeaocojnmaa.HAa
open Go.RowKit Go.Proofs.YtljmjeaocojnmaaW.PrintWords Go.Proofs.YtljmjeaocojnmaaW.PrintLast Go.Proofs.YtljmjeaocojnmaaW.PrintMore Go.Proofs.Ytljmjeaocojnmaa.Kit
attribute [local go_sem ↓] Go.wp_at_zero Go.wp_at_succ
theorem byte_at {l : List Int} (hb : Bytes l) (j : Nat) : 0 ≤ l.getD j 0 ∧ l.getD j 0 < 256 := hb.at_ (j : Int)
theorem bytes_set {l : List Int} (hb : Bytes l) (j : Nat) (v : Int) (h : Byte v) : Bytes (l.set j v) := fun x hx => by
  rcases List.mem_or_eq_of_mem_set hx with h' | h'
  · exact hb x h'
  · rw [h']; exact h
/-! add -/
def addN (all : List Int) (r : Nat) (xs : List Int) : Nat → List Int
  | 0 => xs
  | i + 1 => (addN all r xs i).set i (Go.bits .xor .u8 ((addN all r xs i).getD i 0) (all.getD (16 * r + i) 0))
theorem addN_length (all : List Int) (r : Nat) (xs : List Int) : ∀ n, (addN all r xs n).length = xs.length
  | 0 => rfl
  | n + 1 => by simp [addN, addN_length all r xs n]
attribute [local irreducible] addN
set_option maxHeartbeats 1000000 in
set_option maxRecDepth 100000 in
theorem add_any (g gk r : Nat) (xs all : List Int) (w : World) (hA : Arr .u8 39 w g xs) (hK : Arr .u8 140 w gk all) (h16 : xs.length = 16) (h176 : all.length = 176) (hr : r ≤ 10) :
    Calls Try.prog 87 #[.int .i64 r, .pointer (some ⟨g, 0, none⟩), .pointer (some ⟨gk, 0, none⟩)] w (Turns .u8 39 w g (addN all r xs 16)) := by
  have hne : g ≠ gk := fun e => by
    have h := hA.out
    rw [e, hK.out] at h
    have := congrArg (fun o => match o with | some (Obj.cells c _ _) => c.size | _ => 0) h
    simp [nums, h16, h176] at this
  have HA0 : Hid (Arr .u8 39 w g (addN all r xs 0)) := Lib.hid (by unfold addN; exact hA)
  have HK0 := Lib.hid hK
  have HL := Lib.hid h16
  have HL2 := Lib.hid h176
  clear hA hK h16 h176
  go_enter Try.func87, Try.ntmps87
  go_wp2_with fail
  go_loopw [5] (fun i wr => ∃ k : Nat, i = .int .i64 k ∧ k ≤ 16 ∧ Hid (Arr .u8 39 wr g (addN all r xs k)) ∧ Hid (w.grownBy wr (some g))) (fun i _ => 16 - (intOf i).toNat)
  case atStart => exact ⟨0, rfl, by omega, HA0, Lib.hid (grown_of_below (Below.refl _ _) _)⟩
  case round =>
    clear HA0
    obtain ⟨k, rfl, hk, hA, hB⟩ := hrel
    by_cases hk16 : k < 16
    · have hlen := addN_length all r xs k
      have HS : Hid (addN all r xs (k + 1) = (addN all r xs k).set k (Go.bits .xor .u8 ((addN all r xs k).getD k 0) (all.getD (16 * r + k) 0))) := Lib.hid (by rw [addN])
      have hc := hA.out.cellN k (by rw [hlen, HL.out]; omega)
      have hf := hA.out.free k
      have hck := (HK0.out.grown_ hB.out (Ne.symm hne)).cellN (16 * r + k) (by rw [HL2.out]; omega)
      have h1 : (0 : Int) ≤ 16 * (r : Int) + (k : Int) := by omega
      have h2 : 16 * (r : Int) + (k : Int) < 176 := by omega
      have h3 : (16 * (r : Int) + (k : Int)).toNat = 16 * r + k := by omega
      clear hlen
      go_wp2
      go_region
      go_wp2
      go_roundw
      case rel => exact ⟨k + 1, by go_num, by omega, Lib.hid (by rw [HS.out]; exact (hA.out.put k _).drew), Lib.hid (grown_draw (grown_set hB.out _ _))⟩
      case measure => simp [intOf]; omega
    · have hk' : k = 16 := by omega
      subst hk'
      go_wp2
      go_end0
      exact ⟨rfl, hA.out, hB.out⟩
/-! mix -/
def mixA (xs : List Int) (o : Nat) : Int := Go.bits .xor .u8 (Go.bits .xor .u8 (Go.bits .xor .u8 (xs.getD o 0) (xs.getD (o + 1) 0)) (xs.getD (o + 2) 0)) (xs.getD (o + 3) 0)
def mixV (all x next : Int) : Int := Go.bits .xor .u8 x (Go.bits .xor .u8 all (twiceF (Go.bits .xor .u8 x next)))
def mixX (xs m : List Int) (o k : Nat) : Int := if k + 1 < 4 then m.getD (o + (k + 1)) 0 else xs.getD o 0
def mixN (xs : List Int) (o : Nat) : Nat → List Int
  | 0 => xs
  | k + 1 => (mixN xs o k).set (o + k) (mixV (mixA xs o) ((mixN xs o k).getD (o + k) 0) (mixX xs (mixN xs o k) o k))
theorem mixN_length (xs : List Int) (o : Nat) : ∀ n, (mixN xs o n).length = xs.length
  | 0 => rfl
  | n + 1 => by simp [mixN, mixN_length xs o n]
theorem mixV_b (a x n : Int) (ha : Byte a) (hx : Byte x) : Byte (mixV a x n) := bxor_b _ _ hx (bxor_b _ _ ha (twice_b _))
theorem mixA_b (xs : List Int) (o : Nat) (h : Bytes xs) : Byte (mixA xs o) := bxor_b _ _ (bxor_b _ _ (bxor_b _ _ (byte_at h _) (byte_at h _)) (byte_at h _)) (byte_at h _)
theorem mixN_b (xs : List Int) (o : Nat) (h : Bytes xs) : ∀ n, Bytes (mixN xs o n)
  | 0 => h
  | n + 1 => bytes_set (mixN_b xs o h n) _ _ (mixV_b _ _ _ (mixA_b xs o h) (byte_at (mixN_b xs o h n) _))
attribute [local irreducible] mixN
set_option maxHeartbeats 2000000 in
set_option maxRecDepth 100000 in
theorem mix_any (g o c : Nat) (xs : List Int) (w : World) (hA : Arr .u8 39 w g xs) (h16 : xs.length = 16) (ho : o + 4 ≤ 16) (hc4 : 4 ≤ c) (hb : Bytes xs) :
    Calls Try.prog 88 #[.slice (some ⟨g, o, none⟩) 4 c] w (Turns .u8 39 w g (mixN xs o 4)) := by
  have HA0 : Hid (Arr .u8 39 w g (mixN xs o 0)) := Lib.hid (by unfold mixN; exact hA)
  have HL := Lib.hid h16
  have hc0 := hA.cellN o (by omega)
  have hc1 := hA.cellN (o + 1) (by omega)
  have hc2 := hA.cellN (o + 2) (by omega)
  have hc3 := hA.cellN (o + 3) (by omega)
  obtain ⟨x0, hx0⟩ : ∃ x, x = xs.getD o 0 := ⟨_, rfl⟩
  obtain ⟨x1, hx1⟩ : ∃ x, x = xs.getD (o + 1) 0 := ⟨_, rfl⟩
  obtain ⟨x2, hx2⟩ : ∃ x, x = xs.getD (o + 2) 0 := ⟨_, rfl⟩
  obtain ⟨x3, hx3⟩ : ∃ x, x = xs.getD (o + 3) 0 := ⟨_, rfl⟩
  rw [← hx0] at hc0
  rw [← hx1] at hc1
  rw [← hx2] at hc2
  rw [← hx3] at hc3
  have HM : Hid (mixA xs o = Go.bits .xor .u8 (Go.bits .xor .u8 (Go.bits .xor .u8 x0 x1) x2) x3) := Lib.hid (by rw [hx0, hx1, hx2, hx3]; rfl)
  have HX0 := Lib.hid hx0
  have HBY := Lib.hid hb
  have HW : Hid (Below w.heap.size w w) := Lib.hid (Below.refl _ _)
  clear hA h16 hb hx0 hx1 hx2 hx3
  go_enter Try.func88, Try.ntmps88
  go_wp2_with fail
  go_quiet (fail)
  clear hc0 hc1 hc2 hc3
  go_wp2_with fail
  rw [← HM.out]
  have HA1 := Lib.hid (HA0.out.drewN nq)
  have HG0 : Hid (w.grownBy (w.drewN nq) (some g)) := Lib.hid (grown_of_below (pw_below_drewN (Below.refl _ _) nq) _)
  clear HA0 HM
  generalize w.drewN nq = w0 at *
  generalize hall : mixA xs o = a at *
  have HALL := Lib.hid hall
  clear hall
  go_loopw [26] (fun i wr => ∃ k : Nat, i = .int .i64 k ∧ k ≤ 4 ∧ Hid (Arr .u8 39 wr g (mixN xs o k)) ∧ Hid (w.grownBy wr (some g))) (fun i _ => 4 - (intOf i).toNat)
  case atStart => exact ⟨0, rfl, by omega, HA1, HG0⟩
  case round =>
    clear HA1 HG0
    obtain ⟨k, rfl, hk, hA, hB⟩ := hrel
    by_cases hk4 : k < 4
    · have hlen := mixN_length xs o k
      rw [HL.out] at hlen
      have HS : Hid (mixN xs o (k + 1) = (mixN xs o k).set (o + k) (mixV a ((mixN xs o k).getD (o + k) 0) (mixX xs (mixN xs o k) o k))) := Lib.hid (by rw [mixN, HALL.out])
      have hbk := mixN_b xs o HBY.out k
      have hc := hA.out.cellN (o + k) (by omega)
      have hf := hA.out.free (o + k)
      obtain ⟨y, hy⟩ : ∃ y, y = (mixN xs o k).getD (o + k) 0 := ⟨_, rfl⟩
      have hyb := byte_at hbk (o + k)
      rw [← hy] at hc hyb
      obtain ⟨hy0, hy1⟩ := hyb
      have HY := Lib.hid hy
      clear hy
      by_cases hk3 : k + 1 < 4
      · have hcn := hA.out.cellN (o + (k + 1)) (by omega)
        obtain ⟨z, hz⟩ : ∃ z, z = (mixN xs o k).getD (o + (k + 1)) 0 := ⟨_, rfl⟩
        have hzb := byte_at hbk (o + (k + 1))
        rw [← hz] at hcn hzb
        have hxor := bxor_b y z ⟨hy0, hy1⟩ hzb
        obtain ⟨hx0, hx1⟩ := hxor
        have HZ : Hid (mixX xs (mixN xs o k) o k = z) := Lib.hid (by unfold mixX; rw [if_pos hk3, hz])
        clear hz hzb hbk hlen
        go_wp2_with fail
        go_region_with ((go_at_call 105; refine (twice_any _ _ (by omega) (by omega)).mono ?_; rintro e w' ⟨rfl, rfl⟩))
        all_goals
          go_wp2
          go_roundw
          case rel => exact ⟨k + 1, by go_num, by omega, Lib.hid (by rw [HS.out, HZ.out, ← HY.out]; first | exact (hA.out.put (o + k) _).drew | exact hA.out.drew.put (o + k) _), Lib.hid (by first | exact grown_draw (grown_set hB.out _ _) | exact grown_set (grown_draw hB.out) _ _)⟩
          case measure => simp [intOf]; omega
      · have hzb := byte_at HBY.out o
        rw [← HX0.out] at hzb
        have hxor := bxor_b y x0 ⟨hy0, hy1⟩ hzb
        obtain ⟨hx0, hx1⟩ := hxor
        have HZ : Hid (mixX xs (mixN xs o k) o k = x0) := Lib.hid (by unfold mixX; rw [if_neg hk3, HX0.out])
        clear hzb hbk hlen
        go_wp2_with fail
        go_region_with ((go_at_call 105; refine (twice_any _ _ (by omega) (by omega)).mono ?_; rintro e w' ⟨rfl, rfl⟩))
        all_goals
          go_wp2
          go_roundw
          case rel => exact ⟨k + 1, by go_num, by omega, Lib.hid (by rw [HS.out, HZ.out, ← HY.out]; first | exact (hA.out.put (o + k) _).drew | exact hA.out.drew.put (o + k) _), Lib.hid (by first | exact grown_draw (grown_set hB.out _ _) | exact grown_set (grown_draw hB.out) _ _)⟩
          case measure => simp [intOf]; omega
    · have hk' : k = 4 := by omega
      subst hk'
      go_wp2
      go_end0
      exact ⟨rfl, hA.out, hB.out⟩
end Go.Proofs.Ytljmjeaocojnmaa.HAa
