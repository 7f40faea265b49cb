/- Contracts of bitmap's First and Count, by hand. -/
import Derived.Test.YthnmbeooohgccaaHBm
set_option linter.unusedVariables false
set_option linter.unusedSimpArgs false
namespace Go.Proofs.Ythnmbeooohgccaa.HBm
open Go.RowKit Go.Proofs.YthnmbeooohgccaaW.PrintWords Go.Proofs.YthnmbeooohgccaaW.PrintLast Go.Proofs.YthnmbeooohgccaaW.PrintMore Go.Proofs.Ythnmbeooohgccaa.Ba


/-! First -/
def bitmap_First.p (l : List Int) (i : Int) : Bool := !getv l i
def bitmap_First.look (p : Int → Bool) : Nat → Int → Int → Int
  | 0, _, _ => -1
  | n + 1, k, hi => if k < hi then (if p k then k else bitmap_First.look p n (k + 1) hi) else -1
theorem look_found (p : Int → Bool) (lo hi : Int) : ∀ (n : Nat) (k : Int), hi - k ≤ n → Ahead p lo k → Found p lo hi (bitmap_First.look p n k hi)
  | 0, k, h, ha => .inl ⟨rfl, fun j h1 h2 => ha.2 j h1 (by simp at h; omega)⟩
  | n + 1, k, h, ha => by
    unfold bitmap_First.look
    by_cases c : k < hi
    · rw [if_pos c]
      cases hp : p k with
      | true => exact .inr ⟨ha.1, c, by simpa using hp, ha.2⟩
      | false => exact look_found p lo hi n (k + 1) (by omega) (ha.step hp)
    · rw [if_neg c]
      exact .inl ⟨rfl, fun j h1 h2 => ha.2 j h1 (by omega)⟩
theorem Found.unique {p : Int → Bool} {lo hi r r' : Int} (hlo : 0 ≤ lo) (h : Found p lo hi r) (h' : Found p lo hi r') : r = r' := by
  rcases h with ⟨h1, h2⟩ | ⟨h1, h2, h3, h4⟩
  · rcases h' with ⟨h1', h2'⟩ | ⟨h1', h2', h3', h4'⟩
    · omega
    · have := h2 r' h1' h2'; rw [h3'] at this; cases this
  · rcases h' with ⟨h1', h2'⟩ | ⟨h1', h2', h3', h4'⟩
    · have := h2' r h1 h2; rw [h3] at this; cases this
    · rcases Int.lt_trichotomy r r' with h5 | h5 | h5
      · have := h4' r h1 h5; rw [h3] at this; cases this
      · exact h5
      · have := h4 r' h1' h5; rw [h3'] at this; cases this
def bitmap_First.f (l : List Int) (lo hi : Int) : Option Int :=
  if l.length ≤ 100000 ∧ -9223372036854775808 ≤ lo ∧ lo ≤ 9223372036854775807 ∧ -9223372036854775808 ≤ hi ∧ hi ≤ 9223372036854775807 then some (bitmap_First.look (bitmap_First.p l) (8 * l.length) (max lo 0) (min hi (8 * (l.length : Int)))) else none
set_option maxHeartbeats 400000 in
theorem bitmap_First.calls (A0 : Option Addr) (c0 : Nat) (l0 : List Int) (a1 : Int) (a2 : Int) (r : Int) (w : World) (hr0 : Kd.C (Kd.int .u8) w A0 l0.length l0) (hc0 : l0.length ≤ c0) (h : bitmap_First.f l0 a1 a2 = some r) :
    Calls Try.prog 20 #[.slice A0 l0.length c0, .int .i64 a1, .int .i64 a2] w fun e w' => e = .returned (.int .i64 r) ∧ Below w.heap.size w w' := by
  unfold bitmap_First.f at h
  by_cases hc : l0.length ≤ 100000 ∧ -9223372036854775808 ≤ a1 ∧ a1 ≤ 9223372036854775807 ∧ -9223372036854775808 ≤ a2 ∧ a2 ≤ 9223372036854775807
  · rw [if_pos hc] at h
    have hr := Option.some.inj h
    clear h
    obtain ⟨h1, h2, h3, h4, h5⟩ := hc
    have hF : Found (bitmap_First.p l0) (max a1 0) (min a2 (8 * (l0.length : Int))) r := by
      rw [← hr]
      exact look_found _ _ _ _ _ (by omega) (Ahead.refl _ rfl)
    have HR := Lib.hid (find1 w.heap.size A0 c0 l0 a1 a2 (w.alloc (.cells #[.slice A0 l0.length c0] 22)) (Kd.C_alloc hr0 _) (by rw [World.cell?_alloc_at _ _ _ _ rfl]; rfl) h1 h2 h3 h4 h5)
    clear hr hr0
    have HF := Lib.hid hF
    clear hF
    have hmf : ∀ (fn : Fn) (first cap : Array Value) (w : World), (Instr.makeFunc fn first cap).run Try.prog w = .ok (.func fn first cap) w := fun _ _ _ _ => rfl
    go_enter Try.func20, Try.ntmps20
    go_wp2_with fail
    refine HR.out.mono ?_
    rintro e w' ⟨r2, rfl, hf2, rfl⟩
    have hrr : r2 = r := Found.unique (by omega) hf2 HF.out
    clear hf2
    subst hrr
    go_wp2
    go_ret
    exact ⟨rfl, below_alloc (Below.refl _ _) _⟩
  · rw [if_neg hc] at h
    cases h

/-! Count -/
def cnt (p : Int → Bool) (lo : Int) : Nat → Int
  | 0 => 0
  | n + 1 => cnt p lo n + if p (lo + n) then 1 else 0
theorem cnt_range (p : Int → Bool) (lo : Int) : ∀ n, 0 ≤ cnt p lo n ∧ cnt p lo n ≤ n
  | 0 => by simp [cnt]
  | n + 1 => by
    have := cnt_range p lo n
    unfold cnt
    split <;> omega
structure CountState (w0 : World) (B M : Nat) (A : Option Addr) (c : Nat) (l : List Int) (n : Int) (w : World) : Prop where
  cellB : w.cell? ⟨B, 0, none⟩ = some (.slice A l.length c)
  cellM : w.cell? ⟨M, 0, none⟩ = some (.int .i64 n)
  free : w.frozen? ⟨M, 0, none⟩ = false
  bel : Below w0.heap.size w0 w
  lt : M < w.heap.size
theorem CountState.put {w0 : World} {B M : Nat} {A : Option Addr} {c : Nat} {l : List Int} {n : Int} {w : World} (h : CountState w0 B M A c l n w) (hBM : B ≠ M) (hM : w0.heap.size ≤ M) (x : Int) :
    CountState w0 B M A c l x (w.setCell ⟨M, 0, none⟩ (.int .i64 x)) where
  cellB := by rw [World.cell?_setCell_other]; exact h.cellB; intro e; injection e with e; exact hBM e.symm
  cellM := World.cell?_setCell_same _ _ _ h.cellM
  free := by rw [World.frozen?_setCell]; exact h.free
  bel := h.bel.setCell hM _
  lt := by simpa using h.lt
def CountTells (w0 : World) (B M : Nat) (A : Option Addr) (c : Nat) (l : List Int) (n : Int) (e : Ending) (w' : World) : Prop := e = .returned (.bool false) ∧ CountState w0 B M A c l n w'
def plus (l : List Int) (i n : Int) : Int := n + if getv l i then 1 else 0
set_option maxHeartbeats 400000 in
theorem count1 (w0 : World) (B M : Nat) (A : Option Addr) (c : Nat) (l : List Int) (i n : Int) (w : World) (hr0 : Kd.C (Kd.int .u8) w0 A l.length l) (hi : i ≤ 9223372036854775807)
   (hs : CountState w0 B M A c l n w) (hBM : B ≠ M) (hM : w0.heap.size ≤ M) (hn0 : 0 ≤ n) (hn : n ≤ 1000000) :
    Calls Try.prog 77 #[.int .i64 i, .pointer (some ⟨B, 0, none⟩), .pointer (some ⟨M, 0, none⟩)] w (CountTells w0 B M A c l (plus l i n)) := by
  have H := Lib.hid (get_any A c l i w (Kd.C_below hr0 hs.bel) hi)
  clear hr0
  have hcB := hs.cellB
  have hcM := hs.cellM
  have hfM := hs.free
  have hp : plus l i n = n + if getv l i then 1 else 0 := rfl
  cases hv : getv l i with
  | true =>
    rw [hv] at H hp
    have hP := Lib.hid hp
    clear hv hp
    go_enter Try.func77, Try.ntmps77
    go_wp2_with fail
    refine H.out.mono ?_
    rintro e w' ⟨rfl, rfl⟩
    go_wp2
    go_ret
    refine ⟨rfl, ?_⟩
    rw [hP.out]
    exact hs.put hBM hM _
  | false =>
    rw [hv] at H hp
    have hP := Lib.hid hp
    clear hv hp
    go_enter Try.func77, Try.ntmps77
    go_wp2_with fail
    refine H.out.mono ?_
    rintro e w' ⟨rfl, rfl⟩
    go_wp2
    go_ret
    refine ⟨rfl, ?_⟩
    rw [hP.out]
    simpa using hs

def CountRel (w0 : World) (B M : Nat) (A : Option Addr) (c : Nat) (l : List Int) (lo m k : Int) (w : World) : Prop :=
  0 ≤ lo ∧ lo ≤ k ∧ (k = lo ∨ k ≤ m) ∧ CountState w0 B M A c l (cnt (getv l) lo (k - lo).toNat) w
theorem CountRel.step {w0 : World} {B M : Nat} {A : Option Addr} {c : Nat} {l : List Int} {lo m k : Int} {w w' : World} (h : CountRel w0 B M A c l lo m k w) (hkm : k + 1 ≤ m)
    (h' : CountState w0 B M A c l (plus l k (cnt (getv l) lo (k - lo).toNat)) w') : CountRel w0 B M A c l lo m (k + 1) w' := by
  obtain ⟨h0, h1, h3, h2⟩ := h
  refine ⟨h0, by omega, by omega, ?_⟩
  have e : (k + 1 - lo).toNat = (k - lo).toNat + 1 := by omega
  rw [e]
  have e2 : lo + ((k - lo).toNat : Int) = k := by omega
  unfold cnt
  rw [e2]
  exact h'
def CountEnd (w0 : World) (B M : Nat) (A : Option Addr) (c : Nat) (l : List Int) (n : Int) (e : Ending) (w' : World) : Prop := e = .returned (.int .i64 (-1)) ∧ CountState w0 B M A c l n w'
set_option maxHeartbeats 800000 in
theorem find2 (w0 : World) (B M : Nat) (A : Option Addr) (c : Nat) (l : List Int) (lo hi : Int) (w : World) (hr0 : Kd.C (Kd.int .u8) w0 A l.length l)
   (hs : CountState w0 B M A c l 0 w) (hBM : B ≠ M) (hM : w0.heap.size ≤ M)
   (hl : l.length ≤ 100000) (hlo : -9223372036854775808 ≤ lo) (hlo2 : lo ≤ 9223372036854775807)  (hhi : -9223372036854775808 ≤ hi) (hhi2 : hi ≤ 9223372036854775807) :
    Calls Try.prog 76 #[.slice A l.length c, .int .i64 lo, .int .i64 hi, .func (.func 77) #[] #[.pointer (some ⟨B, 0, none⟩), .pointer (some ⟨M, 0, none⟩)]] w
     (CountEnd w0 B M A c l (cnt (getv l) (max lo 0) (min hi (8 * (l.length : Int)) - max lo 0).toNat)) := by
  have H := Lib.hid (fun i n w hi hs hn0 hn => count1 w0 B M A c l i n w hr0 hi hs hBM hM hn0 hn)
  have HL := Lib.hid hl
  obtain ⟨n, hn⟩ : ∃ n : Nat, n = l.length := ⟨_, rfl⟩
  have hn1000 : n ≤ 100000 := by omega
  have HN := Lib.hid hn
  have H0 : Hid (CountRel w0 B M A c l (max lo 0) (min hi (8 * (l.length : Int))) (max lo 0) w) := Lib.hid ⟨by omega, by omega, .inl rfl, by rw [show (max lo 0 - max lo 0).toNat = 0 from by omega]; exact hs⟩
  rw [← hn]
  rw [← hn] at H0
  clear hn hl hs hr0
  go_enter Try.func76, Try.ntmps76
  by_cases hneg : lo < 0
  all_goals
    go_wp2
    go_loopw [9] (fun i wr => ∃ k : Int, i = .int .i64 k ∧ k ≤ 9223372036854775807 ∧ Hid (CountRel w0 B M A c l (max lo 0) (min hi (8 * (n : Int))) k wr)) (fun i _ => (8 * n - intOf i).toNat)
    case atStart => exact ⟨_, rfl, by omega, by first | (rw [show max lo 0 = 0 from by omega] at H0 ⊢; exact H0) | (rw [show max lo 0 = lo from by omega] at H0 ⊢; exact H0)⟩
    case round =>
      obtain ⟨k, rfl, hk2, hk3⟩ := hrel
      have hk1 : 0 ≤ k := by have := hk3.out.1; have := hk3.out.2.1; omega
      by_cases hlt : k < hi ∧ k < 8 * (n : Int)
      · obtain ⟨hlt1, hlt2⟩ := hlt
        have hrg := cnt_range (getv l) (max lo 0) (k - max lo 0).toNat
        have hc1 : 0 ≤ cnt (getv l) (max lo 0) (k - max lo 0).toNat := hrg.1
        have hc2 : cnt (getv l) (max lo 0) (k - max lo 0).toNat ≤ 1000000 := by omega
        have HC := Lib.hid (H.out k _ wr hk2 hk3.out.2.2.2 hc1 hc2)
        clear hrg hc1 hc2
        by_cases hc : 8 * (n : Int) < hi
        all_goals
          go_wp2_with fail
          all_goals
            refine HC.out.mono ?_
            rintro e w' ⟨rfl, hs2⟩
            have HS2 := Lib.hid hs2
            clear hs2
            go_wp2
            go_roundw
            case rel => exact ⟨k + 1, rfl, by omega, Lib.hid (hk3.out.step (by omega) HS2.out)⟩
            case measure => simp [intOf]; omega
      · have HE : Hid (CountState w0 B M A c l (cnt (getv l) (max lo 0) (min hi (8 * (n : Int)) - max lo 0).toNat) wr) := by
          obtain ⟨h1, h2, h3, h4⟩ := hk3.out
          rw [show (min hi (8 * (n : Int)) - max lo 0).toNat = (k - max lo 0).toNat from by omega]
          exact Lib.hid h4
        by_cases hc : 8 * (n : Int) < hi
        all_goals
          by_cases hlt2 : k < hi
          all_goals
            go_wp2
            all_goals
              go_ret
              exact ⟨rfl, HE.out⟩

def bitmap_Count.f (l : List Int) (lo hi : Int) : Option Int :=
  if l.length ≤ 100000 ∧ -9223372036854775808 ≤ lo ∧ lo ≤ 9223372036854775807 ∧ -9223372036854775808 ≤ hi ∧ hi ≤ 9223372036854775807 then some (cnt (getv l) (max lo 0) (min hi (8 * (l.length : Int)) - max lo 0).toNat) else none
set_option maxHeartbeats 400000 in
theorem bitmap_Count.calls (A0 : Option Addr) (c0 : Nat) (l0 : List Int) (a1 : Int) (a2 : Int) (r : Int) (w : World) (hr0 : Kd.C (Kd.int .u8) w A0 l0.length l0) (hc0 : l0.length ≤ c0) (h : bitmap_Count.f l0 a1 a2 = some r) :
    Calls Try.prog 18 #[.slice A0 l0.length c0, .int .i64 a1, .int .i64 a2] w fun e w' => e = .returned (.int .i64 r) ∧ Below w.heap.size w w' := by
  unfold bitmap_Count.f at h
  by_cases hc : l0.length ≤ 100000 ∧ -9223372036854775808 ≤ a1 ∧ a1 ≤ 9223372036854775807 ∧ -9223372036854775808 ≤ a2 ∧ a2 ≤ 9223372036854775807
  · rw [if_pos hc] at h
    have hr := Option.some.inj h
    clear h
    obtain ⟨h1, h2, h3, h4, h5⟩ := hc
    have hs : CountState w w.heap.size (w.heap.size + 1) A0 c0 l0 0 ((w.alloc (.cells #[.slice A0 l0.length c0] 22)).alloc (.cells #[.int .i64 0] 3)) :=
      { cellB := by rw [World.cell?_alloc_past _ _ _ (by simp), World.cell?_alloc_at _ _ _ _ rfl]; rfl
        cellM := by rw [World.cell?_alloc_at _ _ _ _ (by simp)]; rfl
        free := World.frozen?_alloc_at _ _ _ _ (by simp)
        bel := below_alloc (below_alloc (Below.refl _ _) _) _
        lt := by simp }
    have HR := Lib.hid (find2 w w.heap.size (w.heap.size + 1) A0 c0 l0 a1 a2 _ hr0 hs (by omega) (by omega) h1 h2 h3 h4 h5)
    clear hr0 hs
    rw [hr] at HR
    clear hr
    have hmf : ∀ (fn : Fn) (first cap : Array Value) (w : World), (Instr.makeFunc fn first cap).run Try.prog w = .ok (.func fn first cap) w := fun _ _ _ _ => rfl
    go_enter Try.func18, Try.ntmps18
    go_wp2_with fail
    refine HR.out.mono ?_
    rintro e w' ⟨rfl, hs⟩
    have hcM := hs.cellM
    go_wp2
    go_ret
    exact ⟨rfl, hs.bel⟩
  · rw [if_neg hc] at h
    cases h

end Go.Proofs.Ythnmbeooohgccaa.HBm
