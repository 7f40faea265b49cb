/- Contracts of bitmap's functions (slices.Clone, Set, find, Count, First), by hand. -/
import Derived.Test.YthnmbeooohgccaaBa
import Derived.Lib.Hide
import Derived.Deep.QuietTactic
import Derived.BigQuiet
import Derived.RegionTactic
import Derived.ChangeAlike
import Derived.WalkSpells
import Derived.Outline
set_option linter.unusedVariables false
set_option linter.unusedSimpArgs false
namespace Go.Proofs.Ythnmbeooohgccaa.HBm
open Go.RowKit Go.Proofs.YthnmbeooohgccaaW.PrintWords Go.Proofs.YthnmbeooohgccaaW.PrintLast Go.Proofs.YthnmbeooohgccaaW.PrintMore Go.Proofs.Ythnmbeooohgccaa.Ba

theorem info5 : (Try.prog.info? 5).map (fun i => (i.zero, i.size, i.bytes)) = some (some (.int .u8 0), 1, 1) := by kernel_rfl

/-! slices.Clone at []byte -/
def slices_Clone_byte_byte.f (l0 : List Int) : Option (List Int) := if l0.length < 140737488355328 then some l0 else none

def OutBytes (w : World) (r : List Int) (e : Ending) (w' : World) : Prop :=
  ∃ v0_ : Value, e = .returned (v0_) ∧ Kd.R (Kd.int .u8) 5 w' w.heap.size (fun _ => True) v0_ r ∧ Below w.heap.size w w'

set_option maxHeartbeats 400000 in
theorem clone (A0 : Option Addr) (c0 : Nat) (l0 : List Int) (w : World) (hr0 : Kd.C (Kd.int .u8) w A0 l0.length l0) (hl : l0.length < 140737488355328) :
    Calls Try.prog 75 #[.slice A0 l0.length c0] w (OutBytes w l0) := by
  have HR0 := Aside0.mk hr0
  cases A0 with
  | none =>
    have h0 : l0 = [] := by
      cases l0 with
      | nil => rfl
      | cons x xs => obtain ⟨ad, e, _⟩ := hr0.2.2 (by simp); cases e
    subst h0
    clear hr0
    have he := fun W => Lib.run_eql_slice_nil (P := Try.prog) (w := W) 22 5 none 0 c0 0 0 Try.underlying22
    go_enter Try.func75, Try.ntmps75
    go_wp2
    go_ret
    exact ⟨_, rfl, Kd.R_nil _ _ _ _ _, Below.refl _ _⟩
  | some ad =>
    clear hr0
    have he := fun W => Lib.run_eql_slice_nil (P := Try.prog) (w := W) 22 5 (some ad) l0.length c0 0 0 Try.underlying22
    go_enter Try.func75, Try.ntmps75
    go_wp2_with (first
      | ((with_reducible refine gate_dst (N := 5) rfl ?_); refine Kd.R_lit (Kd.int .u8) (w0 := w) w.heap.size 5 ?hg (N := 5) ?hd (xs := ([] : List Int)) (inner := []) (ok := fun _ => True) (okp := fun _ => True) ?hr ?hp (fun _ hk => hk) trivial (Below.refl _ _) (Nat.le_refl _) (by simp) ?_; (case hd => rfl); (case hg => rfl); (case hr => first | (go_simp; done) | (go_simp; rfl)); (case hp => exact (Reps.none _ _)); intro v1 w1 ho1 hb1 hg_ hnew_; clear hg_ hnew_; have HO1 := Aside0.mk ho1; have HB1 := Aside0.mk hb1; clear ho1 hb1)
      | ((with_reducible refine gate_builtin (b := .append) (xs := #[.tmp 5, .tmp 6]) rfl ?_); at_builtin; refine Kd.R_append_rows (Kd.int .u8) (w0 := w) w.heap.size rfl (.tmp 5) (.tmp 6) 22 5 (.int .u8 0) 1 rfl Try.underlying22 info5 rfl (by decide) (by omega) v1 [] l0 _ _ _ (fun _ => True) (fun _ => False) rfl rfl HO1.out (Kd.C_below HR0.out HB1.out) (fun _ _ h => h) (fun _ h => h.elim) (fun _ _ => trivial) HB1.out HB1.out.size ?aL ?_; (case aL => simp; omega); intro v2 w2 ho2 hb2 hg2 hat2; have HO2 := Aside0.mk ho2; have HB2 := Aside0.mk hb2; clear ho2 hb2 hg2 hat2))
    go_ret
    exact ⟨_, rfl, HO2.out, HB2.out⟩

theorem slices_Clone_byte_byte.calls (A0 : Option Addr) (c0 : Nat) (l0 : List Int) (r : List Int) (w : World) (hr0 : Kd.C (Kd.int .u8) w A0 l0.length l0) (hc0 : l0.length ≤ c0) (h : slices_Clone_byte_byte.f l0 = some r) :
    Calls Try.prog 75 #[.slice A0 l0.length c0] w fun e w' => ∃ v0_ : Value, e = .returned (v0_) ∧ Kd.R (Kd.int .u8) 5 w' w.heap.size (fun _ => True) v0_ r ∧ Below w.heap.size w w' := by
  unfold slices_Clone_byte_byte.f at h
  by_cases hl : l0.length < 140737488355328
  · rw [if_pos hl] at h
    obtain rfl := Option.some.inj h
    exact clone A0 c0 l0 w hr0 hl
  · rw [if_neg hl] at h
    cases h

/-! bitmap.Set -/
def getv (l : List Int) (i : Int) : Bool := (bitmap_Get.f l i).getD false
theorem get_some (l : List Int) (i : Int) (h0 : 0 ≤ i) (h1 : i ≤ 9223372036854775807) : bitmap_Get.f l i = some (getv l i) := by
  unfold getv bitmap_Get.f
  have hw : wrap64 (Int.tdiv i 8) = i / 8 := by
    rw [Int.tdiv_eq_ediv_of_nonneg h0]; unfold wrap64; omega
  have hm : Int.tmod i 8 = i % 8 := Int.tmod_eq_emod_of_nonneg h0
  rw [if_pos (show i ≥ 0 from h0), hw, hm]
  by_cases hl : i / 8 < (l.length : Int)
  · rw [if_pos hl, if_pos (by omega), if_pos (by omega)]; rfl
  · rw [if_neg hl]; rfl
def flip (l : List Int) (i : Int) : List Int := l.set (i / 8).toNat (Go.bits .xor .u8 (rd l (i / 8)) (2 ^ (i % 8).toNat % 256))
def setL (l : List Int) (i : Int) (on : Bool) : List Int := if getv l i = on then l else flip l i
def bitmap_Set.f (l0 : List Int) (a1 : Int) (a2 : Bool) : Option (List Int × Int) :=
  if a1 ≤ 9223372036854775807 ∧ l0.length < 140737488355328 then (if a1 < 0 ∨ (l0.length : Int) ≤ a1 / 8 then some ([], 1) else some (setL l0 a1 a2, 0)) else none

def OutSet (w : World) (r : List Int) (n : Int) (e : Ending) (w' : World) : Prop :=
  ∃ v0_ : Value, e = .returned (.tuple #[v0_, .int .i64 n]) ∧ Kd.R (Kd.int .u8) 5 w' w.heap.size (fun _ => True) v0_ r ∧ Below w.heap.size w w'

set_option maxHeartbeats 400000 in
theorem set_out (A0 : Option Addr) (c0 : Nat) (l0 : List Int) (i : Int) (on : Bool) (w : World) (h : i < 0 ∨ (l0.length : Int) ≤ i / 8) (hi : i ≤ 9223372036854775807) :
    Calls Try.prog 17 #[.slice A0 l0.length c0, .int .i64 i, .bool on] w (OutSet w [] 1) := by
  by_cases h0 : i < 0
  · go_enter Try.func17, Try.ntmps17
    go_wp2
    go_ret2
    exact ⟨_, rfl, Kd.R_nil _ _ _ _ _, Below.refl _ _⟩
  · have h1 : (l0.length : Int) ≤ i / 8 := by omega
    have h2 : 0 ≤ i := by omega
    clear h
    go_enter Try.func17, Try.ntmps17
    go_wp2
    go_ret2
    exact ⟨_, rfl, Kd.R_nil _ _ _ _ _, Below.refl _ _⟩

set_option maxHeartbeats 400000 in
theorem set_in (A0 : Option Addr) (c0 : Nat) (l0 : List Int) (i : Int) (on : Bool) (w : World) (hr0 : Kd.C (Kd.int .u8) w A0 l0.length l0) (hc0 : l0.length ≤ c0) (hl : l0.length < 140737488355328)
   (h0 : 0 ≤ i) (h1 : i / 8 < (l0.length : Int)) (hi : i ≤ 9223372036854775807) :
    Calls Try.prog 17 #[.slice A0 l0.length c0, .int .i64 i, .bool on] w (OutSet w (setL l0 i on) 0) := by
  have HR0 := Aside0.mk hr0
  clear hr0
  have HG := Lib.hid (get_some l0 i h0 hi)
  go_enter Try.func17, Try.ntmps17
  go_wp2_with fail
  refine (clone A0 c0 l0 w HR0.out hl).mono ?_
  rintro e w1 ⟨v1, rfl, hO, hB⟩
  obtain ⟨A1, c1, rfl, hlc1, hrd1⟩ := Kd.R_reads hO
  have HO := Aside0.mk hO
  have HB := Aside0.mk hB
  have HRD := Aside0.mk hrd1
  clear hO hB hrd1
  go_wp2_with fail
  refine (bitmap_Get.calls A0 c0 l0 i (getv l0 i) w1 (Kd.C_below HR0.out HB.out) hc0 HG.out).mono ?_
  rintro e w2 ⟨rfl, hd⟩
  obtain ⟨nd, rfl⟩ := hd.out
  have HS0 : setL l0 i on = if getv l0 i = on then l0 else flip l0 i := rfl
  by_cases hon : getv l0 i = on
  · have hon3 : (!(getv l0 i == on)) = false := by simp [hon]
    rw [if_pos hon] at HS0
    have HS := Lib.hid HS0
    clear hon HS0
    go_wp2
    go_ret2
    refine ⟨_, rfl, ?_, ?_⟩
    · rw [HS.out]; exact Kd.R_drewN HO.out _
    · exact pw_below_drewN HB.out _
  · have hon3 : (!(getv l0 i == on)) = true := by cases hg : getv l0 i <;> cases on <;> simp_all
    rw [if_neg hon] at HS0
    have HS := Lib.hid HS0
    clear hon HS0
    obtain ⟨g, cp, hg, hge, hgl, _⟩ := Kd.R_form HO.out (by omega)
    injection hg with hg1 _ hg2
    subst hg1
    obtain ⟨ad, hae, hcell⟩ := Kd.at_int HRD.out (i / 8) (by omega) h1
    cases hae
    have hfr := (Kd.own_of_R HO.out).frozenAt (i / 8).toNat
    rw [add_plain] at hcell
    clear hg2
    go_wp2
    go_region
    go_wp2
    go_ret2
    have hp := Kd.R_put (Kd.R_drew (Kd.R_drewN HO.out nd)) (i / 8) (Go.bits .xor .u8 (rd l0 (i / 8)) (2 ^ (i % 8).toNat % 256))
    refine ⟨_, rfl, ?_, ?_⟩
    · rw [HS.out]
      have h2 := hp.1
      exact h2
    · exact pw_below_grown (below_drew (pw_below_drewN HB.out nd)) (some g) (by simp; omega) hp.2 (fun k hk => by cases hk; exact hge)
theorem bitmap_Set.calls (A0 : Option Addr) (c0 : Nat) (l0 : List Int) (a1 : Int) (a2 : Bool) (r1 : List Int) (r2 : Int) (w : World) (hr0 : Kd.C (Kd.int .u8) w A0 l0.length l0) (hc0 : l0.length ≤ c0) (h : bitmap_Set.f l0 a1 a2 = some (r1, r2)) :
    Calls Try.prog 17 #[.slice A0 l0.length c0, .int .i64 a1, .bool a2] w fun e w' => ∃ v0_ : Value, e = .returned (.tuple #[v0_, .int .i64 r2]) ∧ Kd.R (Kd.int .u8) 5 w' w.heap.size (fun _ => True) v0_ r1 ∧ Below w.heap.size w w' := by
  unfold bitmap_Set.f at h
  by_cases h2 : a1 ≤ 9223372036854775807 ∧ l0.length < 140737488355328
  · by_cases h1 : a1 < 0 ∨ (l0.length : Int) ≤ a1 / 8
    · rw [if_pos h2, if_pos h1] at h
      cases h
      exact set_out A0 c0 l0 a1 a2 w h1 h2.1
    · rw [if_pos h2, if_neg h1] at h
      cases h
      exact set_in A0 c0 l0 a1 a2 w hr0 hc0 h2.2 (by omega) (by omega) h2.1
  · rw [if_neg h2] at h
    cases h

/-! bitmap.Get, the world as it was -/
theorem getv_in (l : List Int) (i : Int) (h0 : 0 ≤ i) (hi : i ≤ 9223372036854775807) (h1 : i / 8 < (l.length : Int)) :
    getv l i = (Go.bits .and .u8 (rd l (i / 8) / 2 ^ (i % 8).toNat) 1 == 1) := by
  unfold getv bitmap_Get.f
  have hw : wrap64 (Int.tdiv i 8) = i / 8 := by
    rw [Int.tdiv_eq_ediv_of_nonneg h0]; unfold wrap64; omega
  have hm : Int.tmod i 8 = i % 8 := Int.tmod_eq_emod_of_nonneg h0
  rw [if_pos (show i ≥ 0 from h0), hw, hm, if_pos h1, if_pos (by omega), if_pos (by omega)]
  have hs : shr .u8 (rd l (i / 8)) (i % 8) = rd l (i / 8) / 2 ^ (i % 8).toNat := by
    show rd l (i / 8) / 2 ^ min (i % 8).toNat 8 = _
    rw [show min (i % 8).toNat 8 = (i % 8).toNat from by omega]
  rw [hs]; rfl
theorem getv_out (l : List Int) (i : Int) (h : i < 0 ∨ (l.length : Int) ≤ i / 8) (hi : i ≤ 9223372036854775807) : getv l i = false := by
  unfold getv bitmap_Get.f
  by_cases h0 : i ≥ 0
  · have hw : wrap64 (Int.tdiv i 8) = i / 8 := by
      rw [Int.tdiv_eq_ediv_of_nonneg h0]; unfold wrap64; omega
    rw [if_pos h0, hw, if_neg (by omega)]; rfl
  · rw [if_neg h0]; rfl
def Tells (b : Bool) (w : World) (e : Ending) (w' : World) : Prop := e = .returned (.bool b) ∧ w = w'
set_option maxHeartbeats 400000 in
theorem get_any (A0 : Option Addr) (c0 : Nat) (l0 : List Int) (i : Int) (w : World) (hr0 : Kd.C (Kd.int .u8) w A0 l0.length l0) (hi : i ≤ 9223372036854775807) :
    Calls Try.prog 22 #[.slice A0 l0.length c0, .int .i64 i] w (Tells (getv l0 i) w) := by
  by_cases h0 : 0 ≤ i
  · by_cases h1 : i / 8 < (l0.length : Int)
    · obtain ⟨ad, rfl, hcell⟩ := Kd.at_int hr0 (i / 8) (by omega) h1
      have HG := Lib.hid (getv_in l0 i h0 hi h1)
      clear hr0
      go_enter Try.func22, Try.ntmps22
      go_wp2
      go_ret
      exact ⟨by rw [HG.out]; rfl, rfl⟩
    · have HG := Lib.hid (getv_out l0 i (by omega) hi)
      clear hr0
      go_enter Try.func22, Try.ntmps22
      go_wp2
      go_ret
      exact ⟨by rw [HG.out]; rfl, rfl⟩
  · have HG := Lib.hid (getv_out l0 i (by omega) hi)
    clear hr0
    go_enter Try.func22, Try.ntmps22
    go_wp2
    go_ret
    exact ⟨by rw [HG.out]; rfl, rfl⟩

/-! First's closure, find with it, First -/
theorem first1 (B : Nat) (A : Option Addr) (c : Nat) (l : List Int) (i : Int) (w : World) (hr0 : Kd.C (Kd.int .u8) w A l.length l) (hi : i ≤ 9223372036854775807)
   (hB : w.cell? ⟨B, 0, none⟩ = some (.slice A l.length c)) :
    Calls Try.prog 78 #[.int .i64 i, .pointer (some ⟨B, 0, none⟩)] w (Tells (!getv l i) w) := by
  have H := Lib.hid (get_any A c l i w hr0 hi)
  clear hr0
  go_enter Try.func78, Try.ntmps78
  go_wp2_with fail
  refine H.out.mono ?_
  rintro e w' ⟨rfl, rfl⟩
  go_wp2
  go_ret
  exact ⟨rfl, rfl⟩

/-- what find answers -/
def Found (p : Int → Bool) (lo hi r : Int) : Prop :=
  (r = -1 ∧ ∀ j, lo ≤ j → j < hi → p j = false) ∨ (lo ≤ r ∧ r < hi ∧ p r = true ∧ ∀ j, lo ≤ j → j < r → p j = false)
def FoundEnd (p : Int → Bool) (lo hi : Int) (w : World) (e : Ending) (w' : World) : Prop :=
  ∃ r, e = .returned (.int .i64 r) ∧ Found p lo hi r ∧ w = w'
def Ahead (p : Int → Bool) (lo k : Int) : Prop := lo ≤ k ∧ ∀ j, lo ≤ j → j < k → p j = false
theorem Ahead.refl (p : Int → Bool) {lo k : Int} (h : lo = k) : Ahead p lo k := ⟨by omega, fun j h1 h2 => by omega⟩
theorem Ahead.step {p : Int → Bool} {lo k : Int} (h : Ahead p lo k) (hp : p k = false) : Ahead p lo (k + 1) :=
  ⟨by have := h.1; omega, fun j h1 h2 => by
    by_cases e : j = k
    · rw [e]; exact hp
    · exact h.2 j h1 (by omega)⟩
set_option maxHeartbeats 400000 in
theorem find1 (B : Nat) (A : Option Addr) (c : Nat) (l : List Int) (lo hi : Int) (w : World) (hr0 : Kd.C (Kd.int .u8) w A l.length l)
   (hB : w.cell? ⟨B, 0, none⟩ = some (.slice A l.length c))
   (hl : l.length ≤ 100000) (hlo : -9223372036854775808 ≤ lo) (hlo2 : lo ≤ 9223372036854775807)  (hhi : -9223372036854775808 ≤ hi) (hhi2 : hi ≤ 9223372036854775807) :
    Calls Try.prog 76 #[.slice A l.length c, .int .i64 lo, .int .i64 hi, .func (.func 78) #[] #[.pointer (some ⟨B, 0, none⟩)]] w (FoundEnd (fun i => !getv l i) (max lo 0) (min hi (8 * (l.length : Int))) w) := by
  have H := Lib.hid (fun i hi => first1 B A c l i w hr0 hi hB)
  clear hr0 hB
  obtain ⟨n, hn⟩ : ∃ n : Nat, n = l.length := ⟨_, rfl⟩
  have hn1000 : n ≤ 100000 := by omega
  rw [← hn]
  clear hn hl
  go_enter Try.func76, Try.ntmps76
  go_wp2
  all_goals
    go_loop [9] (fun i => ∃ k : Int, i = .int .i64 k ∧ k ≤ 9223372036854775807 ∧ Ahead (fun i => !getv l i) (max lo 0) k) (fun i => (8 * n - intOf i).toNat)
    case atStart => exact ⟨_, rfl, by omega, Ahead.refl _ (by omega)⟩
    case round =>
      obtain ⟨k, rfl, hk2, hk3⟩ := hrel
      have hk1 : 0 ≤ k := by have := hk3.1; omega
      have hk4 := Lib.hid hk3
      clear hk3
      by_cases hlt : k < hi ∧ k < 8 * (n : Int)
      · obtain ⟨hlt1, hlt2⟩ := hlt
        by_cases hc : 8 * (n : Int) < hi
        all_goals
          cases hv : getv l k with
          | true =>
            have HV := Lib.hid hv
            have hv' := hv
            go_wp2_with fail
            all_goals
              refine (H.out k hk2).mono ?_
              rintro e w' ⟨rfl, rfl⟩
              go_wp2
              go_round
              case rel => exact ⟨k + 1, rfl, by omega, hk4.out.step (by simp [HV.out])⟩
              case measure => simp [intOf]; omega
          | false =>
            have HV := Lib.hid hv
            have hv' := hv
            go_wp2_with fail
            all_goals
              refine (H.out k hk2).mono ?_
              rintro e w' ⟨rfl, rfl⟩
              go_wp2
              go_ret
              exact ⟨k, rfl, .inr ⟨hk4.out.1, by omega, by simp [HV.out], hk4.out.2⟩, rfl⟩
      · have hd : Found (fun i => !getv l i) (max lo 0) (min hi (8 * (n : Int))) (-1) := .inl ⟨rfl, fun j h1 h2 => hk4.out.2 j h1 (by omega)⟩
        have HD := Lib.hid hd
        clear hd
        by_cases hc : 8 * (n : Int) < hi
        all_goals
          by_cases hlt2 : k < hi
          all_goals
            go_wp2
            all_goals
              go_ret
              exact ⟨-1, rfl, HD.out, rfl⟩

end Go.Proofs.Ythnmbeooohgccaa.HBm
