/- Texts of this claim, laid together by a program of this session (wip/tools/pack.py); the print's own words among them are those that print.sh OWN=1 lays for the claim, as far as they are named. -/
import Derived.Deep.DrawnRows
import Derived.Deep.DeepFit
import Derived.Test.YtljmjeaocojnmaaQH
import Derived.Test.YtljmjeaocojnmaaQI
import Derived.Test.YtljmjeaocojnmaaQR
section
set_option linter.unusedVariables false
set_option linter.unusedSimpArgs false
namespace Go.Proofs.Ytljmjeaocojnmaa.HCa
open Go.RowKit Go.Proofs.YtljmjeaocojnmaaW.PrintWords Go.Proofs.YtljmjeaocojnmaaW.PrintLast Go.Proofs.YtljmjeaocojnmaaW.PrintMore Go.Proofs.Ytljmjeaocojnmaa.Kit Go.Proofs.Ytljmjeaocojnmaa.HAa Go.Proofs.Ytljmjeaocojnmaa.Ra Go.Proofs.Ytljmjeaocojnmaa.Cb
attribute [local go_sem ↓] Go.wp_at_zero Go.wp_at_succ
structure KeyS (w : World) (g : Nat) (key : List Int) (Aw : Option Addr) (cw : Nat) (Ab : Option Addr) (cb : Nat) : Prop where
  blk : w.heap[g]? = some (.cells #[.slice Aw 44 cw, .slice Ab 256 cb] 117 (0, 0))
  k : Kd.C (Kd.slice 5 (Kd.int .u8)) w Aw 44 (Wl (keyN key boxT 40) 44)
  ck : 44 ≤ cw
  b : Kd.C (Kd.int .u8) w Ab 256 boxT
  c : 256 ≤ cb
namespace KeyS
variable {w w1 : World} {g : Nat} {key : List Int} {Aw Ab : Option Addr} {cw cb : Nat}
theorem lt (h : KeyS w g key Aw cw Ab cb) : g < w.heap.size := (Array.getElem?_eq_some_iff.1 h.blk).1
theorem next (h : KeyS w g key Aw cw Ab cb) (hb : Below w.heap.size w w1) : KeyS w1 g key Aw cw Ab cb :=
  ⟨(hb.block g h.lt).trans h.blk, Kd.C_below h.k hb, h.ck, Kd.C_below h.b hb, h.c⟩
theorem drew (h : KeyS w g key Aw cw Ab cb) : KeyS w.drew g key Aw cw Ab cb := h.next (below_drew (Below.refl _ _))
theorem cell (h : KeyS w g key Aw cw Ab cb) : w.cell? ⟨g, 0, none⟩ = some (.slice Aw 44 cw) ∧ w.cell? ⟨g, 1, none⟩ = some (.slice Ab 256 cb) := by
  unfold World.cell?
  simp [h.blk]
end KeyS
def NewS (w : World) (key : List Int) (e : Ending) (w' : World) : Prop :=
  ∃ g Aw cw Ab cb, e = .returned (.pointer (some ⟨g, 0, none⟩)) ∧ KeyS w' g key Aw cw Ab cb ∧ Below w.heap.size w w'
attribute [local irreducible] encF Wl keyN boxT
set_option maxHeartbeats 1000000 in
set_option maxRecDepth 100000 in
theorem new4_any (gk ok0 ck : Nat) (Tk : TypeId) (key : List Int) (w : World) (h16 : key.length = 16) (hkb : Bytes key)
    (hk : Kd.C (Kd.int .u8) w (some ⟨gk, ok0, none⟩) 16 key) (hck : 16 ≤ ck) (hkt : ∃ cells, w.heap[gk]? = some (.cells cells Tk (0, 0))) :
    Calls Try.prog 24 #[.slice (some ⟨gk, ok0, none⟩) 16 ck] w (NewS w key) := by
  have HK := Lib.hid hk
  have HT := Lib.hid hkt
  have HL16 := Lib.hid h16
  have hgk : gk < w.heap.size := by obtain ⟨_, h⟩ := hkt; exact (Array.getElem?_eq_some_iff.1 h).1
  clear hk hkt h16
  go_enter Try.func24, Try.ntmps24
  go_wp2_with fail
  refine (padlockref03_Box.calls 557 boxT _ box_tells).mono ?_
  rintro e w1 ⟨v1, rfl, hO1, hB1⟩
  obtain ⟨Ab, cb, e1⟩ := Kd.R_slice hO1
  rw [boxT_length] at e1
  subst e1
  obtain ⟨-, hcb, hCb⟩ := Kd.R_reads' hO1
  rw [boxT_length] at hCb
  have HCb := Lib.hid hCb
  have HB1 := Lib.hid hB1
  have hW := words_any gk ok0 ck Tk Ab cb key boxT w1 HL16.out boxT_length hkb boxT_b (Kd.C_below HK.out hB1) hck (by obtain ⟨cells, h⟩ := HT.out; exact ⟨cells, (hB1.block gk hgk).trans h⟩) hCb hcb
  have HW := Lib.hid hW
  clear hO1 hB1 hCb hW
  go_wp2_with fail
  refine HW.out.mono ?_
  rintro e w2 ⟨Aw, cw, rfl, hcw, hCw, hB2⟩
  rw [Wl_length] at hcw hCw ⊢
  have HCw := Lib.hid hCw
  have HB2 := Lib.hid hB2
  clear hCw hB2
  go_wp2_with fail
  go_ret
  have HB9 := below_alloc (Below.refl w2.heap.size w2) (.cells #[.slice Aw 44 cw, .slice Ab 256 cb] 117)
  exact ⟨w2.heap.size, Aw, cw, Ab, cb, rfl, ⟨Array.getElem?_push_size, Kd.C_below HCw.out HB9, hcw, Kd.C_below HCb.out (below_next HB2.out HB9), hcb⟩, below_next HB1.out (below_next HB2.out HB9)⟩
def SliceOut (w : World) (r : List Int) (e : Ending) (w' : World) : Prop :=
  ∃ A c, e = .returned (.slice A r.length c) ∧ r.length ≤ c ∧ Kd.C (Kd.int .u8) w' A r.length r ∧ Below w.heap.size w w'
theorem turned_any (key block : List Int) (h16 : key.length = 16) (hb16 : block.length = 16) (hkb : Bytes key) (hbb : Bytes block) (Aw : Option Addr) (cw : Nat) (A1 : Option Addr) (c1 : Nat) (Ab : Option Addr) (cb : Nat) (w : World)
    (hw : Kd.C (Kd.slice 5 (Kd.int .u8)) w Aw 44 (Wl (keyN key boxT 40) 44)) (hcw : 44 ≤ cw) (h1 : Kd.C (Kd.int .u8) w A1 16 block) (hc1 : 16 ≤ c1) (hb : Kd.C (Kd.int .u8) w Ab 256 boxT) (hcb : 256 ≤ cb) :
    Calls Try.prog 91 #[.slice Aw 44 cw, .slice A1 16 c1, .slice Ab 256 cb] w (Go.Proofs.Ytljmjeaocojnmaa.Com.OutB w (encF key block)) := by
  obtain ⟨K, hK⟩ := turned_tells (keyN key boxT 40) (Wl (keyN key boxT 40) 44) (Wl_words _) (keyN_b key boxT hkb boxT_b 40) boxT block boxT_length boxT_b hb16 hbb
  have hT := padlockref03_Turned.calls K Aw cw (Wl (keyN key boxT 40) 44) A1 c1 block Ab cb boxT (encF key block) w (by rw [Wl_length]; exact hw) (by rw [Wl_length]; exact hcw) (by rw [hb16]; exact h1) (by rw [hb16]; exact hc1) (by rw [boxT_length]; exact hb) (by rw [boxT_length]; exact hcb) (by rw [hK]; unfold encF; rfl)
  rw [hb16, boxT_length, Wl_length] at hT
  exact hT
theorem own_ne {α β : Type} {d : Kd α} {d' : Kd β} {e e' b : Nat} {W W' : World} {ok ok' : Nat → Prop} {u v : Value} {xs : List α} {ys : List β} (h : d.R e W b ok u xs) (h' : d'.R e' W' W.heap.size ok' v ys) : ∀ k, u.ownBlock = some k → some k ≠ v.ownBlock := by
  intro k hk he
  have h1 := ((Kd.R_bound h).1 k hk).2.2.1
  have h2 := ((Kd.R_bound h').1 k he.symm).2.1
  omega
theorem own_ne3 {β : Type} {d' : Kd β} {e' b : Nat} {W : World} {ok' : Nat → Prop} {v : Value} {ys : List β} (h : d'.R e' W b ok' v ys) : ∀ k, (Value.slice (some ⟨W.heap.size, 0, none⟩) 0 0).ownBlock = some k → some k ≠ v.ownBlock := by
  intro k hk he
  have h3 := ((Kd.R_bound h).1 k he.symm).2.2.1
  have : W.heap.size = k := by simpa [Value.ownBlock] using hk
  omega
theorem big_any (q : Nat) (W : World) (hq : q < 4294967296) (h : padlockref04_Big.f 70 q 4 = some (bg4 q)) : Calls Try.prog 68 #[.int .u64 q, .int .i64 4] W (Go.Proofs.Ytljmjeaocojnmaa.Com.OutB W (bg4 q)) := by
  exact padlockref04_Big.calls 70 q 4 (bg4 q) W h
theorem lit_none (W : World) : Kd.R (Kd.int .u8) 5 (W.alloc (.cells #[] 5)) W.heap.size (fun _ => True) (.slice (some ⟨W.heap.size, 0, none⟩) 0 0) [] :=
  (Arr.new W .u8 5 []).row W.heap.size 0 rfl (Nat.le_refl _) (by decide) (fun _ => True) trivial
theorem sN_succ (key nonce : List Int) (n : Nat) : sN key nonce (n + 1) = sN key nonce n ++ ksF key nonce n := rfl
attribute [local irreducible] sN ksF bg4
set_option maxHeartbeats 4000000 in
set_option maxRecDepth 100000 in
theorem stream_any (g : Nat) (key : List Int) (Aw : Option Addr) (cw : Nat) (Ab : Option Addr) (cb : Nat) (A1 : Option Addr) (c1 : Nat) (nonce : List Int) (m : Nat) (w : World) (h16 : key.length = 16) (hkb : Bytes key) (h12 : nonce.length = 12) (hnb : Bytes nonce) (hm : m ≤ 1000)
    (hK : KeyS w g key Aw cw Ab cb) (hr : Kd.C (Kd.int .u8) w A1 12 nonce) (hc : 12 ≤ c1) :
    Calls Try.prog 67 #[.pointer (some ⟨g, 0, none⟩), .slice A1 12 c1, .int .i64 m] w (fun e w' => ∃ n, m ≤ 16 * n ∧ SliceOut w ((sN key nonce n).take m) e w') := by
  have HK := Lib.hid hK
  have HR := Lib.hid hr
  have HL16 := Lib.hid h16
  have HL12 := Lib.hid h12
  have HKB := Lib.hid hkb
  have HNB := Lib.hid hnb
  have HCC := Lib.hid hc
  clear hK hr h16 h12 hkb hnb hc
  go_enter Try.func67, Try.ntmps67
  go_wp2_with fail
  go_loopw [7, 8] (fun v nv wr => ∃ (q : Nat) (A : Option Addr) (c : Nat), v = .slice A (16 * q) c ∧ nv = .int .i64 q ∧ 16 * q < m + 16 ∧ Hid (Kd.R (Kd.int .u8) 5 wr w.heap.size (fun _ => True) (.slice A (16 * q) c) (sN key nonce q)) ∧ Hid (Below w.heap.size w wr)) (fun _ nv _ => m + 16 - 16 * (intOf nv).toNat)
  case atStart => exact ⟨0, none, 0, rfl, rfl, by omega, Lib.hid (by unfold sN; exact Kd.R_nil _ _ _ _ _), Lib.hid (by first | exact Below.refl _ _ | exact below_drew (Below.refl _ _))⟩
  case round =>
    obtain ⟨q, A, c, rfl, rfl, hq, hO, hB⟩ := hrel
    by_cases hqm : 16 * q < m
    · have hq9 : q ≤ 63 := by omega
      have hqw : IntKind.u64.wrap (q : Int) = (q : Int) := by rw [IntKind.wrap_u64]; omega
      have HBr : Hid (Below wr.heap.size wr wr.drew) := Lib.hid (below_drew (Below.refl _ _))
      have HBig : Hid (∀ W, Calls Try.prog 68 #[.int .u64 q, .int .i64 4] W (Go.Proofs.Ytljmjeaocojnmaa.Com.OutB W (bg4 q))) := Lib.hid (fun W => by
        have h := big_tells 4 q 65 (by omega) (by omega) (by omega)
        rw [bg4_big q (by omega)] at h
        exact big_any q W (by omega) h)
      have HBK : Hid ((nonce ++ bg4 q).length = 16) := Lib.hid (by rw [List.length_append, HL12.out, bg4_length])
      have HBB : Hid (Bytes (nonce ++ bg4 q)) := Lib.hid (by
        intro y hy
        rcases List.mem_append.1 hy with h | h
        · exact HNB.out y h
        · exact bg4_bytes q y h)
      have HKF : Hid (encF key (nonce ++ bg4 q) = ksF key nonce q) := Lib.hid (by unfold ksF; rfl)
      have HKL : Hid ((ksF key nonce q).length = 16) := Lib.hid (ksF_length _ _ _ HL12.out)
      have HBL : Hid ((bg4 q).length = 4) := Lib.hid (bg4_length q)
      have HSL : Hid ((sN key nonce q).length = 16 * q) := Lib.hid (sN_length key nonce HL12.out q)
      have hcl := (HK.out.next hB.out).cell
      go_wp2_with fail
      go_region_held3 (fun w' => w'.cell? ⟨g, 0, none⟩ = some (.slice Aw 44 cw) ∧ w'.cell? ⟨g, 1, none⟩ = some (.slice Ab 256 cb))
        (first | go_keep | exact hkeep)
        ((first
          | (refine Kd.R_append_rows_step (Kd.int .u8) (w0 := w) w.heap.size (by rfl) (.tmp 15) (.tmp 31) 22 5 (.int .u8 0) 1 (by rfl) Try.underlying22 Go.Proofs.Ytljmjeaocojnmaa.Com.info5 rfl (by decide) (by omega) (.slice A (16 * q) c) (sN key nonce q) (ksF key nonce q) A31 16 c31 (fun _ => True) (fun _ => False) (by rfl) (by rfl) (by exact Kd.R_below hO.out HBr.out) (by exact HC31.out) (fun _ _ h => h) (fun _ h => h.elim) (fun _ _ => trivial) (by exact (below_next hB.out HBr.out)) (by exact (below_next hB.out HBr.out).size) (by rw [HSL.out]; omega) ?_; intro v32 W32 ho32 hb32 hg32 hat32; have hkeep := (HK.out.next hb32).cell; have HO32 := Lib.hid ho32; have HB32 := Lib.hid hb32; clear ho32 hb32 hg32 hat32)
          | (go_at_call 91; refine (turned_any key (nonce ++ bg4 q) HL16.out HBK.out HKB.out HBB.out Aw cw A26 c26 Ab cb _ (HK.out.next (below_next hB.out HBr.out)).k HK.out.ck HC26.out HC26c.out (HK.out.next (below_next hB.out HBr.out)).b HK.out.c).mono ?_; rintro e W31 ⟨v31, rfl, hO31, hB31⟩; rw [HKF.out] at hO31; obtain ⟨A31, c31, e31, hl31, hr31⟩ := Kd.R_reads hO31; rw [HKL.out] at e31 hl31 hr31; subst e31; have HC31 := Lib.hid hr31; have HBr := Lib.hid (below_next HBr.out hB31); have hkeep := (HK.out.next (below_next hB.out HBr.out)).cell; clear hO31 hB31 hr31)
          | (refine Kd.R_append_rows_step (Kd.int .u8) (w0 := wr) wr.heap.size (by rfl) (.tmp 22) (.tmp 25) 22 5 (.int .u8 0) 1 (by rfl) Try.underlying22 Go.Proofs.Ytljmjeaocojnmaa.Com.info5 rfl (by decide) (by omega) v22 nonce (bg4 q) A25 4 c25 (fun _ => True) (fun _ => False) (by rfl) (by rfl) (by exact HO22.out) (by have h := (Kd.R_reads' HO25.out).2.2; rw [HBL.out] at h; exact h) (fun _ _ h => h) (fun _ h => h.elim) (fun _ _ => trivial) (by exact HBr.out) (by exact (HBr.out).size) (by rw [HL12.out]; omega) ?_; intro v26 W26 ho26 hb26 hg26 hat26; obtain ⟨A26, c26, e26, hl26, hr26⟩ := Kd.R_reads ho26; rw [HBK.out] at e26 hl26 hr26; subst e26; have HC26 := Lib.hid hr26; have HC26c := Lib.hid hl26; have HBr := Lib.hid hb26; have hkeep := (HK.out.next (below_next hB.out HBr.out)).cell; clear ho26 hb26 hg26 hat26 hr26 hl26)
          | (have hne := HNE.out; have h20 := HO20.out; refine Kd.R_append_rows_step (Kd.int .u8) (w0 := wr) wr.heap.size (by rfl) (.tmp 20) (.tmp 21) 22 5 (.int .u8 0) 1 (by rfl) Try.underlying22 Go.Proofs.Ytljmjeaocojnmaa.Com.info5 rfl (by decide) (by omega) (.slice (some ⟨wr.heap.size, 0, none⟩) 0 0) ([] : List Int) nonce A1 12 c1 (fun _ => True) (fun _ => False) (by rfl) (by rfl) (by exact h20) (by exact Kd.C_below HR.out (below_next hB.out (HBr.out))) (fun _ _ h => h) (fun _ h => h.elim) (fun _ _ => trivial) (by exact HBr.out) (by exact (HBr.out).size) (by simp) ?_; intro v22 W22 ho22 hb22 hg22 hat22; rw [List.nil_append] at ho22; have HO22 := Lib.hid ho22; have HBr := Lib.hid hb22; have hkeep := (HK.out.next (below_next hB.out HBr.out)).cell; have HO25 := Lib.hid (Kd.R_grown2 HO25.out rfl hg22 hne); clear ho22 hb22 hg22 hat22 hne h20)
          | (have h25 := HO25.out; have hne := own_ne3 h25; refine Kd.R_append_rows_step (Kd.int .u8) (w0 := wr) wr.heap.size (by rfl) (.tmp 20) (.tmp 21) 22 5 (.int .u8 0) 1 (by rfl) Try.underlying22 Go.Proofs.Ytljmjeaocojnmaa.Com.info5 rfl (by decide) (by omega) (.slice (some ⟨W25.heap.size, 0, none⟩) 0 0) ([] : List Int) nonce A1 12 c1 (fun _ => True) (fun _ => False) (by rfl) (by rfl) (by exact Kd.R_lower (lit_none W25) HBr.out.size) (by exact Kd.C_below HR.out (below_next hB.out (below_alloc HBr.out _))) (fun _ _ h => h) (fun _ h => h.elim) (fun _ _ => trivial) (by exact below_alloc HBr.out _) (by exact (below_alloc HBr.out _).size) (by simp) ?_; intro v22 W22 ho22 hb22 hg22 hat22; rw [List.nil_append] at ho22; have HO22 := Lib.hid ho22; have HBr := Lib.hid hb22; have hkeep := (HK.out.next (below_next hB.out HBr.out)).cell; have HO25 := Lib.hid (Kd.R_grown2 (Kd.R_alloc h25 _) rfl hg22 hne); clear ho22 hb22 hg22 hat22 hne h25)
          | (refine Kd.R_append_rows_step (Kd.int .u8) (w0 := wr) wr.heap.size (by rfl) (.tmp 20) (.tmp 21) 22 5 (.int .u8 0) 1 (by rfl) Try.underlying22 Go.Proofs.Ytljmjeaocojnmaa.Com.info5 rfl (by decide) (by omega) (.slice (some ⟨wr.heap.size, 0, none⟩) 0 0) ([] : List Int) nonce A1 12 c1 (fun _ => True) (fun _ => False) (by rfl) (by rfl) (by exact Kd.R_drew (lit_none wr)) (by exact Kd.C_below HR.out (below_next hB.out (below_drew (below_alloc (Below.refl _ _) _)))) (fun _ _ h => h) (fun _ h => h.elim) (fun _ _ => trivial) (by exact below_drew (below_alloc (Below.refl _ _) _)) (by exact (below_drew (below_alloc (Below.refl _ _) _)).size) (by simp) ?_; intro v22 W22 ho22 hb22 hg22 hat22; rw [List.nil_append] at ho22; have HO22 := Lib.hid ho22; have HBr := Lib.hid hb22; have hkeep := (HK.out.next (below_next hB.out HBr.out)).cell; clear ho22 hb22 hg22 hat22)
          | (go_at_call 68; have h22 := HO22.out; refine (HBig.out _).mono ?_; rintro e W25 ⟨v25, rfl, hO25, hB25⟩; obtain ⟨A25, c25, e25⟩ := Kd.R_slice hO25; rw [HBL.out] at e25; subst e25; have HO25 := Lib.hid hO25; have HBr := Lib.hid (below_next HBr.out hB25); have hkeep := (HK.out.next (below_next hB.out HBr.out)).cell; have HO22 := Lib.hid (Kd.R_below h22 hB25); clear hO25 hB25 h22)
          | (go_at_call 68; with_reducible show Calls _ _ _ (World.drew wr) _; refine (HBig.out _).mono ?_; rintro e W25 ⟨v25, rfl, hO25, hB25⟩; obtain ⟨A25, c25, e25⟩ := Kd.R_slice hO25; rw [HBL.out] at e25; subst e25; have HO25 := Lib.hid hO25; have HBr := Lib.hid (below_next HBr.out hB25); have hkeep := (HK.out.next (below_next hB.out HBr.out)).cell; clear hO25 hB25)
          | (go_at_call 68; refine (HBig.out _).mono ?_; rintro e W25 ⟨v25, rfl, hO25, hB25⟩; obtain ⟨A25, c25, e25⟩ := Kd.R_slice hO25; rw [HBL.out] at e25; subst e25; have HO25 := Lib.hid hO25; have HBr := Lib.hid (below_next (below_drew (below_alloc (Below.refl _ _) _)) hB25); have hkeep := (HK.out.next (below_next hB.out HBr.out)).cell; have HNE := Lib.hid (own_ne (Kd.R_drew (lit_none wr)) hO25); have HO20 := Lib.hid (Kd.R_below (Kd.R_drew (lit_none wr)) hB25); clear hO25 hB25)))
      all_goals
        obtain ⟨A33, c33, e33⟩ := Kd.R_slice HO32.out
        rw [List.length_append, HSL.out, HKL.out, show 16 * q + 16 = 16 * (q + 1) from by omega] at e33
        subst e33
        try (go_wp2_with fail)
        go_roundw
        case rel => exact ⟨q + 1, A33, c33, rfl, by go_num, by omega, Lib.hid (by rw [sN_succ]; exact HO32.out), HB32⟩
        case measure => simp [intOf]; omega
    · have hO' := Kd.R_reads' hO.out
      have HSL : Hid ((sN key nonce q).length = 16 * q) := Lib.hid (sN_length key nonce HL12.out q)
      rw [HSL.out] at hO'
      have hcap : 16 * q ≤ c := hO'.2.1
      have hmq : m ≤ 16 * q := by omega
      have HC := Lib.hid hO'.2.2
      have HTL : Hid (((sN key nonce q).take m).length = m) := Lib.hid (by rw [List.length_take, HSL.out]; omega)
      clear hO'
      obtain ⟨wo, hwo⟩ : ∃ wo : World, wo = wr := ⟨_, rfl⟩
      subst hwo
      go_wp2_with fail
      go_ret
      exact ⟨q, hmq, A, c, by rw [HTL.out]; rfl, by rw [HTL.out]; omega, Kd.C_take (by rw [HSL.out]; exact HC.out) (by rw [HSL.out]; exact hmq), hB.out⟩
attribute [local irreducible] cN xV
set_option maxHeartbeats 4000000 in
set_option maxRecDepth 100000 in
theorem rcode_any (g : Nat) (key : List Int) (Aw : Option Addr) (cw : Nat) (Ab : Option Addr) (cb : Nat) (A1 : Option Addr) (c1 : Nat) (nonce : List Int) (A2 : Option Addr) (c2 : Nat) (l : List Int) (w : World) (h16 : key.length = 16) (hkb : Bytes key) (h12 : nonce.length = 12) (hnb : Bytes nonce) (hm : l.length ≤ 1000)
    (hK : KeyS w g key Aw cw Ab cb) (hr : Kd.C (Kd.int .u8) w A1 12 nonce) (hc : 12 ≤ c1) (hr2 : Kd.C (Kd.int .u8) w A2 l.length l) (hc2 : l.length ≤ c2) :
    Calls Try.prog 25 #[.pointer (some ⟨g, 0, none⟩), .slice A1 12 c1, .slice A2 l.length c2] w (Go.Proofs.Ytljmjeaocojnmaa.Com.OutB w (xN key nonce l l.length)) := by
  have hS := stream_any g key Aw cw Ab cb A1 c1 nonce l.length w h16 hkb h12 hnb hm hK hr hc
  rw [← cN_all]
  have HS := Lib.hid hS
  have HL12 := Lib.hid h12
  have HR2 := Lib.hid hr2
  obtain ⟨m, hml⟩ : ∃ m, m = l.length := ⟨_, rfl⟩
  have HM := Lib.hid hml
  rw [← hml] at hm hc2 HS HR2 ⊢
  clear hK hr hS h16 hkb h12 hnb hc hr2 hml
  go_enter Try.func25, Try.ntmps25
  go_wp2_with fail
  refine HS.out.mono ?_
  rintro e w1 ⟨n, hn, As, cs, rfl, hcs, hCs, hB1⟩
  have hsl : ((sN key nonce n).take m).length = m := by rw [List.length_take, sN_length _ _ HL12.out]; omega
  rw [hsl] at hcs hCs ⊢
  have HSA : Hid (∀ k, k < m → ((sN key nonce n).take m).getD k 0 = (ksF key nonce (k / 16)).getD (k % 16) 0) := Lib.hid (fun k hk => by
    rw [← sN_at key nonce HL12.out n k (by omega), List.getD_eq_getElem?_getD, List.getElem?_take_of_lt hk, ← List.getD_eq_getElem?_getD])
  obtain ⟨s, hs⟩ : ∃ s, s = (sN key nonce n).take m := ⟨_, rfl⟩
  rw [← hs] at hCs HSA
  have HCs := Lib.hid hCs
  have HB1 := Lib.hid hB1
  have HR21 := Lib.hid (Kd.C_below HR2.out hB1)
  clear hs hsl hCs hB1 hn HS HR2
  go_wp2_with fail
  go_loopw [8, 9] (fun v iv wr => ∃ (k : Nat) (A : Option Addr) (c : Nat), v = .slice A k c ∧ iv = .int .i64 k ∧ k ≤ m ∧ Hid (Kd.R (Kd.int .u8) 5 wr w1.heap.size (fun _ => True) (.slice A k c) (cN key nonce l k)) ∧ Hid (Below w1.heap.size w1 wr)) (fun _ iv _ => m - (intOf iv).toNat)
  case atStart => exact ⟨0, none, 0, rfl, rfl, by omega, Lib.hid (by unfold cN; exact Kd.R_nil _ _ _ _ _), Lib.hid (by first | exact Below.refl _ _ | exact below_drew (Below.refl _ _))⟩
  case round =>
    obtain ⟨k, A, c, rfl, rfl, hk, hO, hB⟩ := hrel
    by_cases hkm : k < m
    · obtain ⟨b2, o2, e2, hcell2⟩ := C_cells HR21.out (by omega)
      obtain ⟨bs, os, es, hcells⟩ := C_cells HCs.out (by omega)
      have hy2 := (hB.out.cell (p := ⟨b2, o2 + k, none⟩) (World.block_lt_of_cell? w1 _ (hcell2 k hkm))).trans (hcell2 k hkm)
      have hys := (hB.out.cell (p := ⟨bs, os + k, none⟩) (World.block_lt_of_cell? w1 _ (hcells k hkm))).trans (hcells k hkm)
      have HY2 := Lib.hid (hcell2 k hkm)
      have HYS := Lib.hid (hcells k hkm)
      obtain ⟨y, hy⟩ : ∃ y, y = l.getD k 0 := ⟨_, rfl⟩
      obtain ⟨z, hz⟩ : ∃ z, z = s.getD k 0 := ⟨_, rfl⟩
      rw [← hy] at hy2 HY2
      rw [← hz] at hys HYS
      have HV : Hid (xV key nonce l k = Go.bits .xor .u8 y z) := Lib.hid (by unfold xV; rw [hy, hz, HSA.out k hkm])
      have HCL : Hid ((cN key nonce l k).length = k) := Lib.hid (cN_length _ _ _ _)
      subst e2 es
      have hk0 : (0 : Int) ≤ (k : Int) := by omega
      clear hcell2 hcells hy hz
      go_wp2_with fail
      go_region_held3 (fun w' => w'.cell? ⟨b2, o2 + k, none⟩ = some (.int .u8 y) ∧ w'.cell? ⟨bs, os + k, none⟩ = some (.int .u8 z))
        (first | go_keep | exact hkeep)
        ((go_loud (refine Kd.R_append_rows_step (Kd.int .u8) (w0 := w1) w1.heap.size (by rfl) (.tmp 21) (.tmp 31) 22 5 (.int .u8 0) 1 (by rfl) Try.underlying22 Go.Proofs.Ytljmjeaocojnmaa.Com.info5 rfl (by decide) (by omega) (.slice A k c) (cN key nonce l k) [Go.bits .xor .u8 y z] _ 1 1 (fun _ => True) (fun _ => False) (by rfl) (by rfl) (by exact Kd.R_drew (Kd.R_alloc hO.out _)) (by exact Kd.C_drew (lit_reads .u8 [Go.bits .xor .u8 y z] rfl rfl (by simp) wr _)) (fun _ _ h => h) (fun _ h => h.elim) (fun _ _ => trivial) (by exact below_drew (below_alloc hB.out _)) (by have := hB.out.size; simp; omega) (by rw [HCL.out]; omega) ?_; intro v9 w9 ho9 hb9 hg9 hat9; have hkeep := And.intro ((hb9.cell (World.block_lt_of_cell? w1 _ HY2.out)).trans HY2.out) ((hb9.cell (World.block_lt_of_cell? w1 _ HYS.out)).trans HYS.out); have HO9 := Lib.hid ho9; have HB9 := Lib.hid hb9; clear ho9 hb9 hg9 hat9)))
      clear hy2 hys
      obtain ⟨A10, c10, e10⟩ := Kd.R_slice HO9.out
      rw [List.length_append, HCL.out] at e10
      subst e10
      try (go_wp2_with fail)
      go_roundw
      case rel => exact ⟨k + 1, A10, c10, rfl, by go_num, by omega, Lib.hid (by rw [cN_succ, HV.out]; exact HO9.out), HB9⟩
      case measure => simp [intOf]; omega
    · have hk' : k = m := by omega
      subst hk'
      obtain ⟨wo, hwo⟩ : ∃ wo : World, wo = wr := ⟨_, rfl⟩
      subst hwo
      go_wp2_with fail
      go_ret
      exact ⟨_, rfl, Kd.R_lower (by have h := hO.out; rw [HM.out] at h; rw [HM.out]; exact h) HB1.out.size, below_next HB1.out hB.out⟩
end Go.Proofs.Ytljmjeaocojnmaa.HCa
end
section
set_option linter.unusedVariables false
set_option linter.unusedSimpArgs false
namespace Go.Proofs.Ytljmjeaocojnmaa.HCa
open Go.RowKit Go.Proofs.YtljmjeaocojnmaaW.PrintWords Go.Proofs.YtljmjeaocojnmaaW.PrintLast Go.Proofs.YtljmjeaocojnmaaW.PrintMore Go.Proofs.Ytljmjeaocojnmaa.Kit Go.Proofs.Ytljmjeaocojnmaa.HAa Go.Proofs.Ytljmjeaocojnmaa.Cb
attribute [local go_sem ↓] Go.wp_at_zero Go.wp_at_succ
attribute [local irreducible] encF xN nN
end Go.Proofs.Ytljmjeaocojnmaa.HCa
end
section
set_option linter.unusedVariables false
set_option linter.unusedSimpArgs false
namespace Go.Proofs.Ytljmjeaocojnmaa.HCa
open Go.RowKit Go.Proofs.YtljmjeaocojnmaaW.PrintWords Go.Proofs.YtljmjeaocojnmaaW.PrintLast Go.Proofs.YtljmjeaocojnmaaW.PrintMore Go.Proofs.Ytljmjeaocojnmaa.Kit Go.Proofs.Ytljmjeaocojnmaa.HAa Go.Proofs.Ytljmjeaocojnmaa.Cb
attribute [local go_sem ↓] Go.wp_at_zero Go.wp_at_succ
attribute [local irreducible] encF xN nN
theorem rnonce_any (b c : Int) (w : World) (hb : -9223372036854775808 ≤ b ∧ b < 9223372036854775808) (hc : 0 ≤ c ∧ c < 18446744073709551616) :
    Calls Try.prog 26 #[.int .i64 b, .int .u64 c] w (Go.Proofs.Ytljmjeaocojnmaa.Com.OutB w (nN (b % 4294967296) c 12)) := by
  exact padlockref04_Nonce.calls 20 b c _ w (nonce_tells b c hc)
end Go.Proofs.Ytljmjeaocojnmaa.HCa
end
