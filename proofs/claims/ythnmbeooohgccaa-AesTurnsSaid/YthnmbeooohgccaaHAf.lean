/- Layer 3: the reference's Encrypt; knows; the walk of AesTurns. -/
import Derived.Test.YthnmbeooohgccaaHAe
set_option linter.unusedVariables false
set_option linter.unusedSimpArgs false
namespace Go.Proofs.Ythnmbeooohgccaa.HAa
open Go.RowKit Go.Proofs.YthnmbeooohgccaaW.PrintWords Go.Proofs.YthnmbeooohgccaaW.PrintLast Go.Proofs.YthnmbeooohgccaaW.PrintMore Go.Proofs.Ythnmbeooohgccaa.Kit Go.Proofs.Ythnmbeooohgccaa.Ra
attribute [local go_sem ↓] Go.wp_at_zero Go.wp_at_succ
def RowOut (w : World) (r : List Int) (e : Ending) (w' : World) : Prop :=
  ∃ v : Value, e = .returned v ∧ Kd.R (Kd.int .u8) 5 w' w.heap.size (fun _ => True) v r ∧ Below w.heap.size w w'
def TellsT (w : World) (e : Ending) (w' : World) : Prop := e = .returned (.bool true) ∧ Below w.heap.size w w'
theorem encF_length (key block : List Int) (h : block.length = 16) : (encF key block).length = 16 := by unfold encF; rw [encN_length, h]
attribute [local irreducible] encF Wl keyN boxT
set_option maxHeartbeats 1000000 in
set_option maxRecDepth 100000 in
theorem rencrypt_any (gk ok0 ck : Nat) (Tk : TypeId) (A1 : Option Addr) (c1 : Nat) (key block : List Int) (w : World) (h16 : key.length = 16) (hb16 : block.length = 16) (hkb : Bytes key) (hbb : Bytes block)
    (hk : Kd.C (Kd.int .u8) w (some ⟨gk, ok0, none⟩) 16 key) (hck : 16 ≤ ck) (hkt : ∃ cells, w.heap[gk]? = some (.cells cells Tk (0, 0))) (hb : Kd.C (Kd.int .u8) w A1 16 block) (hc1 : 16 ≤ c1) :
    Calls Try.prog 61 #[.slice (some ⟨gk, ok0, none⟩) 16 ck, .slice A1 16 c1] w (RowOut w (encF key block)) := by
  have HK := Lib.hid hk
  have HT := Lib.hid hkt
  have HB := Lib.hid hb
  have HL16 := Lib.hid h16
  have HLB := Lib.hid hb16
  have hgk : gk < w.heap.size := by obtain ⟨_, h⟩ := hkt; exact (Array.getElem?_eq_some_iff.1 h).1
  obtain ⟨K, hK⟩ := turned_tells (keyN key boxT 40) (Wl (keyN key boxT 40) 44) (Wl_words _) (keyN_b key boxT hkb boxT_b 40) boxT block boxT_length boxT_b hb16 hbb
  have HKT : Hid (padlockref03_Turned.f K (Wl (keyN key boxT 40) 44) block boxT = some (encF key block)) := Lib.hid (by rw [hK]; unfold encF; rfl)
  clear hk hkt hb h16 hb16 hK
  go_enter Try.func61, Try.ntmps61
  go_wp2_with fail
  refine (padlockref03_Box.calls 557 boxT _ box_tells).mono ?_
  rintro e w1 ⟨v1, rfl, hO1, hB1⟩
  obtain ⟨Ab, cb, e1⟩ := Kd.R_slice hO1
  rw [boxT_length] at e1
  subst e1
  obtain ⟨-, hcb, hCb⟩ := Kd.R_reads' hO1
  rw [boxT_length] at hCb
  have HCb := Lib.hid hCb
  have HB1 := Lib.hid hB1
  have hW := words_any gk ok0 ck Tk Ab cb key boxT w1 HL16.out boxT_length hkb boxT_b (Kd.C_below HK.out hB1) hck (by obtain ⟨cells, h⟩ := HT.out; exact ⟨cells, (hB1.block gk hgk).trans h⟩) hCb hcb
  have HW := Lib.hid hW
  clear hO1 hB1 hCb hW
  go_wp2_with fail
  refine HW.out.mono ?_
  rintro e w2 ⟨Aw, cw, rfl, hcw, hCw, hB2⟩
  have hT := padlockref03_Turned.calls K Aw cw (Wl (keyN key boxT 40) 44) A1 c1 block Ab cb boxT (encF key block) w2 hCw hcw (by rw [HLB.out]; exact Kd.C_below (Kd.C_below HB.out HB1.out) hB2) (by rw [HLB.out]; exact hc1) (by rw [boxT_length]; exact Kd.C_below HCb.out hB2) (by rw [boxT_length]; exact hcb) HKT.out
  rw [HLB.out, boxT_length] at hT
  have HTu := Lib.hid hT
  have HB2 := Lib.hid (below_next HB1.out hB2)
  clear hCw hB2 hT
  go_wp2_with fail
  refine HTu.out.mono ?_
  rintro e w3 ⟨v3, rfl, hO3, hB3⟩
  have HO3 := Lib.hid hO3
  have HB3 := Lib.hid hB3
  clear hO3 hB3
  go_wp2_with fail
  go_ret
  exact ⟨v3, rfl, Kd.R_lower HO3.out HB2.out.size, below_next HB2.out HB3.out⟩

/-! knows -/
def kK : List Int := [0, 1, 2, 3, 4, 5, 6, 7, 8, 9, 10, 11, 12, 13, 14, 15]
def kB : List Int := [0, 17, 34, 51, 68, 85, 102, 119, 136, 153, 170, 187, 204, 221, 238, 255]
set_option maxRecDepth 100000 in
theorem enc_knows : (encF kK kB).getD 0 0 = 105 ∧ (encF kK kB).getD 1 0 = 196 ∧ (encF kK kB).getD 15 0 = 90 := by decide +kernel
end Go.Proofs.Ythnmbeooohgccaa.HAa
