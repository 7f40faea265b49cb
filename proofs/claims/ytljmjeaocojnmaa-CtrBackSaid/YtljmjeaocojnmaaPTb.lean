/- Layer 4: plain laws of the stream and of what is hidden. -/
import Derived.Test.YtljmjeaocojnmaaHAd
import Derived.Test.YtljmjeaocojnmaaPTa
set_option linter.unusedVariables false
set_option linter.unusedSimpArgs false
namespace Go.Proofs.Ytljmjeaocojnmaa.HCa
open Go.RowKit Go.Proofs.Ytljmjeaocojnmaa.Kit Go.Proofs.Ytljmjeaocojnmaa.HAa
/-- a block's number, four bytes -/
def bg4 (q : Nat) : List Int := [(q : Int) / 16777216 % 256, (q : Int) / 65536 % 256, (q : Int) / 256 % 256, (q : Int) % 256]
def ksF (key nonce : List Int) (q : Nat) : List Int := encF key (nonce ++ bg4 q)
def xV (key nonce l : List Int) (i : Nat) : Int := Go.bits .xor .u8 (l.getD i 0) ((ksF key nonce (i / 16)).getD (i % 16) 0)
/-- the first m bytes turned -/
def xN (key nonce l : List Int) (m : Nat) : List Int := (List.range l.length).map fun i => if i < m then xV key nonce l i else l.getD i 0
theorem xN_length (key nonce l : List Int) (m : Nat) : (xN key nonce l m).length = l.length := by simp [xN]
theorem xN_zero (key nonce l : List Int) : xN key nonce l 0 = l := by
  refine List.ext_getElem (by simp [xN]) (fun i h1 h2 => ?_)
  simp [xN, List.getD, List.getElem?_eq_getElem h2]
theorem xN_at (key nonce l : List Int) (m : Nat) (h : m < l.length) : (xN key nonce l m).getD m 0 = l.getD m 0 := by
  simp [xN, List.getD, h]
theorem xN_succ (key nonce l : List Int) (m : Nat) (h : m < l.length) : xN key nonce l (m + 1) = (xN key nonce l m).set m (xV key nonce l m) := by
  refine List.ext_getElem (by simp [xN]) (fun i h1 h2 => ?_)
  simp only [xN, List.getElem_map, List.getElem_range, List.getElem_set]
  by_cases hik : m = i
  · subst hik
    simp
  · rw [if_neg hik]
    by_cases h3 : i < m
    · rw [if_pos h3, if_pos (by omega)]
    · rw [if_neg h3, if_neg (by omega)]
theorem xN_past (key nonce l : List Int) (m : Nat) (h : l.length ≤ m) : xN key nonce l m = xN key nonce l l.length := by
  refine List.ext_getElem (by simp [xN]) (fun i h1 h2 => ?_)
  have : i < l.length := by rw [xN_length] at h1; exact h1
  simp only [xN, List.getElem_map, List.getElem_range]
  rw [if_pos (by omega), if_pos this]
theorem set_tail (a t : List Int) (h : a.length = 12) (j : Nat) (x : Int) : (a ++ t).set (12 + j) x = a ++ t.set j x := by
  rw [List.set_append, if_neg (by omega), h, Nat.add_sub_cancel_left]
theorem encF_b (key block : List Int) (hk : Bytes key) (hb : Bytes block) : Bytes (encF key block) := by unfold encF; exact encN_b _ _ _ (keyN_b _ _ hk boxT_b _) boxT_b hb _
theorem encF_len (key block : List Int) (h : block.length = 16) : (encF key block).length = 16 := by unfold encF; rw [encN_length, h]
theorem bg4_length (q : Nat) : (bg4 q).length = 4 := rfl
theorem bg4_bytes (q : Nat) : Bytes (bg4 q) := by
  intro x hx
  simp only [bg4, List.mem_cons, List.not_mem_nil, or_false] at hx
  omega
theorem bg4_big (q : Nat) (h : q < 4294967296) : bigL q 4 = bg4 q := by
  unfold bg4 bigL bigL bigL bigL bigL
  have e1 : (q : Int) / 256 / 256 / 256 % 256 = (q : Int) / 16777216 % 256 := by omega
  have e2 : (q : Int) / 256 / 256 % 256 = (q : Int) / 65536 % 256 := by omega
  simp only [List.nil_append, List.cons_append, e1, e2]
theorem ksF_length (key nonce : List Int) (q : Nat) (h : nonce.length = 12) : (ksF key nonce q).length = 16 := by
  unfold ksF
  exact encF_len _ _ (by rw [List.length_append, h]; rfl)
/-- n blocks of the stream -/
def sN (key nonce : List Int) : Nat → List Int
  | 0 => []
  | n + 1 => sN key nonce n ++ ksF key nonce n
theorem sN_length (key nonce : List Int) (h : nonce.length = 12) : ∀ n, (sN key nonce n).length = 16 * n
  | 0 => rfl
  | n + 1 => by rw [sN, List.length_append, sN_length key nonce h n, ksF_length _ _ _ h]; omega
theorem sN_at (key nonce : List Int) (h : nonce.length = 12) : ∀ n i, i < 16 * n → (sN key nonce n).getD i 0 = (ksF key nonce (i / 16)).getD (i % 16) 0
  | 0, i, hi => by omega
  | n + 1, i, hi => by
    rw [sN, List.getD_eq_getElem?_getD]
    by_cases h1 : i < 16 * n
    · rw [List.getElem?_append_left (by rw [sN_length _ _ h]; exact h1), ← List.getD_eq_getElem?_getD, sN_at key nonce h n i h1]
    · rw [List.getElem?_append_right (by rw [sN_length _ _ h]; omega), sN_length _ _ h, ← List.getD_eq_getElem?_getD, show i / 16 = n from by omega, show i % 16 = i - 16 * n from by omega]
/-- the first m bytes, turned -/
def cN (key nonce l : List Int) (m : Nat) : List Int := (List.range m).map (xV key nonce l)
theorem cN_length (key nonce l : List Int) (m : Nat) : (cN key nonce l m).length = m := by simp [cN]
theorem cN_succ (key nonce l : List Int) (m : Nat) : cN key nonce l (m + 1) = cN key nonce l m ++ [xV key nonce l m] := by
  unfold cN
  rw [List.range_succ, List.map_append]
  rfl
theorem cN_all (key nonce l : List Int) : cN key nonce l l.length = xN key nonce l l.length := by
  refine List.ext_getElem (by simp [cN, xN]) (fun i h1 h2 => ?_)
  rw [cN_length] at h1
  simp [cN, xN, h1]
theorem xN_get (key nonce l : List Int) (i : Nat) (h : i < l.length) : (xN key nonce l l.length).getD i 0 = xV key nonce l i := by
  simp [xN, List.getD, h]
theorem xor_back (a b : Int) (ha : Byte a) (hb : Byte b) : Go.bits .xor .u8 (Go.bits .xor .u8 a b) b = a := by
  obtain ⟨a', rfl⟩ := Int.eq_ofNat_of_zero_le ha.1
  obtain ⟨b', rfl⟩ := Int.eq_ofNat_of_zero_le hb.1
  have h1 : a' < 256 := by have := ha.2; omega
  have h2 : b' < 256 := by have := hb.2; omega
  have hx : a' ^^^ b' < 2 ^ 8 := Nat.xor_lt_two_pow h1 h2
  rw [Go.Proofs.Ytljmjeaocojnmaa.Kit.bxor8 _ _ h1 h2, Go.Proofs.Ytljmjeaocojnmaa.Kit.bxor8 _ _ hx h2, Nat.xor_assoc, Nat.xor_self, Nat.xor_zero]
theorem ksF_bytes (key nonce : List Int) (q : Nat) (hn : nonce.length = 12) (hkb : Bytes key) (hnb : Bytes nonce) : Bytes (ksF key nonce q) := by
  unfold ksF
  refine encF_b _ _ hkb (fun y hy => ?_)
  rcases List.mem_append.1 hy with h | h
  · exact hnb y h
  · exact bg4_bytes q y h
theorem xV_b (key nonce l : List Int) (i : Nat) (hn : nonce.length = 12) (hkb : Bytes key) (hnb : Bytes nonce) (hl : Bytes l) : Byte (xV key nonce l i) :=
  bxor_b _ _ (byte_at hl i) (byte_at (ksF_bytes key nonce _ hn hkb hnb) _)
theorem xN_bytes (key nonce l : List Int) (hn : nonce.length = 12) (hkb : Bytes key) (hnb : Bytes nonce) (hl : Bytes l) : Bytes (xN key nonce l l.length) := by
  rw [← cN_all]
  intro y hy
  unfold cN at hy
  obtain ⟨i, -, rfl⟩ := List.mem_map.1 hy
  exact xV_b key nonce l i hn hkb hnb hl
/-- what was hidden is shown by the same key and nonce -/
theorem xN_back (key nonce l : List Int) (hn : nonce.length = 12) (hkb : Bytes key) (hnb : Bytes nonce) (hl : Bytes l) :
    xN key nonce (xN key nonce l l.length) l.length = l := by
  refine List.ext_getElem (by rw [xN_length, xN_length]) (fun i h1 h2 => ?_)
  have e : (xN key nonce (xN key nonce l l.length) l.length)[i] = xV key nonce (xN key nonce l l.length) i := by
    have h := xN_get key nonce (xN key nonce l l.length) i (by rw [xN_length]; exact h2)
    rw [xN_length] at h
    rw [← h, List.getD_eq_getElem?_getD, List.getElem?_eq_getElem h1]
    rfl
  rw [e]
  unfold xV
  rw [xN_get _ _ _ _ h2]
  unfold xV
  rw [xor_back _ _ (byte_at hl i) (byte_at (ksF_bytes key nonce _ hn hkb hnb) _), List.getD_eq_getElem?_getD, List.getElem?_eq_getElem h2]
  rfl
/-- a beginning is hidden as the beginning of the whole -/
theorem xN_take (key nonce l : List Int) (m : Nat) (h : m ≤ l.length) : xN key nonce (l.take m) (l.take m).length = (xN key nonce l l.length).take m := by
  have hm : (l.take m).length = m := by rw [List.length_take]; omega
  refine List.ext_getElem (by rw [xN_length, List.length_take, List.length_take, xN_length]) (fun i h1 h2 => ?_)
  rw [xN_length, hm] at h1
  rw [List.getElem_take]
  have e1 : (xN key nonce (l.take m) (l.take m).length).getD i 0 = xV key nonce (l.take m) i := xN_get _ _ _ _ (by rw [hm]; exact h1)
  have e2 : (xN key nonce l l.length).getD i 0 = xV key nonce l i := xN_get _ _ _ _ (by omega)
  rw [List.getD_eq_getElem?_getD, List.getElem?_eq_getElem (by rw [xN_length, hm]; exact h1)] at e1
  rw [List.getD_eq_getElem?_getD, List.getElem?_eq_getElem (by rw [xN_length]; omega)] at e2
  simp only [Option.getD_some] at e1 e2
  rw [e1, e2]
  unfold xV
  rw [List.getD_eq_getElem?_getD, List.getElem?_take_of_lt h1, ← List.getD_eq_getElem?_getD]
end Go.Proofs.Ytljmjeaocojnmaa.HCa
