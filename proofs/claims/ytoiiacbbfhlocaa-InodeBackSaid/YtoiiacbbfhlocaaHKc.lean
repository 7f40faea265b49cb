/- Layer 5: codec.Get's walk. -/
import Derived.Test.YtoiiacbbfhlocaaHKb
import Derived.Laws.BitsLemmas
set_option linter.unusedVariables false
set_option linter.unusedSimpArgs false
namespace Go.Proofs.Ytoiiacbbfhlocaa.HKa
open Go.RowKit Go.Shelf Go.Proofs.YtoiiacbbfhlocaaW.PrintWords Go.Proofs.YtoiiacbbfhlocaaW.PrintLast Go.Proofs.YtoiiacbbfhlocaaW.PrintMore Go.Proofs.Ytoiiacbbfhlocaa.Kit Go.Proofs.Ytoiiacbbfhlocaa.Rc
attribute [local go_sem] Oper.semAt_some
theorem info27 : (Try.prog.info? 27).map (fun i => (i.zero, i.size, i.bytes)) = some (some (.int .u64 0), 1, 8) := by kernel_rfl
/-- what the bytes that came make of the number -/
def nI (bs ss : List Int) : Int := (ss.zip bs).foldl (fun a p => Go.bits .or .u64 a (IntKind.u64.wrap (p.2 * 2 ^ p.1.toNat))) 0
theorem nI_snoc (bs ss : List Int) (x b : Int) (rest : List Int) (h : bs.drop ss.length = b :: rest) : nI bs (ss ++ [x]) = Go.bits .or .u64 (nI bs ss) (IntKind.u64.wrap (b * 2 ^ x.toNat)) := by
  have hl : (bs.take ss.length).length = ss.length := by
    rw [List.length_take]
    have : (bs.drop ss.length).length = rest.length + 1 := by rw [h]; rfl
    rw [List.length_drop] at this
    omega
  have hb : bs = bs.take ss.length ++ b :: rest := by rw [← h, List.take_append_drop]
  have hz : (ss ++ [x]).zip bs = ss.zip bs ++ [(x, b)] := by
    rw [hb, List.zip_append (by omega)]
    have h2 : ss.zip (bs.take ss.length ++ b :: rest) = ss.zip (bs.take ss.length) := by
      have h3 := List.zip_append (l₁ := ss) (l₂ := bs.take ss.length) (r₁ := ([] : List Int)) (r₂ := b :: rest) (by omega)
      rw [List.append_nil] at h3
      rw [h3]
      simp
    rw [h2]
    simp
  unfold nI
  rw [hz, List.foldl_append]
  rfl
theorem vN_snoc : ∀ (l : List Int) (x a : Int), vN (l ++ [x]) a = vN l a * 256 + x
  | [], x, a => rfl
  | y :: l, x, a => by simp only [List.cons_append, vN]; exact vN_snoc l x _
theorem vN_range : ∀ (l : List Int) (a : Int) (k : Nat), Bytes l → 0 ≤ a → a < 256 ^ k → 0 ≤ vN l a ∧ vN l a < 256 ^ (k + l.length)
  | [], a, k, _, h0, h1 => ⟨h0, h1⟩
  | x :: l, a, k, h, h0, h1 => by
    have hx := h x List.mem_cons_self
    have h2 := vN_range l (a * 256 + x) (k + 1) (fun y hy => h y (List.mem_cons_of_mem _ hy)) (by omega) (by rw [Int.pow_succ]; omega)
    rw [show k + (x :: l).length = k + 1 + l.length from by simp only [List.length_cons]; omega]
    exact h2
theorem wraps_u64 (n : Int) (h₀ : 0 ≤ n) (h₁ : n < 2 ^ 64) : IntKind.u64.wrap n = n := by rw [IntKind.wrap_u64]; omega
theorem nI_all (m : Nat) (hm : m ≤ 8) (bs : List Int) (hb : Bytes bs) (hl : m ≤ bs.length) : ∀ k, k ≤ m → nI bs (shN m k) = vN (bs.take k) 0 * 256 ^ (m - k)
  | 0, _ => by simp [nI, shN, vN]
  | k + 1, hk => by
    have hd : bs.drop (shN m k).length = bs[k] :: bs.drop (k + 1) := by rw [shN_len]; exact List.drop_eq_getElem_cons (by omega)
    have hx : (8 * ((m : Int) - 1 - (k : Int))).toNat = 8 * (m - (k + 1)) := by omega
    have hbk := hb bs[k] (List.getElem_mem _)
    have hv := vN_range (bs.take k) 0 0 (fun y hy => hb y (List.mem_of_mem_take hy)) (by omega) (by decide)
    rw [List.length_take, Nat.min_eq_left (by omega), Nat.zero_add] at hv
    have hp : (2 : Int) ^ (8 * (m - (k + 1))) = 256 ^ (m - (k + 1)) := by rw [show (256 : Int) = 2 ^ 8 from rfl, ← Int.pow_mul]
    have hQ : (0 : Int) < 256 ^ (m - (k + 1)) := Int.pow_pos (by omega)
    have hsum : (256 : Int) ^ k * 256 ^ (m - k) = 256 ^ m := by rw [← Int.pow_add, show k + (m - k) = m from by omega]
    have h8 := pow_bound m hm
    have hmk : (256 : Int) ^ (m - k) = 256 ^ (m - (k + 1)) * 256 := by rw [← Int.pow_succ, show (m - (k + 1)).succ = m - k from by omega]
    have hle : (256 : Int) ^ (m - k) ≤ 18446744073709551616 := pow_bound (m - k) (by omega)
    have hbq : bs[k] * 256 ^ (m - (k + 1)) < 256 ^ (m - k) := by
      rw [hmk, Int.mul_comm]
      exact Int.mul_lt_mul_of_pos_left hbk.2 hQ
    have hbq0 : 0 ≤ bs[k] * 256 ^ (m - (k + 1)) := Int.mul_nonneg hbk.1 (by omega)
    have hvq : vN (bs.take k) 0 * 256 ^ (m - k) < 18446744073709551616 := by
      have h1 : vN (bs.take k) 0 * 256 ^ (m - k) < 256 ^ k * 256 ^ (m - k) := Int.mul_lt_mul_of_pos_right hv.2 (Int.pow_pos (by omega))
      rw [hsum] at h1
      omega
    have hvq0 : 0 ≤ vN (bs.take k) 0 * 256 ^ (m - k) := Int.mul_nonneg hv.1 (Int.le_of_lt (Int.pow_pos (by omega)))
    rw [shN_succ, nI_snoc bs (shN m k) _ bs[k] (bs.drop (k + 1)) hd, nI_all m hm bs hb hl k (by omega), hx, hp, wraps_u64 _ hbq0 (by omega)]
    rw [bits_join .u64 64 (by decide) wraps_u64 (8 * (m - k)) _ _ hvq0 (by
      rw [show (2 : Int) ^ (8 * (m - k)) = 256 ^ (m - k) from by rw [show (256 : Int) = 2 ^ 8 from rfl, ← Int.pow_mul]]
      exact Int.mul_emod_left _ _) (by omega) hbq0 (by rw [show (2 : Int) ^ (8 * (m - k)) = 256 ^ (m - k) from by rw [show (256 : Int) = 2 ^ 8 from rfl, ← Int.pow_mul]]; exact hbq) (by omega)]
    have htk : bs.take (k + 1) = bs.take k ++ [bs[k]] := by rw [List.take_add_one, List.getElem?_eq_getElem (by omega)]; rfl
    rw [htk, vN_snoc, hmk, Int.add_mul, Int.mul_assoc, Int.mul_comm 256 (256 ^ (m - (k + 1)))]
/-- after all: the number -/
theorem nI_done (m : Nat) (hm : m ≤ 8) (bs : List Int) (hb : Bytes bs) (hl : m ≤ bs.length) : nI bs (shN m m) = vN (bs.take m) 0 := by
  rw [nI_all m hm bs hb hl m (Nat.le_refl _), Nat.sub_self]
  simp
theorem slice_from' {P : Program} (t e : TypeId) (hu : P.underlying t = some (.slice e)) (hi : (P.info? e).map (·.size) = some 1) (A : Option Addr) (n c : Nat) (l : Int) (p : Nat) (hl : l = p) (hpn : p ≤ n) (hnc : n ≤ c) (w : World) :
    (Instr.slice t (.slice A n c) (some (.int .i64 l)) none none).run P w = .ok (.slice (if c = p then A else A.map (·.add p)) (n - p) (c - p)) w := by
  have hel : P.elem t = e := by simp [Program.elem, hu]
  have hut : P.underlying t = some (.slice (P.elem t)) := by rw [hel]; exact hu
  subst hl
  rw [run_slice_l w t A n c hut .i64 (p : Int) (by omega) (by omega), hel]
  cases hz : P.info? e with
  | none => simp [hz] at hi
  | some i =>
    have h1 : i.size = 1 := by simpa [hz] using hi
    simp [sizeOf, typeInfo, hz, h1, sliced, Result.andThen]
theorem row_own {β : Type} {n₀ : Nat} {e : TypeId} {size k : Nat} {v : Value} {xs : List Value} : Own (fun (_ : β) W => W.ownsRow n₀ e size v k xs) := fun s X Y row hr hg hrow =>
  hr.kept hg (by
    rcases hr.2 with ⟨rfl, _⟩ | ⟨g, cap, cur, rfl, _, hgb, _⟩
    · exact .inl rfl
    · refine .inr fun e' => ?_
      obtain ⟨o, ho, hc⟩ := hrow g (by simpa [Value.ownBlock] using e'.symm)
      rw [hgb] at ho; cases ho; cases hc)
/-- the box of the bytes that are left -/
def RestAt (w : World) (gb : Nat) (bs : List Int) (W : World) : Prop := ∃ A c, Boxed W gb 29 (.slice A bs.length c) ∧ Kd.C (Kd.int .u8) w A bs.length bs ∧ bs.length ≤ c
theorem rest_own {β : Type} (w : World) (gb : Nat) (f : β → List Int) : Own (fun s W => RestAt w gb (f s) W) := fun s X Y row ⟨A, c, hv, h1, h2⟩ hg hrow =>
  ⟨A, c, hv.kept hg (fun e' => by obtain ⟨o, ho, hc⟩ := hrow gb e'.symm; rw [show X.heap[gb]? = _ from hv] at ho; cases ho; cases hc), h1, h2⟩
theorem RestAt.kept {w : World} {gb : Nat} {bs : List Int} {W W' : World} (h : RestAt w gb bs W) (hk : W'.heap[gb]? = W.heap[gb]?) : RestAt w gb bs W' := by
  obtain ⟨A, c, hv, h1, h2⟩ := h
  exact ⟨A, c, hk.trans hv, h1, h2⟩
def GetOut (x : List Int × Int) (w : World) (e : Ending) (w' : World) : Prop :=
  ∃ v0_ : Value, e = .returned (.tuple #[v0_, .int .i64 x.2]) ∧ Kd.R (Kd.int .u64) 27 w' w.heap.size (fun _ => True) v0_ x.1 ∧ Below w.heap.size w w'
set_option maxHeartbeats 2000000 in
set_option maxRecDepth 100000 in
theorem get_bad (A0 : Option Addr) (c0 : Nat) (ws : List Int) (A1 : Option Addr) (c1 : Nat) (b : List Int) (w : World) (hr0 : Kd.C (Kd.int .i64) w A0 ws.length ws) (hc0 : ws.length ≤ c0) (hr1 : Kd.C (Kd.int .u8) w A1 b.length b) (hc1 : b.length ≤ c1) (hl : ws.length ≤ 1000) (hneq : (b.length : Int) ≠ wideG ws 0) :
    Calls Try.prog 21 #[.slice A0 ws.length c0, .slice A1 b.length c1] w (GetOut ([], 1) w) := by
  have hW := wide_tells ws hl 0
  refine calls_of_marks Try.func21 rfl ?_
  simp only [Try.ntmps21, List.size_toArray, List.length_cons, List.length_nil, Nat.reduceAdd, Nat.reduceSub, Array.replicate_succ, Array.replicate_zero, List.push_toArray, List.append_toArray, List.nil_append, List.cons_append]
  have hne : ((b.length : Int) != wideG ws 0) = true := by simpa using hneq
  go_wp2_with fail
  have hbx := Boxed.new w 29 (.slice A1 b.length c1)
  have hB1 : Below w.heap.size w (w.alloc (.cells #[.slice A1 b.length c1] 29)) := (Below.refl _ w).alloc (Nat.le_refl _) _
  refine chain_regionN (by kernel_rfl) 5 (by kernel_rfl) ?_
  refine chain_take 0 (.slice A1 b.length c1) rfl (by kernel_rfl) (by kernel_rfl) (by kernel_rfl) (fun _ _ _ h => h) rfl (fun w' hw' => by (have hc0 := (Boxed.cell ((Below.block hw' _ (by simp)).trans hbx)); unfold execOp; simp [go_sem, Act.put, Act.eval, hc0])) ?_
  simp only [Act.put, List.setIfInBounds_toArray, List.set_cons_zero, List.set_cons_succ]
  refine chain_take 1 (.int .i64 b.length) rfl (by kernel_rfl) (by kernel_rfl) (by kernel_rfl) (fun _ _ _ h => h) rfl (fun w' hw' => by (unfold execOp; simp [go_sem, Act.put, Act.eval])) ?_
  simp only [Act.put, List.setIfInBounds_toArray, List.set_cons_zero, List.set_cons_succ]
  refine chain_take 2 (_) rfl (by kernel_rfl) (by kernel_rfl) (by kernel_rfl) (fun _ _ _ h => h) rfl (fun w' hw' => run_move_at _ rfl w') ?_
  simp only [Act.put, List.setIfInBounds_toArray, List.set_cons_zero, List.set_cons_succ]
  refine chain_call 3 rfl (by kernel_rfl) rfl 23 _ _ Try.func23 (by kernel_rfl) rfl _ _ #[.slice A0 ws.length c0] rfl (by simp [Act.put, Act.eval]) (codec_Wide.calls _ A0 c0 ws _ _ (Kd.C_below (Kd.C_below hr0 hB1) (Below.drew (Below.refl _ _))) hc0 hW) ?_
  rintro e W1 ⟨rfl, hD⟩
  have hB2 := hD.below
  clear hD
  refine ⟨_, rfl, hB2, ?_⟩
  simp only [Act.put, List.setIfInBounds_toArray, List.set_cons_zero, List.set_cons_succ]
  refine chain_take 4 (.bool true) rfl (by kernel_rfl) (by kernel_rfl) (by kernel_rfl) (fun _ _ _ h => h) rfl (fun w' hw' => by (have hc0 := hne; unfold execOp; simp [go_sem, Act.put, Act.eval, hc0])) ?_
  simp only [Act.put, List.setIfInBounds_toArray, List.set_cons_zero, List.set_cons_succ]
  refine chain_doneN (by kernel_rfl) ?_
  have hB3 : Below w.heap.size w W1 := below_next (below_next hB1 (Below.drew (Below.refl _ _))) hB2
  go_wp2_with fail
  refine marks_ret [] w.heap.size (fun W => Below w.heap.size w W) rfl (fun _ => results_tmp2 rfl _ _ _) (Marks.nil _) (by simp) hB3 (by intro W D h h1 h2; exact h.trans (belowK_b (w := w) (Nat.le_refl _) W D _ _ h1 h2 rfl rfl)) ?_
  intro W hW
  exact ⟨_, rfl, Kd.R_nil _ _ _ _ _, hW⟩
/-- the world between two rounds -/
def GetAt (w : World) (gb : Nat) (ws : List Int) (i : Nat) (GG out rest : List Int) (Ds : List Nat) (v : Value) (W : World) : Prop :=
  RestAt w gb rest W ∧ W.ownsRow w.heap.size 27 1 v out.length (nums .u64 out) ∧ Marks Ds W ∧ (∀ D ∈ Ds, w.heap.size ≤ D) ∧ Below w.heap.size w W ∧ out.length = i ∧ i ≤ ws.length ∧ Bytes rest ∧ (rest.length : Int) = (ws.drop i).sum ∧ getG (ws.drop i) rest out = GG
set_option maxHeartbeats 2000000 in
set_option maxRecDepth 100000 in
theorem get_go (A0 : Option Addr) (c0 : Nat) (ws : List Int) (A1 : Option Addr) (c1 : Nat) (b : List Int) (w : World) (hr0 : Kd.C (Kd.int .i64) w A0 ws.length ws) (hc0 : ws.length ≤ c0) (hr1 : Kd.C (Kd.int .u8) w A1 b.length b) (hc1 : b.length ≤ c1) (hl : ws.length ≤ 1000) (hb : Bytes b) (heq : (b.length : Int) = wideG ws 0) (GG : List Int) (hGG : GG = getG ws b []) :
    Calls Try.prog 21 #[.slice A0 ws.length c0, .slice A1 b.length c1] w (GetOut (GG, 0) w) := by
  have hW := wide_tells ws hl 0
  refine calls_of_marks Try.func21 rfl ?_
  simp only [Try.ntmps21, List.size_toArray, List.length_cons, List.length_nil, Nat.reduceAdd, Nat.reduceSub, Array.replicate_succ, Array.replicate_zero, List.push_toArray, List.append_toArray, List.nil_append, List.cons_append]
  have hne : ((b.length : Int) != wideG ws 0) = false := by simpa using heq
  have HM := Lib.hid (wideG_all ws 0 (by omega) (by omega))
  have HSum : Hid ((b.length : Int) = ws.sum) := Lib.hid (by rw [heq, wideG_sum ws 0 HM.out]; omega)
  go_wp2_with fail
  have hbx := Boxed.new w 29 (.slice A1 b.length c1)
  have hB1 : Below w.heap.size w (w.alloc (.cells #[.slice A1 b.length c1] 29)) := (Below.refl _ w).alloc (Nat.le_refl _) _
  refine chain_regionN (by kernel_rfl) 5 (by kernel_rfl) ?_
  refine chain_take 0 (.slice A1 b.length c1) rfl (by kernel_rfl) (by kernel_rfl) (by kernel_rfl) (fun _ _ _ h => h) rfl (fun w' hw' => by (have hc0 := (Boxed.cell ((Below.block hw' _ (by simp)).trans hbx)); unfold execOp; simp [go_sem, Act.put, Act.eval, hc0])) ?_
  simp only [Act.put, List.setIfInBounds_toArray, List.set_cons_zero, List.set_cons_succ]
  refine chain_take 1 (.int .i64 b.length) rfl (by kernel_rfl) (by kernel_rfl) (by kernel_rfl) (fun _ _ _ h => h) rfl (fun w' hw' => by (unfold execOp; simp [go_sem, Act.put, Act.eval])) ?_
  simp only [Act.put, List.setIfInBounds_toArray, List.set_cons_zero, List.set_cons_succ]
  refine chain_take 2 (_) rfl (by kernel_rfl) (by kernel_rfl) (by kernel_rfl) (fun _ _ _ h => h) rfl (fun w' hw' => run_move_at _ rfl w') ?_
  simp only [Act.put, List.setIfInBounds_toArray, List.set_cons_zero, List.set_cons_succ]
  refine chain_call 3 rfl (by kernel_rfl) rfl 23 _ _ Try.func23 (by kernel_rfl) rfl _ _ #[.slice A0 ws.length c0] rfl (by simp [Act.put, Act.eval]) (codec_Wide.calls _ A0 c0 ws _ _ (Kd.C_below (Kd.C_below hr0 hB1) (Below.drew (Below.refl _ _))) hc0 hW) ?_
  rintro e W1 ⟨rfl, hD⟩
  have hB2 := hD.below
  clear hD
  refine ⟨_, rfl, hB2, ?_⟩
  simp only [Act.put, List.setIfInBounds_toArray, List.set_cons_zero, List.set_cons_succ]
  refine chain_take 4 (.bool false) rfl (by kernel_rfl) (by kernel_rfl) (by kernel_rfl) (fun _ _ _ h => h) rfl (fun w' hw' => by (have hc0 := hne; unfold execOp; simp [go_sem, Act.put, Act.eval, hc0])) ?_
  simp only [Act.put, List.setIfInBounds_toArray, List.set_cons_zero, List.set_cons_succ]
  refine chain_doneN (by kernel_rfl) ?_
  have HB3 : Hid (Below w.heap.size w W1) := Lib.hid (below_next (below_next hB1 (Below.drew (Below.refl _ _))) hB2)
  have hbx1 : Boxed W1 w.heap.size 29 (.slice A1 b.length c1) := (hB2.block w.heap.size (by simp)).trans hbx
  have HR0 := Lib.hid hr0
  have HR1 := Lib.hid hr1
  have HB := Lib.hid hb
  have hw1 : w.heap.size < W1.heap.size := hbx1.lt
  clear hB1 hB2 hbx hr0 hr1 hb heq hW
  go_wp2_with fail
  refine wp_loop (fun a W => ∃ (i : Nat) (out rest : List Int) (Ds : List Nat) (v u8 u9 u19 u20 u21 u22 u23 u35 u36 u37 u38 u39 : Value), GetAt w w.heap.size ws i GG out rest Ds v W ∧ a = { tmps := #[.slice A0 ws.length c0, .slice A1 b.length c1, undef, .pointer (some ⟨w.heap.size, 0, none⟩), .slice none 0 0, .int .i64 0, v, undef, u8, u9, undef, .slice A1 b.length c1, .int .i64 b.length, .slice A0 ws.length c0, .int .i64 (wideG ws 0), .bool false, .slice A0 ws.length c0, .int .i64 ws.length, .int .i64 (i : Nat), u19, u20, u21, u22, u23, undef, undef, undef, undef, undef, undef, undef, undef, undef, undef, undef, u35, u36, u37, u38, u39, undef], defers := Ds.map mark1 })
    (fun a _ => ws.length - (intOf (a.tmps.getD 18 undef)).toNat) ?_ ?_
  · exact ⟨0, [], b, [], _, _, _, _, _, _, _, _, _, _, _, _, _, ⟨⟨A1, c1, hbx1, HR1.out, hc1⟩, own_nil _ _ _ _, Marks.nil _, by simp, HB3.out, rfl, by omega, HB.out, HSum.out, hGG.symm⟩, rfl⟩
  rintro _ W ⟨i, out, rest, Ds, v, u8, u9, u19, u20, u21, u22, u23, u35, u36, u37, u38, u39, ⟨hrest, hown, hM, hDs, hBW, ho, hi, hrb, hrs, hget⟩, rfl⟩
  have HG := Lib.hid hget
  have HBW := Lib.hid hBW
  have HMk := Lib.hid hM
  have HDs := Lib.hid hDs
  have HO := Lib.hid hown
  have HRS := Lib.hid hrs
  have HRB := Lib.hid hrb
  have HRT := Lib.hid hrest
  have ho' := Lib.hid ho
  clear hget hBW hM hDs hown hGG HSum hrs hrb hrest ho
  by_cases hii : i < ws.length
  rotate_left
  · have hie : i = ws.length := by omega
    subst hie
    rw [List.drop_length] at HG
    have hGo : out = GG := HG.out
    subst hGo
    go_wp2_with fail
    refine marks_ret Ds w.heap.size (fun W => Below w.heap.size w W ∧ W.ownsRow w.heap.size 27 1 v out.length (nums .u64 out)) rfl (fun _ => results_tmp2 rfl _ _ _) HMk.out HDs.out ⟨HBW.out, HO.out⟩ ?_ ?_
    · intro W D h h1 h2
      exact ⟨h.1.trans (belowK_b (w := w) (Nat.le_refl _) W D _ _ h1 h2 rfl rfl), own_put h.2 h2 _⟩
    · intro W hW
      exact ⟨v, rfl, Kd.R_of_own hW.2 (fun _ _ => trivial), hW.1⟩
  obtain ⟨m, hm⟩ : ∃ m : Nat, (m : Int) = ws.getD i 0 := ⟨(ws.getD i 0).toNat, by
    have h := HM.out (ws.getD i 0) (by rw [List.getD_eq_getElem?_getD, List.getElem?_eq_getElem hii]; exact List.getElem_mem hii)
    omega⟩
  have hmr : 1 ≤ m ∧ m ≤ 8 := by
    have h := HM.out (ws.getD i 0) (by rw [List.getD_eq_getElem?_getD, List.getElem?_eq_getElem hii]; exact List.getElem_mem hii)
    omega
  have hdrop : ws.drop i = (m : Int) :: ws.drop (i + 1) := by
    rw [List.drop_eq_getElem_cons hii, hm, List.getD_eq_getElem?_getD, List.getElem?_eq_getElem hii]
    rfl
  have hsum : (0 : Int) ≤ (ws.drop (i + 1)).sum := by
    have h0 : ∀ (l : List Int), (∀ y ∈ l, 1 ≤ y ∧ y ≤ 8) → 0 ≤ l.sum := by
      intro l
      induction l with
      | nil => intro _; simp
      | cons y l ih => intro h; rw [List.sum_cons]; have := ih (fun z hz => h z (List.mem_cons_of_mem _ hz)); have := h y List.mem_cons_self; omega
    exact h0 _ (fun y hy => HM.out y (List.mem_of_mem_drop hy))
  have hrl : (rest.length : Int) = m + (ws.drop (i + 1)).sum := by have h := HRS.out; rw [hdrop, List.sum_cons] at h; exact h
  have hml : m ≤ rest.length := by omega
  have HGs := Lib.hid (show getG (ws.drop (i + 1)) (rest.drop m) (out ++ [vN (rest.take m) 0]) = GG by
    have h := HG.out
    rw [hdrop] at h
    simpa [getG] using h)
  have HRs := Lib.hid (show ((rest.drop m).length : Int) = (ws.drop (i + 1)).sum by rw [List.length_drop]; omega)
  obtain ⟨b0, o0, rfl, hc0'⟩ := C_cells (Kd.C_below HR0.out HBW.out) (by omega)
  have hcw := hc0' i (by omega)
  rw [← hm] at hcw
  clear hm hc0' hdrop hsum hrl
  have hii' : (i : Int) < ws.length := by omega
  go_wp2_with fail
  obtain ⟨gn, hgn⟩ : ∃ g, g = W.heap.size := ⟨_, rfl⟩
  have hvg : ∀ k, v.ownBlock = some k → k < gn := fun k hk => by rw [hgn]; exact own_lt HO.out k hk
  have hgb : w.heap.size < gn := by rw [hgn]; obtain ⟨A, c, hv, _, _⟩ := HRT.out; exact hv.lt
  have hbn := Boxed.new W 27 (.int .u64 0)
  have hBa : Below W.heap.size W (W.alloc (.cells #[.int .u64 0] 27)) := (Below.refl _ W).alloc (Nat.le_refl _) _
  rw [← hgn] at hbn ⊢
  obtain ⟨W2, hW2⟩ : ∃ W2, W2 = W.alloc (.cells #[.int .u64 0] 27) := ⟨_, rfl⟩
  rw [← hW2] at hbn hBa ⊢
  clear hW2
  refine ((callsIn_wide (n := 9)).1 (shifts_in Fence.wide 9 trivial rfl m W2)).mono ?_
  rintro e W3 ⟨rfl, hW3⟩
  have hB23 : Below W2.heap.size W2 W3 := by
    rw [hW3]
    exact (Below.refl _ _).alloc (by simp) _
  have hbs := Boxed.new W2 3 (.int .i64 m)
  rw [← hW3] at hbs
  have hBW3 := below_next hBa hB23
  have HRT3 := Lib.hid (HRT.out.kept (hBW3.block _ (by omega)))
  have HBn3 := Lib.hid (show Boxed W3 gn 27 (.int .u64 0) from (hB23.block _ hbn.lt).trans hbn)
  have HO3 := Lib.hid (pw_own_below HO.out hBW3)
  have HM3 := Lib.hid (HMk.out.below hBW3)
  have HB3' := Lib.hid (below_next HBW.out hBW3)
  have hDl : ∀ D ∈ Ds, D < W3.heap.size := fun D hD => HM3.out.lt hD
  clear hW3 hB23 hBW3 hbn hBa hcw hgn HRT HO HMk HBW HB3 hbx1 hw1 HR1 HB
  go_wp2_with fail
  refine (wpIn_wide (n := 9)).1 ?_
  apply wpIn_rangeFunc_ownF (F := Fence.wide) (n := 9) rfl (by decide) (gf := 119) (lb := #[.pointer (some ⟨W2.heap.size, 0, none⟩)]) rfl trivial (enters_of Try.func119 (by kernel_rfl) rfl)
    (shifts_stops Fence.wide 8 trivial rfl (by decide) W2.heap.size m W3 hbs.lt hbs.cell hmr.2) walksK_t walksK_b (Below.refl _ _) (fun _ => rfl)
    (fun pre W => (((RestAt w w.heap.size (rest.drop pre.length) W ∧ W.ownsRow w.heap.size 27 1 v out.length (nums .u64 out)) ∧ Boxed W gn 27 (.int .u64 (nI rest (pre.map (·.1))))) ∧ Marks Ds W) ∧ Below w.heap.size w W)
    (fun _ _ _ => False)
    (OwnFrom.and (OwnFrom.and (OwnFrom.and (OwnFrom.and (Own.from (rest_own w w.heap.size (fun (pre : List Sh) => rest.drop pre.length)) _) (Own.from row_own _)) (Own.from (boxed_own gn 27 (fun (pre : List Sh) => .int .u64 (nI rest (pre.map (·.1))))) _)) (marks_own _ Ds hDl)) (ownFrom_below (Nat.le_refl _) HB3'.out.size))
    (fun _ _ _ _ _ hs _ _ => hs)
    ⟨⟨⟨⟨HRT3.out, HO3.out⟩, HBn3.out⟩, HM3.out⟩, HB3'.out⟩
  · intro l x W K hK
    gi_wp2
    exact hK
  · rintro lp pre x W ⟨⟨⟨⟨hrest, hrow⟩, hbn⟩, hMM⟩, hBB⟩ hlt
    obtain ⟨x, hx0, hx1⟩ := x
    have HX := Lib.hid (show (0:Int) ≤ x ∧ x < 64 from ⟨hx0, hx1⟩)
    obtain ⟨y, bs, hbs⟩ : ∃ y bs, rest.drop pre.length = y :: bs := ⟨_, _, List.drop_eq_getElem_cons (by omega)⟩
    have hy : 0 ≤ y ∧ y < 256 := HRB.out y (List.mem_of_mem_drop (by rw [hbs]; exact List.mem_cons_self))
    obtain ⟨N, hN⟩ : ∃ N, N = nI rest (pre.map (·.1)) := ⟨_, rfl⟩
    obtain ⟨Z, hZ⟩ : ∃ Z, Z = Go.bits .or .u64 N (IntKind.u64.wrap (y * 2 ^ x.toNat)) := ⟨_, rfl⟩
    have HZ : Hid (Z = nI rest ((pre ++ [(⟨x, hx0, hx1⟩ : Sh)]).map (·.1))) := Lib.hid (by rw [hZ, hN, List.map_append]; exact (nI_snoc rest _ x y bs (by rw [List.length_map]; exact hbs)).symm)
    have HZ2 := Lib.hid hZ
    have HBS : Hid (bs = rest.drop (pre ++ [(⟨x, hx0, hx1⟩ : Sh)]).length) := Lib.hid (by rw [List.length_append, List.length_singleton, ← List.drop_drop, hbs]; rfl)
    rw [hbs] at hrest
    rw [← hN] at hbn
    obtain ⟨A, c, hvb, hC, hc⟩ := hrest
    obtain ⟨bb, oo, rfl, hcs⟩ := C_cells hC (by simp)
    have hy0 := hcs 0 (by simp)
    rw [Nat.add_zero, show (y :: bs).getD 0 0 = y from rfl] at hy0
    have hbb : bb < w.heap.size := cell_lt hy0
    have hy0 := (hBB.cell (p := ⟨bb, oo, none⟩) hbb).trans hy0
    simp only [List.length_cons] at hvb hC hc
    have hAD : ∃ AD, AD = (if c = 1 then some (⟨bb, oo, none⟩ : Addr) else (some (⟨bb, oo, none⟩ : Addr)).map (·.add 1)) := ⟨_, rfl⟩
    obtain ⟨AD, hAD⟩ := hAD
    have HSD := Lib.hid (fun w' => slice_from' (P := Try.prog) 29 5 Try.underlying29 (by kernel_rfl) (some (⟨bb, oo, none⟩ : Addr)) (bs.length + 1) c 1 1 rfl (by omega) hc w')
    have HCD : Hid (Kd.C (Kd.int .u8) w AD bs.length bs) := Lib.hid (by have h := Kd.C_drop (m := 1) (c := c) (xs := y :: bs) hC (by simp) (by simpa using hc); rw [hAD]; exact h)
    rw [← hAD] at HSD
    have hbd := Below.drew (Below.refl W.heap.size W)
    have HVd := Lib.hid (show Boxed W.drew w.heap.size 29 (.slice (some ⟨bb, oo, none⟩) (bs.length + 1) c) from (hbd.block _ hvb.lt).trans hvb)
    have HNd := Lib.hid (show Boxed W.drew gn 27 (.int .u64 N) from (hbd.block _ hbn.lt).trans hbn)
    have HYd := Lib.hid (show W.drew.cell? ⟨bb, oo, none⟩ = some (.int .u8 y) from hy0)
    have HBd := Lib.hid (below_next hBB hbd)
    have HMd := Lib.hid (hMM.below hbd)
    have HRd := Lib.hid (pw_own_below hrow hbd)
    have HKd := Lib.hid (KeepsOthers.drew W)
    have HCC := Lib.hid hc
    clear hBB hMM hrow hvb hbn hy0 hbd hC hcs hAD hc hN hZ hbs
    refine wpIn_block ?_
    refine wpIn_seq ?_
    refine s_region_in lp _ (fun u => Boxed u w.heap.size 29 (.slice (some ⟨bb, oo, none⟩) (bs.length + 1) c) ∧ u.cell? ⟨bb, oo, none⟩ = some (.int .u8 y)) (by kernel_rfl) (by kernel_rfl) (fun ⟨_, _, h⟩ => h) 9 (by kernel_rfl) ⟨HVd.out, HYd.out⟩ (fun hS => ?_)
    obtain ⟨Wd, hWd⟩ : ∃ Wd, Wd = W.drew := ⟨_, rfl⟩
    rw [← hWd] at HVd HNd HBd HMd HRd HKd HYd hS ⊢
    clear hWd
    refine s_take 1 (.slice (some ⟨bb, oo, none⟩) (bs.length + 1) c) hS rfl (by kernel_rfl) (by kernel_rfl) (by kernel_rfl) (fun _ _ _ h => h) rfl (fun w' hw' => by (have hc0 := Boxed.cell hw'.1; unfold execOp; simp [go_sem, Act.put, Act.eval, hc0])) ?_
    simp only [Act.put, List.setIfInBounds_toArray, List.set_cons_zero, List.set_cons_succ]
    refine s_take 2 (.pointer (some ⟨bb, oo, none⟩)) hS rfl (by kernel_rfl) (by kernel_rfl) (by kernel_rfl) (fun _ _ _ h => h) rfl (fun w' hw' => by (unfold execOp; simp [go_sem, Act.put, Act.eval])) ?_
    simp only [Act.put, List.setIfInBounds_toArray, List.set_cons_zero, List.set_cons_succ]
    refine s_take 3 (.int .u8 y) hS rfl (by kernel_rfl) (by kernel_rfl) (by kernel_rfl) (fun _ _ _ h => h) rfl (fun w' hw' => by (have hc0 := hw'.2; unfold execOp; simp [go_sem, Act.put, Act.eval, hc0])) ?_
    simp only [Act.put, List.setIfInBounds_toArray, List.set_cons_zero, List.set_cons_succ]
    refine s_take 4 (.int .u64 y) hS rfl (by kernel_rfl) (by kernel_rfl) (by kernel_rfl) (fun _ _ _ h => h) rfl (fun w' hw' => by (have hc0 := uwrap_id y hy.1 (by omega); unfold execOp; simp [go_sem, Act.put, Act.eval, hc0])) ?_
    simp only [Act.put, List.setIfInBounds_toArray, List.set_cons_zero, List.set_cons_succ]
    refine s_take 5 (_) hS rfl (by kernel_rfl) (by kernel_rfl) (by kernel_rfl) (fun _ _ _ h => h) rfl (fun w' hw' => run_move_at _ rfl w') ?_
    simp only [Act.put, List.setIfInBounds_toArray, List.set_cons_zero, List.set_cons_succ]
    refine s_take 6 (.int .u64 (IntKind.u64.wrap (y * 2 ^ x.toNat))) hS rfl (by kernel_rfl) (by kernel_rfl) (by kernel_rfl) (fun _ _ _ h => h) rfl (fun w' hw' => by (have hc0 := HX.out.1; have hc1 := HX.out.2; have hc2 := hy.1; have hc3 := hy.2; unfold execOp; simp [go_sem, Act.put, Act.eval, hc0, hc1, hc2, hc3])) ?_
    simp only [Act.put, List.setIfInBounds_toArray, List.set_cons_zero, List.set_cons_succ]
    refine s_one 0 rfl (by kernel_rfl) ?_
    refine g_event (.int .u64 N) Wd rfl (by (have hc0 := Boxed.cell HNd.out; unfold execOp; simp [go_sem, Act.put, Act.eval, hc0])) hS (fun hS => ?_)
    simp only [Act.put, List.setIfInBounds_toArray, List.set_cons_zero, List.set_cons_succ]
    refine s_take 7 (.int .u64 Z) hS rfl (by kernel_rfl) (by kernel_rfl) (by kernel_rfl) (fun _ _ _ h => h) rfl (fun w' hw' => by (have hc0 := HZ2.out; unfold execOp; simp [go_sem, Act.put, Act.eval, hc0])) ?_
    simp only [Act.put, List.setIfInBounds_toArray, List.set_cons_zero, List.set_cons_succ]
    have hne : gn ≠ w.heap.size := Nat.ne_of_gt hgb
    refine s_one 8 rfl (by kernel_rfl) ?_
    have hV6 := HVd.out.other (Nat.ne_of_lt hgb) (.int .u64 Z)
    have hY6 : (Wd.setCell ⟨gn, 0, none⟩ (.int .u64 Z)).cell? ⟨bb, oo, none⟩ = some (.int .u8 y) := by rw [World.cell?_setCell_other _ _ _ _ (fun e => by injection e with e1; omega)]; exact HYd.out
    have hN6 := HNd.out.set (.int .u64 Z)
    refine g_skip (Wd.setCell ⟨gn, 0, none⟩ (.int .u64 Z)) rfl (by (have hc0 := HNd.out.cell; have hc1 := HNd.out.frozen; unfold execOp; simp [go_sem, Act.put, Act.eval, hc0, hc1])) ⟨hV6, hY6⟩ (fun hS => ?_)
    simp only [Act.put, List.setIfInBounds_toArray, List.set_cons_zero, List.set_cons_succ]
    refine s_done (by kernel_rfl) ?_
    have hK6 : KeepsOthers Wd (Wd.setCell ⟨gn, 0, none⟩ (.int .u64 Z)) := KeepsOthers.setCell _ _ _
    have hB6 := HBd.out.setCell (p := ⟨gn, 0, none⟩) (Nat.le_of_lt hgb) (.int .u64 Z)
    have hR6 := HRd.out.kept (grownBy_setCell' Wd gn (.int .u64 Z)) (.inr (fun e => absurd (hvg gn e) (Nat.lt_irrefl _)))
    obtain ⟨W6, hW6⟩ : ∃ W6, W6 = Wd.setCell ⟨gn, 0, none⟩ (.int .u64 Z) := ⟨_, rfl⟩
    rw [← hW6] at hV6 hY6 hN6 hK6 hB6 hR6 ⊢
    have hcb := hV6.cell
    have hcf := hV6.frozen
    have hsd := HSD.out
    rw [Nat.add_sub_cancel] at hsd
    have HV6 := Lib.hid hV6
    have HN6 := Lib.hid hN6
    have HK6 := Lib.hid hK6
    have HB6 := Lib.hid hB6
    have HR6 := Lib.hid hR6
    clear hV6 hN6 hK6 hB6 hR6 hW6 hY6 hS HVd HNd HYd HBd HRd HSD
    simp only [Exit.then]
    gi_wp2
    have hKK : KeepsOthers W (W6.setCell ⟨w.heap.size, 0, none⟩ (.slice AD bs.length (c - 1))) := (HKd.out.trans HK6.out).trans (KeepsOthers.setCell _ _ _)
    refine ⟨hKK, hKK.walks, ⟨⟨⟨⟨AD, c - 1, ?_, ?_, ?_⟩, ?_⟩, ?_⟩, ?_⟩, ?_⟩
    · rw [← HBS.out]; exact HV6.out.set _
    · rw [← HBS.out]; exact HCD.out
    · rw [← HBS.out]; have h := HCC.out; omega
    · exact HR6.out.kept (grownBy_setCell' W6 w.heap.size _) (.inr (HV6.out.not_row (by decide) HR6.out).symm)
    · rw [← HZ.out]; exact HN6.out.other hne _
    · exact HMd.out.keep (HK6.out.trans (KeepsOthers.setCell _ _ _))
    · exact HB6.out.setCell (p := ⟨w.heap.size, 0, none⟩) (Nat.le_refl _) _
  · rintro D xs W hD hS ⟨⟨⟨⟨hrest, hrow⟩, hbn⟩, hMM⟩, hBB⟩ hK
    have hxl : xs.length = m := by rw [← List.length_map (f := fun (x : Sh) => x.1), hS, shN_len]
    rw [hS, nI_done m hmr.2 rest HRB.out hml] at hbn
    rw [hxl] at hrest
    have HMD := Lib.hid (hMM.cons hK (fun E hE => Nat.lt_of_lt_of_le (hDl E hE) hD))
    have HBB := Lib.hid hBB
    have HRW := Lib.hid hrow
    have HRE := Lib.hid hrest
    have HD := Lib.hid hD
    have hcn := hbn.cell
    clear hMM hBB hrow hrest hS hD hK hbn
    obtain ⟨N, hN⟩ : ∃ N, N = vN (rest.take m) 0 := ⟨_, rfl⟩
    rw [← hN] at hcn
    have HN := Lib.hid hN
    have hbA := below_alloc (Below.refl W.heap.size W) (.cells #[.int .u64 N] 27)
    have HRA := Lib.hid (pw_own_below HRW.out hbA)
    have HBA := Lib.hid (below_next HBB.out hbA)
    have hKA := Lib.hid (KeepsOthers.alloc W (.cells #[.int .u64 N] 27))
    have HREA := Lib.hid (HRE.out.kept (W' := W.alloc (.cells #[.int .u64 N] 27)) (hbA.block _ (by obtain ⟨A, c, hv, _, _⟩ := HRE.out; exact hv.lt)))
    have HCA := Lib.hid (lit_reads .u64 [N] (cs := #[.int .u64 N]) (n := 1) rfl rfl (by decide) W 27)
    clear hN hbA
    simp only [Exit.inBlock, Exit.then]
    go_wp2_with (first
      | ((with_reducible refine gate_builtin (b := .append) (xs := #[.tmp 35, .tmp 37]) rfl ?_); at_builtin; refine Kd.R_append_row (Value.int .u64) (0 : Int) (h1 := fun _ => rfl) (w0 := w) w.heap.size rfl (.tmp 35) (.tmp 37) 38 27 (.int .u64 0) 8 rfl Try.underlying38 info27 rfl (by decide) v out [N] (some ⟨W.heap.size, 0, none⟩) 1 1 (fun _ => True) rfl rfl (fun _ _ => trivial) (Kd.R_of_own HRA.out (fun _ _ => trivial)) HCA.out HBA.out HBA.out.size (by have h := ho'.out; omega) ?_; intro v1 w5 ho5 hb5 hg5 hat5; have HO5 := Lib.hid (Kd.own_of_R ho5); have HB5 := Lib.hid hb5; have HG5 := Lib.hid hg5; clear ho5 hb5 hg5 hat5)
      | fail)
    have hK5 : KeepsOthers W w5 := hKA.out.trans (KeepsOthers.of_grownBy HG5.out (fun j o ej hj => by obtain ⟨cells, hc⟩ := own_typed HRA.out j ej; rw [hc] at hj; cases hj; rfl))
    refine ⟨⟨i + 1, out ++ [N], rest.drop m, D :: Ds, v1, _, _, _, _, _, _, _, _, _, _, _, _, ⟨?_, HO5.out, HMD.out.keep hK5, ?_, HB5.out, ?_, by omega, ?_, HRs.out, ?_⟩, rfl⟩, ?_⟩
    · obtain ⟨A, c, hv, h1, h2⟩ := HREA.out
      exact ⟨A, c, hv.kept HG5.out (hv.not_row (by decide) HRA.out), h1, h2⟩
    · intro E hE
      rcases List.mem_cons.1 hE with rfl | hE
      · exact Nat.le_trans HB3'.out.size HD.out
      · exact HDs.out E hE
    · rw [List.length_append, ho'.out]; rfl
    · exact fun y hy => HRB.out y (List.mem_of_mem_drop hy)
    · rw [HN.out]; exact HGs.out
    · simp [intOf]; omega
  · rintro D c pre W hD hS h hK
    exact h.elim
theorem get_any (A0 : Option Addr) (c0 : Nat) (ws : List Int) (A1 : Option Addr) (c1 : Nat) (b : List Int) (w : World) (hr0 : Kd.C (Kd.int .i64) w A0 ws.length ws) (hc0 : ws.length ≤ c0) (hr1 : Kd.C (Kd.int .u8) w A1 b.length b) (hc1 : b.length ≤ c1) (hl : ws.length ≤ 1000) (hb : Bytes b) :
    Calls Try.prog 21 #[.slice A0 ws.length c0, .slice A1 b.length c1] w (GetOut (getF ws b) w) := by
  unfold getF
  by_cases h : (b.length : Int) = wideG ws 0
  · rw [if_pos h]
    exact get_go A0 c0 ws A1 c1 b w hr0 hc0 hr1 hc1 hl hb h _ rfl
  · rw [if_neg h]
    exact get_bad A0 c0 ws A1 c1 b w hr0 hc0 hr1 hc1 hl h
end Go.Proofs.Ytoiiacbbfhlocaa.HKa
