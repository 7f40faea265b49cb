/- Texts of this claim, laid together by a program of this session (wip/tools/pack.py); the print's own words among them are those that print.sh OWN=1 lays for the claim, as far as they are named. -/
import Derived.Test.YtoiiacbbfhlocaaQB
import Derived.Test.YtoiiacbbfhlocaaQE
section
section
/- Layer 1's constants: some of the reference's roots, reckoned by the kernel. -/
set_option linter.unusedVariables false
namespace Go.Proofs.Ytoiiacbbfhlocaa.HSa
open Go.RowKit Go.Proofs.YtoiiacbbfhlocaaW.PrintWords Go.Proofs.Ytoiiacbbfhlocaa.Sa
set_option maxRecDepth 100000
theorem root_2 : padlockref01_Root.f 250 2 true = some 1116352408 := by decide +kernel
theorem sqrt_2 : padlockref01_Root.f 250 2 false = some 1779033703 := by decide +kernel
theorem root_3 : padlockref01_Root.f 250 3 true = some 1899447441 := by decide +kernel
theorem sqrt_3 : padlockref01_Root.f 250 3 false = some 3144134277 := by decide +kernel
theorem root_5 : padlockref01_Root.f 250 5 true = some 3049323471 := by decide +kernel
theorem sqrt_5 : padlockref01_Root.f 250 5 false = some 1013904242 := by decide +kernel
theorem root_7 : padlockref01_Root.f 250 7 true = some 3921009573 := by decide +kernel
theorem sqrt_7 : padlockref01_Root.f 250 7 false = some 2773480762 := by decide +kernel
theorem root_11 : padlockref01_Root.f 250 11 true = some 961987163 := by decide +kernel
theorem sqrt_11 : padlockref01_Root.f 250 11 false = some 1359893119 := by decide +kernel
theorem root_13 : padlockref01_Root.f 250 13 true = some 1508970993 := by decide +kernel
theorem sqrt_13 : padlockref01_Root.f 250 13 false = some 2600822924 := by decide +kernel
theorem root_17 : padlockref01_Root.f 250 17 true = some 2453635748 := by decide +kernel
theorem sqrt_17 : padlockref01_Root.f 250 17 false = some 528734635 := by decide +kernel
theorem root_19 : padlockref01_Root.f 250 19 true = some 2870763221 := by decide +kernel
theorem sqrt_19 : padlockref01_Root.f 250 19 false = some 1541459225 := by decide +kernel
theorem root_23 : padlockref01_Root.f 250 23 true = some 3624381080 := by decide +kernel
theorem root_29 : padlockref01_Root.f 250 29 true = some 310598401 := by decide +kernel
theorem root_31 : padlockref01_Root.f 250 31 true = some 607225278 := by decide +kernel
theorem root_37 : padlockref01_Root.f 250 37 true = some 1426881987 := by decide +kernel
theorem root_41 : padlockref01_Root.f 250 41 true = some 1925078388 := by decide +kernel
end Go.Proofs.Ytoiiacbbfhlocaa.HSa
end
section
/- Layer 1's constants: some of the reference's roots, reckoned by the kernel. -/
set_option linter.unusedVariables false
namespace Go.Proofs.Ytoiiacbbfhlocaa.HSa
open Go.RowKit Go.Proofs.YtoiiacbbfhlocaaW.PrintWords Go.Proofs.Ytoiiacbbfhlocaa.Sa
set_option maxRecDepth 100000
theorem root_43 : padlockref01_Root.f 250 43 true = some 2162078206 := by decide +kernel
theorem root_47 : padlockref01_Root.f 250 47 true = some 2614888103 := by decide +kernel
theorem root_53 : padlockref01_Root.f 250 53 true = some 3248222580 := by decide +kernel
theorem root_59 : padlockref01_Root.f 250 59 true = some 3835390401 := by decide +kernel
theorem root_61 : padlockref01_Root.f 250 61 true = some 4022224774 := by decide +kernel
theorem root_67 : padlockref01_Root.f 250 67 true = some 264347078 := by decide +kernel
theorem root_71 : padlockref01_Root.f 250 71 true = some 604807628 := by decide +kernel
theorem root_73 : padlockref01_Root.f 250 73 true = some 770255983 := by decide +kernel
theorem root_79 : padlockref01_Root.f 250 79 true = some 1249150122 := by decide +kernel
theorem root_83 : padlockref01_Root.f 250 83 true = some 1555081692 := by decide +kernel
theorem root_89 : padlockref01_Root.f 250 89 true = some 1996064986 := by decide +kernel
theorem root_97 : padlockref01_Root.f 250 97 true = some 2554220882 := by decide +kernel
theorem root_101 : padlockref01_Root.f 250 101 true = some 2821834349 := by decide +kernel
end Go.Proofs.Ytoiiacbbfhlocaa.HSa
end
section
/- Layer 1's constants: some of the reference's roots, reckoned by the kernel. -/
set_option linter.unusedVariables false
namespace Go.Proofs.Ytoiiacbbfhlocaa.HSa
open Go.RowKit Go.Proofs.YtoiiacbbfhlocaaW.PrintWords Go.Proofs.Ytoiiacbbfhlocaa.Sa
set_option maxRecDepth 100000
theorem root_103 : padlockref01_Root.f 250 103 true = some 2952996808 := by decide +kernel
theorem root_107 : padlockref01_Root.f 250 107 true = some 3210313671 := by decide +kernel
theorem root_109 : padlockref01_Root.f 250 109 true = some 3336571891 := by decide +kernel
theorem root_113 : padlockref01_Root.f 250 113 true = some 3584528711 := by decide +kernel
theorem root_127 : padlockref01_Root.f 250 127 true = some 113926993 := by decide +kernel
theorem root_131 : padlockref01_Root.f 250 131 true = some 338241895 := by decide +kernel
theorem root_137 : padlockref01_Root.f 250 137 true = some 666307205 := by decide +kernel
theorem root_139 : padlockref01_Root.f 250 139 true = some 773529912 := by decide +kernel
theorem root_149 : padlockref01_Root.f 250 149 true = some 1294757372 := by decide +kernel
theorem root_151 : padlockref01_Root.f 250 151 true = some 1396182291 := by decide +kernel
theorem root_157 : padlockref01_Root.f 250 157 true = some 1695183700 := by decide +kernel
theorem root_163 : padlockref01_Root.f 250 163 true = some 1986661051 := by decide +kernel
theorem root_167 : padlockref01_Root.f 250 167 true = some 2177026350 := by decide +kernel
end Go.Proofs.Ytoiiacbbfhlocaa.HSa
end
section
/- Layer 1's constants: some of the reference's roots, reckoned by the kernel. -/
set_option linter.unusedVariables false
namespace Go.Proofs.Ytoiiacbbfhlocaa.HSa
open Go.RowKit Go.Proofs.YtoiiacbbfhlocaaW.PrintWords Go.Proofs.Ytoiiacbbfhlocaa.Sa
set_option maxRecDepth 100000
theorem root_173 : padlockref01_Root.f 250 173 true = some 2456956037 := by decide +kernel
theorem root_179 : padlockref01_Root.f 250 179 true = some 2730485921 := by decide +kernel
theorem root_181 : padlockref01_Root.f 250 181 true = some 2820302411 := by decide +kernel
theorem root_191 : padlockref01_Root.f 250 191 true = some 3259730800 := by decide +kernel
theorem root_193 : padlockref01_Root.f 250 193 true = some 3345764771 := by decide +kernel
theorem root_197 : padlockref01_Root.f 250 197 true = some 3516065817 := by decide +kernel
theorem root_199 : padlockref01_Root.f 250 199 true = some 3600352804 := by decide +kernel
theorem root_211 : padlockref01_Root.f 250 211 true = some 4094571909 := by decide +kernel
theorem root_223 : padlockref01_Root.f 250 223 true = some 275423344 := by decide +kernel
theorem root_227 : padlockref01_Root.f 250 227 true = some 430227734 := by decide +kernel
theorem root_229 : padlockref01_Root.f 250 229 true = some 506948616 := by decide +kernel
theorem root_233 : padlockref01_Root.f 250 233 true = some 659060556 := by decide +kernel
theorem root_239 : padlockref01_Root.f 250 239 true = some 883997877 := by decide +kernel
end Go.Proofs.Ytoiiacbbfhlocaa.HSa
end
section
/- Layer 1's constants: some of the reference's roots, reckoned by the kernel. -/
set_option linter.unusedVariables false
namespace Go.Proofs.Ytoiiacbbfhlocaa.HSa
open Go.RowKit Go.Proofs.YtoiiacbbfhlocaaW.PrintWords Go.Proofs.Ytoiiacbbfhlocaa.Sa
set_option maxRecDepth 100000
theorem root_241 : padlockref01_Root.f 250 241 true = some 958139571 := by decide +kernel
theorem root_251 : padlockref01_Root.f 250 251 true = some 1322822218 := by decide +kernel
theorem root_257 : padlockref01_Root.f 250 257 true = some 1537002063 := by decide +kernel
theorem root_263 : padlockref01_Root.f 250 263 true = some 1747873779 := by decide +kernel
theorem root_269 : padlockref01_Root.f 250 269 true = some 1955562222 := by decide +kernel
theorem root_271 : padlockref01_Root.f 250 271 true = some 2024104815 := by decide +kernel
theorem root_277 : padlockref01_Root.f 250 277 true = some 2227730452 := by decide +kernel
theorem root_281 : padlockref01_Root.f 250 281 true = some 2361852424 := by decide +kernel
theorem root_283 : padlockref01_Root.f 250 283 true = some 2428436474 := by decide +kernel
theorem root_293 : padlockref01_Root.f 250 293 true = some 2756734187 := by decide +kernel
theorem root_307 : padlockref01_Root.f 250 307 true = some 3204031479 := by decide +kernel
theorem root_311 : padlockref01_Root.f 250 311 true = some 3329325298 := by decide +kernel
end Go.Proofs.Ytoiiacbbfhlocaa.HSa
end
section
/- Layer 1's constants: the reference's are those of the program. -/
set_option linter.unusedVariables false
namespace Go.Proofs.Ytoiiacbbfhlocaa.HSa
open Go.RowKit Go.Proofs.YtoiiacbbfhlocaaW.PrintWords Go.Proofs.Ytoiiacbbfhlocaa.Sa
theorem root_more (n : Int) (b : Bool) (v : Int) (h : padlockref01_Root.f 250 n b = some v) : ∀ d, padlockref01_Root.f (250 + d) n b = some v
  | 0 => h
  | d + 1 => by
    have := padlockref01_Root.mono n b (250 + d)
    exact this v (root_more n b v h d)
theorem prime_more (n : Int) (v : Bool) (h : padlockref01_Prime.f 250 n = some v) : ∀ d, padlockref01_Prime.f (250 + d) n = some v
  | 0 => h
  | d + 1 => by
    have := padlockref01_Prime.mono n (250 + d)
    exact this v (prime_more n v h d)
theorem step_no (k : Nat) (r c : List Int) (n : Int) (hc : c.length < 64) (hn : 0 ≤ n ∧ n < 1000) (hp : padlockref01_Prime.f 250 n = some false) : padlockref01_Constants.l0 (250 + k + 1) r c n = padlockref01_Constants.l0 (250 + k) r c (n + 1) := by
  generalize hK : 250 + k = K
  simp only [padlockref01_Constants.l0]
  subst hK
  rw [if_pos (by omega), prime_more n false hp k]
  simp only [Option.bind_some]
  rw [if_neg (by simp), show IntKind.u64.wrap (n + 1) = n + 1 from by rw [IntKind.wrap_u64]; omega]
theorem step_yes (k : Nat) (r c : List Int) (n v : Int) (hc : c.length < 64) (hr : r.length = 8) (hn : 0 ≤ n ∧ n < 1000) (hp : padlockref01_Prime.f 250 n = some true) (hv : padlockref01_Root.f 250 n true = some v) : padlockref01_Constants.l0 (250 + k + 1) r c n = padlockref01_Constants.l0 (250 + k) r (c ++ [v]) (n + 1) := by
  generalize hK : 250 + k = K
  simp only [padlockref01_Constants.l0]
  subst hK
  rw [if_pos (by omega), prime_more n true hp k]
  simp only [Option.bind_some]
  rw [if_pos trivial, if_neg (by omega), root_more n true v hv k]
  simp only [Option.bind_some]
  rw [if_pos (by omega), show IntKind.u64.wrap (n + 1) = n + 1 from by rw [IntKind.wrap_u64]; omega]
theorem step_yes8 (k : Nat) (r c : List Int) (n v u : Int) (hc : c.length < 64) (hr : r.length < 8) (hn : 0 ≤ n ∧ n < 1000) (hp : padlockref01_Prime.f 250 n = some true) (hv : padlockref01_Root.f 250 n true = some v) (hu : padlockref01_Root.f 250 n false = some u) : padlockref01_Constants.l0 (250 + k + 1) r c n = padlockref01_Constants.l0 (250 + k) (r ++ [u]) (c ++ [v]) (n + 1) := by
  generalize hK : 250 + k = K
  simp only [padlockref01_Constants.l0]
  subst hK
  rw [if_pos (by omega), prime_more n true hp k]
  simp only [Option.bind_some]
  rw [if_pos trivial, if_pos (by omega), root_more n false u hu k]
  simp only [Option.bind_some]
  rw [if_pos (by omega), root_more n true v hv k]
  simp only [Option.bind_some]
  rw [if_pos (by omega), show IntKind.u64.wrap (n + 1) = n + 1 from by rw [IntKind.wrap_u64]; omega]
theorem step_end (k : Nat) (r c : List Int) (n : Int) (hc : c.length = 64) : padlockref01_Constants.l0 (k + 1) r c n = some (r, c) := by
  simp only [padlockref01_Constants.l0]
  rw [if_neg (by omega)]
set_option maxRecDepth 100000 in
theorem run_0 (k : Nat) : padlockref01_Constants.l0 (250 + (k + 310)) [] [] 2 = padlockref01_Constants.l0 (250 + (k + 279)) [1779033703, 3144134277, 1013904242, 2773480762, 1359893119, 2600822924, 528734635, 1541459225] [1116352408, 1899447441, 3049323471, 3921009573, 961987163, 1508970993, 2453635748, 2870763221, 3624381080, 310598401, 607225278] 33 := by
  refine (step_yes8 (k + 309) _ _ 2 _ _ (by decide) (by decide) (by decide) (by decide +kernel) root_2 sqrt_2).trans ?_
  refine (step_yes8 (k + 308) _ _ 3 _ _ (by decide) (by decide) (by decide) (by decide +kernel) root_3 sqrt_3).trans ?_
  refine (step_no (k + 307) _ _ 4 (by decide) (by decide) (by decide +kernel)).trans ?_
  refine (step_yes8 (k + 306) _ _ 5 _ _ (by decide) (by decide) (by decide) (by decide +kernel) root_5 sqrt_5).trans ?_
  refine (step_no (k + 305) _ _ 6 (by decide) (by decide) (by decide +kernel)).trans ?_
  refine (step_yes8 (k + 304) _ _ 7 _ _ (by decide) (by decide) (by decide) (by decide +kernel) root_7 sqrt_7).trans ?_
  refine (step_no (k + 303) _ _ 8 (by decide) (by decide) (by decide +kernel)).trans ?_
  refine (step_no (k + 302) _ _ 9 (by decide) (by decide) (by decide +kernel)).trans ?_
  refine (step_no (k + 301) _ _ 10 (by decide) (by decide) (by decide +kernel)).trans ?_
  refine (step_yes8 (k + 300) _ _ 11 _ _ (by decide) (by decide) (by decide) (by decide +kernel) root_11 sqrt_11).trans ?_
  refine (step_no (k + 299) _ _ 12 (by decide) (by decide) (by decide +kernel)).trans ?_
  refine (step_yes8 (k + 298) _ _ 13 _ _ (by decide) (by decide) (by decide) (by decide +kernel) root_13 sqrt_13).trans ?_
  refine (step_no (k + 297) _ _ 14 (by decide) (by decide) (by decide +kernel)).trans ?_
  refine (step_no (k + 296) _ _ 15 (by decide) (by decide) (by decide +kernel)).trans ?_
  refine (step_no (k + 295) _ _ 16 (by decide) (by decide) (by decide +kernel)).trans ?_
  refine (step_yes8 (k + 294) _ _ 17 _ _ (by decide) (by decide) (by decide) (by decide +kernel) root_17 sqrt_17).trans ?_
  refine (step_no (k + 293) _ _ 18 (by decide) (by decide) (by decide +kernel)).trans ?_
  refine (step_yes8 (k + 292) _ _ 19 _ _ (by decide) (by decide) (by decide) (by decide +kernel) root_19 sqrt_19).trans ?_
  refine (step_no (k + 291) _ _ 20 (by decide) (by decide) (by decide +kernel)).trans ?_
  refine (step_no (k + 290) _ _ 21 (by decide) (by decide) (by decide +kernel)).trans ?_
  refine (step_no (k + 289) _ _ 22 (by decide) (by decide) (by decide +kernel)).trans ?_
  refine (step_yes (k + 288) _ _ 23 _ (by decide) (by decide) (by decide) (by decide +kernel) root_23).trans ?_
  refine (step_no (k + 287) _ _ 24 (by decide) (by decide) (by decide +kernel)).trans ?_
  refine (step_no (k + 286) _ _ 25 (by decide) (by decide) (by decide +kernel)).trans ?_
  refine (step_no (k + 285) _ _ 26 (by decide) (by decide) (by decide +kernel)).trans ?_
  refine (step_no (k + 284) _ _ 27 (by decide) (by decide) (by decide +kernel)).trans ?_
  refine (step_no (k + 283) _ _ 28 (by decide) (by decide) (by decide +kernel)).trans ?_
  refine (step_yes (k + 282) _ _ 29 _ (by decide) (by decide) (by decide) (by decide +kernel) root_29).trans ?_
  refine (step_no (k + 281) _ _ 30 (by decide) (by decide) (by decide +kernel)).trans ?_
  refine (step_yes (k + 280) _ _ 31 _ (by decide) (by decide) (by decide) (by decide +kernel) root_31).trans ?_
  refine (step_no (k + 279) _ _ 32 (by decide) (by decide) (by decide +kernel)).trans ?_
  rfl
set_option maxRecDepth 100000 in
theorem run_1 (k : Nat) : padlockref01_Constants.l0 (250 + (k + 279)) [1779033703, 3144134277, 1013904242, 2773480762, 1359893119, 2600822924, 528734635, 1541459225] [1116352408, 1899447441, 3049323471, 3921009573, 961987163, 1508970993, 2453635748, 2870763221, 3624381080, 310598401, 607225278] 33 = padlockref01_Constants.l0 (250 + (k + 248)) [1779033703, 3144134277, 1013904242, 2773480762, 1359893119, 2600822924, 528734635, 1541459225] [1116352408, 1899447441, 3049323471, 3921009573, 961987163, 1508970993, 2453635748, 2870763221, 3624381080, 310598401, 607225278, 1426881987, 1925078388, 2162078206, 2614888103, 3248222580, 3835390401, 4022224774] 64 := by
  refine (step_no (k + 278) _ _ 33 (by decide) (by decide) (by decide +kernel)).trans ?_
  refine (step_no (k + 277) _ _ 34 (by decide) (by decide) (by decide +kernel)).trans ?_
  refine (step_no (k + 276) _ _ 35 (by decide) (by decide) (by decide +kernel)).trans ?_
  refine (step_no (k + 275) _ _ 36 (by decide) (by decide) (by decide +kernel)).trans ?_
  refine (step_yes (k + 274) _ _ 37 _ (by decide) (by decide) (by decide) (by decide +kernel) root_37).trans ?_
  refine (step_no (k + 273) _ _ 38 (by decide) (by decide) (by decide +kernel)).trans ?_
  refine (step_no (k + 272) _ _ 39 (by decide) (by decide) (by decide +kernel)).trans ?_
  refine (step_no (k + 271) _ _ 40 (by decide) (by decide) (by decide +kernel)).trans ?_
  refine (step_yes (k + 270) _ _ 41 _ (by decide) (by decide) (by decide) (by decide +kernel) root_41).trans ?_
  refine (step_no (k + 269) _ _ 42 (by decide) (by decide) (by decide +kernel)).trans ?_
  refine (step_yes (k + 268) _ _ 43 _ (by decide) (by decide) (by decide) (by decide +kernel) root_43).trans ?_
  refine (step_no (k + 267) _ _ 44 (by decide) (by decide) (by decide +kernel)).trans ?_
  refine (step_no (k + 266) _ _ 45 (by decide) (by decide) (by decide +kernel)).trans ?_
  refine (step_no (k + 265) _ _ 46 (by decide) (by decide) (by decide +kernel)).trans ?_
  refine (step_yes (k + 264) _ _ 47 _ (by decide) (by decide) (by decide) (by decide +kernel) root_47).trans ?_
  refine (step_no (k + 263) _ _ 48 (by decide) (by decide) (by decide +kernel)).trans ?_
  refine (step_no (k + 262) _ _ 49 (by decide) (by decide) (by decide +kernel)).trans ?_
  refine (step_no (k + 261) _ _ 50 (by decide) (by decide) (by decide +kernel)).trans ?_
  refine (step_no (k + 260) _ _ 51 (by decide) (by decide) (by decide +kernel)).trans ?_
  refine (step_no (k + 259) _ _ 52 (by decide) (by decide) (by decide +kernel)).trans ?_
  refine (step_yes (k + 258) _ _ 53 _ (by decide) (by decide) (by decide) (by decide +kernel) root_53).trans ?_
  refine (step_no (k + 257) _ _ 54 (by decide) (by decide) (by decide +kernel)).trans ?_
  refine (step_no (k + 256) _ _ 55 (by decide) (by decide) (by decide +kernel)).trans ?_
  refine (step_no (k + 255) _ _ 56 (by decide) (by decide) (by decide +kernel)).trans ?_
  refine (step_no (k + 254) _ _ 57 (by decide) (by decide) (by decide +kernel)).trans ?_
  refine (step_no (k + 253) _ _ 58 (by decide) (by decide) (by decide +kernel)).trans ?_
  refine (step_yes (k + 252) _ _ 59 _ (by decide) (by decide) (by decide) (by decide +kernel) root_59).trans ?_
  refine (step_no (k + 251) _ _ 60 (by decide) (by decide) (by decide +kernel)).trans ?_
  refine (step_yes (k + 250) _ _ 61 _ (by decide) (by decide) (by decide) (by decide +kernel) root_61).trans ?_
  refine (step_no (k + 249) _ _ 62 (by decide) (by decide) (by decide +kernel)).trans ?_
  refine (step_no (k + 248) _ _ 63 (by decide) (by decide) (by decide +kernel)).trans ?_
  rfl
set_option maxRecDepth 100000 in
theorem run_2 (k : Nat) : padlockref01_Constants.l0 (250 + (k + 248)) [1779033703, 3144134277, 1013904242, 2773480762, 1359893119, 2600822924, 528734635, 1541459225] [1116352408, 1899447441, 3049323471, 3921009573, 961987163, 1508970993, 2453635748, 2870763221, 3624381080, 310598401, 607225278, 1426881987, 1925078388, 2162078206, 2614888103, 3248222580, 3835390401, 4022224774] 64 = padlockref01_Constants.l0 (250 + (k + 217)) [1779033703, 3144134277, 1013904242, 2773480762, 1359893119, 2600822924, 528734635, 1541459225] [1116352408, 1899447441, 3049323471, 3921009573, 961987163, 1508970993, 2453635748, 2870763221, 3624381080, 310598401, 607225278, 1426881987, 1925078388, 2162078206, 2614888103, 3248222580, 3835390401, 4022224774, 264347078, 604807628, 770255983, 1249150122, 1555081692, 1996064986] 95 := by
  refine (step_no (k + 247) _ _ 64 (by decide) (by decide) (by decide +kernel)).trans ?_
  refine (step_no (k + 246) _ _ 65 (by decide) (by decide) (by decide +kernel)).trans ?_
  refine (step_no (k + 245) _ _ 66 (by decide) (by decide) (by decide +kernel)).trans ?_
  refine (step_yes (k + 244) _ _ 67 _ (by decide) (by decide) (by decide) (by decide +kernel) root_67).trans ?_
  refine (step_no (k + 243) _ _ 68 (by decide) (by decide) (by decide +kernel)).trans ?_
  refine (step_no (k + 242) _ _ 69 (by decide) (by decide) (by decide +kernel)).trans ?_
  refine (step_no (k + 241) _ _ 70 (by decide) (by decide) (by decide +kernel)).trans ?_
  refine (step_yes (k + 240) _ _ 71 _ (by decide) (by decide) (by decide) (by decide +kernel) root_71).trans ?_
  refine (step_no (k + 239) _ _ 72 (by decide) (by decide) (by decide +kernel)).trans ?_
  refine (step_yes (k + 238) _ _ 73 _ (by decide) (by decide) (by decide) (by decide +kernel) root_73).trans ?_
  refine (step_no (k + 237) _ _ 74 (by decide) (by decide) (by decide +kernel)).trans ?_
  refine (step_no (k + 236) _ _ 75 (by decide) (by decide) (by decide +kernel)).trans ?_
  refine (step_no (k + 235) _ _ 76 (by decide) (by decide) (by decide +kernel)).trans ?_
  refine (step_no (k + 234) _ _ 77 (by decide) (by decide) (by decide +kernel)).trans ?_
  refine (step_no (k + 233) _ _ 78 (by decide) (by decide) (by decide +kernel)).trans ?_
  refine (step_yes (k + 232) _ _ 79 _ (by decide) (by decide) (by decide) (by decide +kernel) root_79).trans ?_
  refine (step_no (k + 231) _ _ 80 (by decide) (by decide) (by decide +kernel)).trans ?_
  refine (step_no (k + 230) _ _ 81 (by decide) (by decide) (by decide +kernel)).trans ?_
  refine (step_no (k + 229) _ _ 82 (by decide) (by decide) (by decide +kernel)).trans ?_
  refine (step_yes (k + 228) _ _ 83 _ (by decide) (by decide) (by decide) (by decide +kernel) root_83).trans ?_
  refine (step_no (k + 227) _ _ 84 (by decide) (by decide) (by decide +kernel)).trans ?_
  refine (step_no (k + 226) _ _ 85 (by decide) (by decide) (by decide +kernel)).trans ?_
  refine (step_no (k + 225) _ _ 86 (by decide) (by decide) (by decide +kernel)).trans ?_
  refine (step_no (k + 224) _ _ 87 (by decide) (by decide) (by decide +kernel)).trans ?_
  refine (step_no (k + 223) _ _ 88 (by decide) (by decide) (by decide +kernel)).trans ?_
  refine (step_yes (k + 222) _ _ 89 _ (by decide) (by decide) (by decide) (by decide +kernel) root_89).trans ?_
  refine (step_no (k + 221) _ _ 90 (by decide) (by decide) (by decide +kernel)).trans ?_
  refine (step_no (k + 220) _ _ 91 (by decide) (by decide) (by decide +kernel)).trans ?_
  refine (step_no (k + 219) _ _ 92 (by decide) (by decide) (by decide +kernel)).trans ?_
  refine (step_no (k + 218) _ _ 93 (by decide) (by decide) (by decide +kernel)).trans ?_
  refine (step_no (k + 217) _ _ 94 (by decide) (by decide) (by decide +kernel)).trans ?_
  rfl
set_option maxRecDepth 100000 in
theorem run_3 (k : Nat) : padlockref01_Constants.l0 (250 + (k + 217)) [1779033703, 3144134277, 1013904242, 2773480762, 1359893119, 2600822924, 528734635, 1541459225] [1116352408, 1899447441, 3049323471, 3921009573, 961987163, 1508970993, 2453635748, 2870763221, 3624381080, 310598401, 607225278, 1426881987, 1925078388, 2162078206, 2614888103, 3248222580, 3835390401, 4022224774, 264347078, 604807628, 770255983, 1249150122, 1555081692, 1996064986] 95 = padlockref01_Constants.l0 (250 + (k + 186)) [1779033703, 3144134277, 1013904242, 2773480762, 1359893119, 2600822924, 528734635, 1541459225] [1116352408, 1899447441, 3049323471, 3921009573, 961987163, 1508970993, 2453635748, 2870763221, 3624381080, 310598401, 607225278, 1426881987, 1925078388, 2162078206, 2614888103, 3248222580, 3835390401, 4022224774, 264347078, 604807628, 770255983, 1249150122, 1555081692, 1996064986, 2554220882, 2821834349, 2952996808, 3210313671, 3336571891, 3584528711] 126 := by
  refine (step_no (k + 216) _ _ 95 (by decide) (by decide) (by decide +kernel)).trans ?_
  refine (step_no (k + 215) _ _ 96 (by decide) (by decide) (by decide +kernel)).trans ?_
  refine (step_yes (k + 214) _ _ 97 _ (by decide) (by decide) (by decide) (by decide +kernel) root_97).trans ?_
  refine (step_no (k + 213) _ _ 98 (by decide) (by decide) (by decide +kernel)).trans ?_
  refine (step_no (k + 212) _ _ 99 (by decide) (by decide) (by decide +kernel)).trans ?_
  refine (step_no (k + 211) _ _ 100 (by decide) (by decide) (by decide +kernel)).trans ?_
  refine (step_yes (k + 210) _ _ 101 _ (by decide) (by decide) (by decide) (by decide +kernel) root_101).trans ?_
  refine (step_no (k + 209) _ _ 102 (by decide) (by decide) (by decide +kernel)).trans ?_
  refine (step_yes (k + 208) _ _ 103 _ (by decide) (by decide) (by decide) (by decide +kernel) root_103).trans ?_
  refine (step_no (k + 207) _ _ 104 (by decide) (by decide) (by decide +kernel)).trans ?_
  refine (step_no (k + 206) _ _ 105 (by decide) (by decide) (by decide +kernel)).trans ?_
  refine (step_no (k + 205) _ _ 106 (by decide) (by decide) (by decide +kernel)).trans ?_
  refine (step_yes (k + 204) _ _ 107 _ (by decide) (by decide) (by decide) (by decide +kernel) root_107).trans ?_
  refine (step_no (k + 203) _ _ 108 (by decide) (by decide) (by decide +kernel)).trans ?_
  refine (step_yes (k + 202) _ _ 109 _ (by decide) (by decide) (by decide) (by decide +kernel) root_109).trans ?_
  refine (step_no (k + 201) _ _ 110 (by decide) (by decide) (by decide +kernel)).trans ?_
  refine (step_no (k + 200) _ _ 111 (by decide) (by decide) (by decide +kernel)).trans ?_
  refine (step_no (k + 199) _ _ 112 (by decide) (by decide) (by decide +kernel)).trans ?_
  refine (step_yes (k + 198) _ _ 113 _ (by decide) (by decide) (by decide) (by decide +kernel) root_113).trans ?_
  refine (step_no (k + 197) _ _ 114 (by decide) (by decide) (by decide +kernel)).trans ?_
  refine (step_no (k + 196) _ _ 115 (by decide) (by decide) (by decide +kernel)).trans ?_
  refine (step_no (k + 195) _ _ 116 (by decide) (by decide) (by decide +kernel)).trans ?_
  refine (step_no (k + 194) _ _ 117 (by decide) (by decide) (by decide +kernel)).trans ?_
  refine (step_no (k + 193) _ _ 118 (by decide) (by decide) (by decide +kernel)).trans ?_
  refine (step_no (k + 192) _ _ 119 (by decide) (by decide) (by decide +kernel)).trans ?_
  refine (step_no (k + 191) _ _ 120 (by decide) (by decide) (by decide +kernel)).trans ?_
  refine (step_no (k + 190) _ _ 121 (by decide) (by decide) (by decide +kernel)).trans ?_
  refine (step_no (k + 189) _ _ 122 (by decide) (by decide) (by decide +kernel)).trans ?_
  refine (step_no (k + 188) _ _ 123 (by decide) (by decide) (by decide +kernel)).trans ?_
  refine (step_no (k + 187) _ _ 124 (by decide) (by decide) (by decide +kernel)).trans ?_
  refine (step_no (k + 186) _ _ 125 (by decide) (by decide) (by decide +kernel)).trans ?_
  rfl
set_option maxRecDepth 100000 in
theorem run_4 (k : Nat) : padlockref01_Constants.l0 (250 + (k + 186)) [1779033703, 3144134277, 1013904242, 2773480762, 1359893119, 2600822924, 528734635, 1541459225] [1116352408, 1899447441, 3049323471, 3921009573, 961987163, 1508970993, 2453635748, 2870763221, 3624381080, 310598401, 607225278, 1426881987, 1925078388, 2162078206, 2614888103, 3248222580, 3835390401, 4022224774, 264347078, 604807628, 770255983, 1249150122, 1555081692, 1996064986, 2554220882, 2821834349, 2952996808, 3210313671, 3336571891, 3584528711] 126 = padlockref01_Constants.l0 (250 + (k + 155)) [1779033703, 3144134277, 1013904242, 2773480762, 1359893119, 2600822924, 528734635, 1541459225] [1116352408, 1899447441, 3049323471, 3921009573, 961987163, 1508970993, 2453635748, 2870763221, 3624381080, 310598401, 607225278, 1426881987, 1925078388, 2162078206, 2614888103, 3248222580, 3835390401, 4022224774, 264347078, 604807628, 770255983, 1249150122, 1555081692, 1996064986, 2554220882, 2821834349, 2952996808, 3210313671, 3336571891, 3584528711, 113926993, 338241895, 666307205, 773529912, 1294757372, 1396182291] 157 := by
  refine (step_no (k + 185) _ _ 126 (by decide) (by decide) (by decide +kernel)).trans ?_
  refine (step_yes (k + 184) _ _ 127 _ (by decide) (by decide) (by decide) (by decide +kernel) root_127).trans ?_
  refine (step_no (k + 183) _ _ 128 (by decide) (by decide) (by decide +kernel)).trans ?_
  refine (step_no (k + 182) _ _ 129 (by decide) (by decide) (by decide +kernel)).trans ?_
  refine (step_no (k + 181) _ _ 130 (by decide) (by decide) (by decide +kernel)).trans ?_
  refine (step_yes (k + 180) _ _ 131 _ (by decide) (by decide) (by decide) (by decide +kernel) root_131).trans ?_
  refine (step_no (k + 179) _ _ 132 (by decide) (by decide) (by decide +kernel)).trans ?_
  refine (step_no (k + 178) _ _ 133 (by decide) (by decide) (by decide +kernel)).trans ?_
  refine (step_no (k + 177) _ _ 134 (by decide) (by decide) (by decide +kernel)).trans ?_
  refine (step_no (k + 176) _ _ 135 (by decide) (by decide) (by decide +kernel)).trans ?_
  refine (step_no (k + 175) _ _ 136 (by decide) (by decide) (by decide +kernel)).trans ?_
  refine (step_yes (k + 174) _ _ 137 _ (by decide) (by decide) (by decide) (by decide +kernel) root_137).trans ?_
  refine (step_no (k + 173) _ _ 138 (by decide) (by decide) (by decide +kernel)).trans ?_
  refine (step_yes (k + 172) _ _ 139 _ (by decide) (by decide) (by decide) (by decide +kernel) root_139).trans ?_
  refine (step_no (k + 171) _ _ 140 (by decide) (by decide) (by decide +kernel)).trans ?_
  refine (step_no (k + 170) _ _ 141 (by decide) (by decide) (by decide +kernel)).trans ?_
  refine (step_no (k + 169) _ _ 142 (by decide) (by decide) (by decide +kernel)).trans ?_
  refine (step_no (k + 168) _ _ 143 (by decide) (by decide) (by decide +kernel)).trans ?_
  refine (step_no (k + 167) _ _ 144 (by decide) (by decide) (by decide +kernel)).trans ?_
  refine (step_no (k + 166) _ _ 145 (by decide) (by decide) (by decide +kernel)).trans ?_
  refine (step_no (k + 165) _ _ 146 (by decide) (by decide) (by decide +kernel)).trans ?_
  refine (step_no (k + 164) _ _ 147 (by decide) (by decide) (by decide +kernel)).trans ?_
  refine (step_no (k + 163) _ _ 148 (by decide) (by decide) (by decide +kernel)).trans ?_
  refine (step_yes (k + 162) _ _ 149 _ (by decide) (by decide) (by decide) (by decide +kernel) root_149).trans ?_
  refine (step_no (k + 161) _ _ 150 (by decide) (by decide) (by decide +kernel)).trans ?_
  refine (step_yes (k + 160) _ _ 151 _ (by decide) (by decide) (by decide) (by decide +kernel) root_151).trans ?_
  refine (step_no (k + 159) _ _ 152 (by decide) (by decide) (by decide +kernel)).trans ?_
  refine (step_no (k + 158) _ _ 153 (by decide) (by decide) (by decide +kernel)).trans ?_
  refine (step_no (k + 157) _ _ 154 (by decide) (by decide) (by decide +kernel)).trans ?_
  refine (step_no (k + 156) _ _ 155 (by decide) (by decide) (by decide +kernel)).trans ?_
  refine (step_no (k + 155) _ _ 156 (by decide) (by decide) (by decide +kernel)).trans ?_
  rfl
set_option maxRecDepth 100000 in
theorem run_5 (k : Nat) : padlockref01_Constants.l0 (250 + (k + 155)) [1779033703, 3144134277, 1013904242, 2773480762, 1359893119, 2600822924, 528734635, 1541459225] [1116352408, 1899447441, 3049323471, 3921009573, 961987163, 1508970993, 2453635748, 2870763221, 3624381080, 310598401, 607225278, 1426881987, 1925078388, 2162078206, 2614888103, 3248222580, 3835390401, 4022224774, 264347078, 604807628, 770255983, 1249150122, 1555081692, 1996064986, 2554220882, 2821834349, 2952996808, 3210313671, 3336571891, 3584528711, 113926993, 338241895, 666307205, 773529912, 1294757372, 1396182291] 157 = padlockref01_Constants.l0 (250 + (k + 124)) [1779033703, 3144134277, 1013904242, 2773480762, 1359893119, 2600822924, 528734635, 1541459225] [1116352408, 1899447441, 3049323471, 3921009573, 961987163, 1508970993, 2453635748, 2870763221, 3624381080, 310598401, 607225278, 1426881987, 1925078388, 2162078206, 2614888103, 3248222580, 3835390401, 4022224774, 264347078, 604807628, 770255983, 1249150122, 1555081692, 1996064986, 2554220882, 2821834349, 2952996808, 3210313671, 3336571891, 3584528711, 113926993, 338241895, 666307205, 773529912, 1294757372, 1396182291, 1695183700, 1986661051, 2177026350, 2456956037, 2730485921, 2820302411] 188 := by
  refine (step_yes (k + 154) _ _ 157 _ (by decide) (by decide) (by decide) (by decide +kernel) root_157).trans ?_
  refine (step_no (k + 153) _ _ 158 (by decide) (by decide) (by decide +kernel)).trans ?_
  refine (step_no (k + 152) _ _ 159 (by decide) (by decide) (by decide +kernel)).trans ?_
  refine (step_no (k + 151) _ _ 160 (by decide) (by decide) (by decide +kernel)).trans ?_
  refine (step_no (k + 150) _ _ 161 (by decide) (by decide) (by decide +kernel)).trans ?_
  refine (step_no (k + 149) _ _ 162 (by decide) (by decide) (by decide +kernel)).trans ?_
  refine (step_yes (k + 148) _ _ 163 _ (by decide) (by decide) (by decide) (by decide +kernel) root_163).trans ?_
  refine (step_no (k + 147) _ _ 164 (by decide) (by decide) (by decide +kernel)).trans ?_
  refine (step_no (k + 146) _ _ 165 (by decide) (by decide) (by decide +kernel)).trans ?_
  refine (step_no (k + 145) _ _ 166 (by decide) (by decide) (by decide +kernel)).trans ?_
  refine (step_yes (k + 144) _ _ 167 _ (by decide) (by decide) (by decide) (by decide +kernel) root_167).trans ?_
  refine (step_no (k + 143) _ _ 168 (by decide) (by decide) (by decide +kernel)).trans ?_
  refine (step_no (k + 142) _ _ 169 (by decide) (by decide) (by decide +kernel)).trans ?_
  refine (step_no (k + 141) _ _ 170 (by decide) (by decide) (by decide +kernel)).trans ?_
  refine (step_no (k + 140) _ _ 171 (by decide) (by decide) (by decide +kernel)).trans ?_
  refine (step_no (k + 139) _ _ 172 (by decide) (by decide) (by decide +kernel)).trans ?_
  refine (step_yes (k + 138) _ _ 173 _ (by decide) (by decide) (by decide) (by decide +kernel) root_173).trans ?_
  refine (step_no (k + 137) _ _ 174 (by decide) (by decide) (by decide +kernel)).trans ?_
  refine (step_no (k + 136) _ _ 175 (by decide) (by decide) (by decide +kernel)).trans ?_
  refine (step_no (k + 135) _ _ 176 (by decide) (by decide) (by decide +kernel)).trans ?_
  refine (step_no (k + 134) _ _ 177 (by decide) (by decide) (by decide +kernel)).trans ?_
  refine (step_no (k + 133) _ _ 178 (by decide) (by decide) (by decide +kernel)).trans ?_
  refine (step_yes (k + 132) _ _ 179 _ (by decide) (by decide) (by decide) (by decide +kernel) root_179).trans ?_
  refine (step_no (k + 131) _ _ 180 (by decide) (by decide) (by decide +kernel)).trans ?_
  refine (step_yes (k + 130) _ _ 181 _ (by decide) (by decide) (by decide) (by decide +kernel) root_181).trans ?_
  refine (step_no (k + 129) _ _ 182 (by decide) (by decide) (by decide +kernel)).trans ?_
  refine (step_no (k + 128) _ _ 183 (by decide) (by decide) (by decide +kernel)).trans ?_
  refine (step_no (k + 127) _ _ 184 (by decide) (by decide) (by decide +kernel)).trans ?_
  refine (step_no (k + 126) _ _ 185 (by decide) (by decide) (by decide +kernel)).trans ?_
  refine (step_no (k + 125) _ _ 186 (by decide) (by decide) (by decide +kernel)).trans ?_
  refine (step_no (k + 124) _ _ 187 (by decide) (by decide) (by decide +kernel)).trans ?_
  rfl
set_option maxRecDepth 100000 in
theorem run_6 (k : Nat) : padlockref01_Constants.l0 (250 + (k + 124)) [1779033703, 3144134277, 1013904242, 2773480762, 1359893119, 2600822924, 528734635, 1541459225] [1116352408, 1899447441, 3049323471, 3921009573, 961987163, 1508970993, 2453635748, 2870763221, 3624381080, 310598401, 607225278, 1426881987, 1925078388, 2162078206, 2614888103, 3248222580, 3835390401, 4022224774, 264347078, 604807628, 770255983, 1249150122, 1555081692, 1996064986, 2554220882, 2821834349, 2952996808, 3210313671, 3336571891, 3584528711, 113926993, 338241895, 666307205, 773529912, 1294757372, 1396182291, 1695183700, 1986661051, 2177026350, 2456956037, 2730485921, 2820302411] 188 = padlockref01_Constants.l0 (250 + (k + 93)) [1779033703, 3144134277, 1013904242, 2773480762, 1359893119, 2600822924, 528734635, 1541459225] [1116352408, 1899447441, 3049323471, 3921009573, 961987163, 1508970993, 2453635748, 2870763221, 3624381080, 310598401, 607225278, 1426881987, 1925078388, 2162078206, 2614888103, 3248222580, 3835390401, 4022224774, 264347078, 604807628, 770255983, 1249150122, 1555081692, 1996064986, 2554220882, 2821834349, 2952996808, 3210313671, 3336571891, 3584528711, 113926993, 338241895, 666307205, 773529912, 1294757372, 1396182291, 1695183700, 1986661051, 2177026350, 2456956037, 2730485921, 2820302411, 3259730800, 3345764771, 3516065817, 3600352804, 4094571909] 219 := by
  refine (step_no (k + 123) _ _ 188 (by decide) (by decide) (by decide +kernel)).trans ?_
  refine (step_no (k + 122) _ _ 189 (by decide) (by decide) (by decide +kernel)).trans ?_
  refine (step_no (k + 121) _ _ 190 (by decide) (by decide) (by decide +kernel)).trans ?_
  refine (step_yes (k + 120) _ _ 191 _ (by decide) (by decide) (by decide) (by decide +kernel) root_191).trans ?_
  refine (step_no (k + 119) _ _ 192 (by decide) (by decide) (by decide +kernel)).trans ?_
  refine (step_yes (k + 118) _ _ 193 _ (by decide) (by decide) (by decide) (by decide +kernel) root_193).trans ?_
  refine (step_no (k + 117) _ _ 194 (by decide) (by decide) (by decide +kernel)).trans ?_
  refine (step_no (k + 116) _ _ 195 (by decide) (by decide) (by decide +kernel)).trans ?_
  refine (step_no (k + 115) _ _ 196 (by decide) (by decide) (by decide +kernel)).trans ?_
  refine (step_yes (k + 114) _ _ 197 _ (by decide) (by decide) (by decide) (by decide +kernel) root_197).trans ?_
  refine (step_no (k + 113) _ _ 198 (by decide) (by decide) (by decide +kernel)).trans ?_
  refine (step_yes (k + 112) _ _ 199 _ (by decide) (by decide) (by decide) (by decide +kernel) root_199).trans ?_
  refine (step_no (k + 111) _ _ 200 (by decide) (by decide) (by decide +kernel)).trans ?_
  refine (step_no (k + 110) _ _ 201 (by decide) (by decide) (by decide +kernel)).trans ?_
  refine (step_no (k + 109) _ _ 202 (by decide) (by decide) (by decide +kernel)).trans ?_
  refine (step_no (k + 108) _ _ 203 (by decide) (by decide) (by decide +kernel)).trans ?_
  refine (step_no (k + 107) _ _ 204 (by decide) (by decide) (by decide +kernel)).trans ?_
  refine (step_no (k + 106) _ _ 205 (by decide) (by decide) (by decide +kernel)).trans ?_
  refine (step_no (k + 105) _ _ 206 (by decide) (by decide) (by decide +kernel)).trans ?_
  refine (step_no (k + 104) _ _ 207 (by decide) (by decide) (by decide +kernel)).trans ?_
  refine (step_no (k + 103) _ _ 208 (by decide) (by decide) (by decide +kernel)).trans ?_
  refine (step_no (k + 102) _ _ 209 (by decide) (by decide) (by decide +kernel)).trans ?_
  refine (step_no (k + 101) _ _ 210 (by decide) (by decide) (by decide +kernel)).trans ?_
  refine (step_yes (k + 100) _ _ 211 _ (by decide) (by decide) (by decide) (by decide +kernel) root_211).trans ?_
  refine (step_no (k + 99) _ _ 212 (by decide) (by decide) (by decide +kernel)).trans ?_
  refine (step_no (k + 98) _ _ 213 (by decide) (by decide) (by decide +kernel)).trans ?_
  refine (step_no (k + 97) _ _ 214 (by decide) (by decide) (by decide +kernel)).trans ?_
  refine (step_no (k + 96) _ _ 215 (by decide) (by decide) (by decide +kernel)).trans ?_
  refine (step_no (k + 95) _ _ 216 (by decide) (by decide) (by decide +kernel)).trans ?_
  refine (step_no (k + 94) _ _ 217 (by decide) (by decide) (by decide +kernel)).trans ?_
  refine (step_no (k + 93) _ _ 218 (by decide) (by decide) (by decide +kernel)).trans ?_
  rfl
set_option maxRecDepth 100000 in
theorem run_7 (k : Nat) : padlockref01_Constants.l0 (250 + (k + 93)) [1779033703, 3144134277, 1013904242, 2773480762, 1359893119, 2600822924, 528734635, 1541459225] [1116352408, 1899447441, 3049323471, 3921009573, 961987163, 1508970993, 2453635748, 2870763221, 3624381080, 310598401, 607225278, 1426881987, 1925078388, 2162078206, 2614888103, 3248222580, 3835390401, 4022224774, 264347078, 604807628, 770255983, 1249150122, 1555081692, 1996064986, 2554220882, 2821834349, 2952996808, 3210313671, 3336571891, 3584528711, 113926993, 338241895, 666307205, 773529912, 1294757372, 1396182291, 1695183700, 1986661051, 2177026350, 2456956037, 2730485921, 2820302411, 3259730800, 3345764771, 3516065817, 3600352804, 4094571909] 219 = padlockref01_Constants.l0 (250 + (k + 62)) [1779033703, 3144134277, 1013904242, 2773480762, 1359893119, 2600822924, 528734635, 1541459225] [1116352408, 1899447441, 3049323471, 3921009573, 961987163, 1508970993, 2453635748, 2870763221, 3624381080, 310598401, 607225278, 1426881987, 1925078388, 2162078206, 2614888103, 3248222580, 3835390401, 4022224774, 264347078, 604807628, 770255983, 1249150122, 1555081692, 1996064986, 2554220882, 2821834349, 2952996808, 3210313671, 3336571891, 3584528711, 113926993, 338241895, 666307205, 773529912, 1294757372, 1396182291, 1695183700, 1986661051, 2177026350, 2456956037, 2730485921, 2820302411, 3259730800, 3345764771, 3516065817, 3600352804, 4094571909, 275423344, 430227734, 506948616, 659060556, 883997877, 958139571] 250 := by
  refine (step_no (k + 92) _ _ 219 (by decide) (by decide) (by decide +kernel)).trans ?_
  refine (step_no (k + 91) _ _ 220 (by decide) (by decide) (by decide +kernel)).trans ?_
  refine (step_no (k + 90) _ _ 221 (by decide) (by decide) (by decide +kernel)).trans ?_
  refine (step_no (k + 89) _ _ 222 (by decide) (by decide) (by decide +kernel)).trans ?_
  refine (step_yes (k + 88) _ _ 223 _ (by decide) (by decide) (by decide) (by decide +kernel) root_223).trans ?_
  refine (step_no (k + 87) _ _ 224 (by decide) (by decide) (by decide +kernel)).trans ?_
  refine (step_no (k + 86) _ _ 225 (by decide) (by decide) (by decide +kernel)).trans ?_
  refine (step_no (k + 85) _ _ 226 (by decide) (by decide) (by decide +kernel)).trans ?_
  refine (step_yes (k + 84) _ _ 227 _ (by decide) (by decide) (by decide) (by decide +kernel) root_227).trans ?_
  refine (step_no (k + 83) _ _ 228 (by decide) (by decide) (by decide +kernel)).trans ?_
  refine (step_yes (k + 82) _ _ 229 _ (by decide) (by decide) (by decide) (by decide +kernel) root_229).trans ?_
  refine (step_no (k + 81) _ _ 230 (by decide) (by decide) (by decide +kernel)).trans ?_
  refine (step_no (k + 80) _ _ 231 (by decide) (by decide) (by decide +kernel)).trans ?_
  refine (step_no (k + 79) _ _ 232 (by decide) (by decide) (by decide +kernel)).trans ?_
  refine (step_yes (k + 78) _ _ 233 _ (by decide) (by decide) (by decide) (by decide +kernel) root_233).trans ?_
  refine (step_no (k + 77) _ _ 234 (by decide) (by decide) (by decide +kernel)).trans ?_
  refine (step_no (k + 76) _ _ 235 (by decide) (by decide) (by decide +kernel)).trans ?_
  refine (step_no (k + 75) _ _ 236 (by decide) (by decide) (by decide +kernel)).trans ?_
  refine (step_no (k + 74) _ _ 237 (by decide) (by decide) (by decide +kernel)).trans ?_
  refine (step_no (k + 73) _ _ 238 (by decide) (by decide) (by decide +kernel)).trans ?_
  refine (step_yes (k + 72) _ _ 239 _ (by decide) (by decide) (by decide) (by decide +kernel) root_239).trans ?_
  refine (step_no (k + 71) _ _ 240 (by decide) (by decide) (by decide +kernel)).trans ?_
  refine (step_yes (k + 70) _ _ 241 _ (by decide) (by decide) (by decide) (by decide +kernel) root_241).trans ?_
  refine (step_no (k + 69) _ _ 242 (by decide) (by decide) (by decide +kernel)).trans ?_
  refine (step_no (k + 68) _ _ 243 (by decide) (by decide) (by decide +kernel)).trans ?_
  refine (step_no (k + 67) _ _ 244 (by decide) (by decide) (by decide +kernel)).trans ?_
  refine (step_no (k + 66) _ _ 245 (by decide) (by decide) (by decide +kernel)).trans ?_
  refine (step_no (k + 65) _ _ 246 (by decide) (by decide) (by decide +kernel)).trans ?_
  refine (step_no (k + 64) _ _ 247 (by decide) (by decide) (by decide +kernel)).trans ?_
  refine (step_no (k + 63) _ _ 248 (by decide) (by decide) (by decide +kernel)).trans ?_
  refine (step_no (k + 62) _ _ 249 (by decide) (by decide) (by decide +kernel)).trans ?_
  rfl
set_option maxRecDepth 100000 in
theorem run_8 (k : Nat) : padlockref01_Constants.l0 (250 + (k + 62)) [1779033703, 3144134277, 1013904242, 2773480762, 1359893119, 2600822924, 528734635, 1541459225] [1116352408, 1899447441, 3049323471, 3921009573, 961987163, 1508970993, 2453635748, 2870763221, 3624381080, 310598401, 607225278, 1426881987, 1925078388, 2162078206, 2614888103, 3248222580, 3835390401, 4022224774, 264347078, 604807628, 770255983, 1249150122, 1555081692, 1996064986, 2554220882, 2821834349, 2952996808, 3210313671, 3336571891, 3584528711, 113926993, 338241895, 666307205, 773529912, 1294757372, 1396182291, 1695183700, 1986661051, 2177026350, 2456956037, 2730485921, 2820302411, 3259730800, 3345764771, 3516065817, 3600352804, 4094571909, 275423344, 430227734, 506948616, 659060556, 883997877, 958139571] 250 = padlockref01_Constants.l0 (250 + (k + 31)) [1779033703, 3144134277, 1013904242, 2773480762, 1359893119, 2600822924, 528734635, 1541459225] [1116352408, 1899447441, 3049323471, 3921009573, 961987163, 1508970993, 2453635748, 2870763221, 3624381080, 310598401, 607225278, 1426881987, 1925078388, 2162078206, 2614888103, 3248222580, 3835390401, 4022224774, 264347078, 604807628, 770255983, 1249150122, 1555081692, 1996064986, 2554220882, 2821834349, 2952996808, 3210313671, 3336571891, 3584528711, 113926993, 338241895, 666307205, 773529912, 1294757372, 1396182291, 1695183700, 1986661051, 2177026350, 2456956037, 2730485921, 2820302411, 3259730800, 3345764771, 3516065817, 3600352804, 4094571909, 275423344, 430227734, 506948616, 659060556, 883997877, 958139571, 1322822218, 1537002063, 1747873779, 1955562222, 2024104815, 2227730452] 281 := by
  refine (step_no (k + 61) _ _ 250 (by decide) (by decide) (by decide +kernel)).trans ?_
  refine (step_yes (k + 60) _ _ 251 _ (by decide) (by decide) (by decide) (by decide +kernel) root_251).trans ?_
  refine (step_no (k + 59) _ _ 252 (by decide) (by decide) (by decide +kernel)).trans ?_
  refine (step_no (k + 58) _ _ 253 (by decide) (by decide) (by decide +kernel)).trans ?_
  refine (step_no (k + 57) _ _ 254 (by decide) (by decide) (by decide +kernel)).trans ?_
  refine (step_no (k + 56) _ _ 255 (by decide) (by decide) (by decide +kernel)).trans ?_
  refine (step_no (k + 55) _ _ 256 (by decide) (by decide) (by decide +kernel)).trans ?_
  refine (step_yes (k + 54) _ _ 257 _ (by decide) (by decide) (by decide) (by decide +kernel) root_257).trans ?_
  refine (step_no (k + 53) _ _ 258 (by decide) (by decide) (by decide +kernel)).trans ?_
  refine (step_no (k + 52) _ _ 259 (by decide) (by decide) (by decide +kernel)).trans ?_
  refine (step_no (k + 51) _ _ 260 (by decide) (by decide) (by decide +kernel)).trans ?_
  refine (step_no (k + 50) _ _ 261 (by decide) (by decide) (by decide +kernel)).trans ?_
  refine (step_no (k + 49) _ _ 262 (by decide) (by decide) (by decide +kernel)).trans ?_
  refine (step_yes (k + 48) _ _ 263 _ (by decide) (by decide) (by decide) (by decide +kernel) root_263).trans ?_
  refine (step_no (k + 47) _ _ 264 (by decide) (by decide) (by decide +kernel)).trans ?_
  refine (step_no (k + 46) _ _ 265 (by decide) (by decide) (by decide +kernel)).trans ?_
  refine (step_no (k + 45) _ _ 266 (by decide) (by decide) (by decide +kernel)).trans ?_
  refine (step_no (k + 44) _ _ 267 (by decide) (by decide) (by decide +kernel)).trans ?_
  refine (step_no (k + 43) _ _ 268 (by decide) (by decide) (by decide +kernel)).trans ?_
  refine (step_yes (k + 42) _ _ 269 _ (by decide) (by decide) (by decide) (by decide +kernel) root_269).trans ?_
  refine (step_no (k + 41) _ _ 270 (by decide) (by decide) (by decide +kernel)).trans ?_
  refine (step_yes (k + 40) _ _ 271 _ (by decide) (by decide) (by decide) (by decide +kernel) root_271).trans ?_
  refine (step_no (k + 39) _ _ 272 (by decide) (by decide) (by decide +kernel)).trans ?_
  refine (step_no (k + 38) _ _ 273 (by decide) (by decide) (by decide +kernel)).trans ?_
  refine (step_no (k + 37) _ _ 274 (by decide) (by decide) (by decide +kernel)).trans ?_
  refine (step_no (k + 36) _ _ 275 (by decide) (by decide) (by decide +kernel)).trans ?_
  refine (step_no (k + 35) _ _ 276 (by decide) (by decide) (by decide +kernel)).trans ?_
  refine (step_yes (k + 34) _ _ 277 _ (by decide) (by decide) (by decide) (by decide +kernel) root_277).trans ?_
  refine (step_no (k + 33) _ _ 278 (by decide) (by decide) (by decide +kernel)).trans ?_
  refine (step_no (k + 32) _ _ 279 (by decide) (by decide) (by decide +kernel)).trans ?_
  refine (step_no (k + 31) _ _ 280 (by decide) (by decide) (by decide +kernel)).trans ?_
  rfl
set_option maxRecDepth 100000 in
theorem run_9 (k : Nat) : padlockref01_Constants.l0 (250 + (k + 31)) [1779033703, 3144134277, 1013904242, 2773480762, 1359893119, 2600822924, 528734635, 1541459225] [1116352408, 1899447441, 3049323471, 3921009573, 961987163, 1508970993, 2453635748, 2870763221, 3624381080, 310598401, 607225278, 1426881987, 1925078388, 2162078206, 2614888103, 3248222580, 3835390401, 4022224774, 264347078, 604807628, 770255983, 1249150122, 1555081692, 1996064986, 2554220882, 2821834349, 2952996808, 3210313671, 3336571891, 3584528711, 113926993, 338241895, 666307205, 773529912, 1294757372, 1396182291, 1695183700, 1986661051, 2177026350, 2456956037, 2730485921, 2820302411, 3259730800, 3345764771, 3516065817, 3600352804, 4094571909, 275423344, 430227734, 506948616, 659060556, 883997877, 958139571, 1322822218, 1537002063, 1747873779, 1955562222, 2024104815, 2227730452] 281 = padlockref01_Constants.l0 (250 + (k + 0)) [1779033703, 3144134277, 1013904242, 2773480762, 1359893119, 2600822924, 528734635, 1541459225] [1116352408, 1899447441, 3049323471, 3921009573, 961987163, 1508970993, 2453635748, 2870763221, 3624381080, 310598401, 607225278, 1426881987, 1925078388, 2162078206, 2614888103, 3248222580, 3835390401, 4022224774, 264347078, 604807628, 770255983, 1249150122, 1555081692, 1996064986, 2554220882, 2821834349, 2952996808, 3210313671, 3336571891, 3584528711, 113926993, 338241895, 666307205, 773529912, 1294757372, 1396182291, 1695183700, 1986661051, 2177026350, 2456956037, 2730485921, 2820302411, 3259730800, 3345764771, 3516065817, 3600352804, 4094571909, 275423344, 430227734, 506948616, 659060556, 883997877, 958139571, 1322822218, 1537002063, 1747873779, 1955562222, 2024104815, 2227730452, 2361852424, 2428436474, 2756734187, 3204031479, 3329325298] 312 := by
  refine (step_yes (k + 30) _ _ 281 _ (by decide) (by decide) (by decide) (by decide +kernel) root_281).trans ?_
  refine (step_no (k + 29) _ _ 282 (by decide) (by decide) (by decide +kernel)).trans ?_
  refine (step_yes (k + 28) _ _ 283 _ (by decide) (by decide) (by decide) (by decide +kernel) root_283).trans ?_
  refine (step_no (k + 27) _ _ 284 (by decide) (by decide) (by decide +kernel)).trans ?_
  refine (step_no (k + 26) _ _ 285 (by decide) (by decide) (by decide +kernel)).trans ?_
  refine (step_no (k + 25) _ _ 286 (by decide) (by decide) (by decide +kernel)).trans ?_
  refine (step_no (k + 24) _ _ 287 (by decide) (by decide) (by decide +kernel)).trans ?_
  refine (step_no (k + 23) _ _ 288 (by decide) (by decide) (by decide +kernel)).trans ?_
  refine (step_no (k + 22) _ _ 289 (by decide) (by decide) (by decide +kernel)).trans ?_
  refine (step_no (k + 21) _ _ 290 (by decide) (by decide) (by decide +kernel)).trans ?_
  refine (step_no (k + 20) _ _ 291 (by decide) (by decide) (by decide +kernel)).trans ?_
  refine (step_no (k + 19) _ _ 292 (by decide) (by decide) (by decide +kernel)).trans ?_
  refine (step_yes (k + 18) _ _ 293 _ (by decide) (by decide) (by decide) (by decide +kernel) root_293).trans ?_
  refine (step_no (k + 17) _ _ 294 (by decide) (by decide) (by decide +kernel)).trans ?_
  refine (step_no (k + 16) _ _ 295 (by decide) (by decide) (by decide +kernel)).trans ?_
  refine (step_no (k + 15) _ _ 296 (by decide) (by decide) (by decide +kernel)).trans ?_
  refine (step_no (k + 14) _ _ 297 (by decide) (by decide) (by decide +kernel)).trans ?_
  refine (step_no (k + 13) _ _ 298 (by decide) (by decide) (by decide +kernel)).trans ?_
  refine (step_no (k + 12) _ _ 299 (by decide) (by decide) (by decide +kernel)).trans ?_
  refine (step_no (k + 11) _ _ 300 (by decide) (by decide) (by decide +kernel)).trans ?_
  refine (step_no (k + 10) _ _ 301 (by decide) (by decide) (by decide +kernel)).trans ?_
  refine (step_no (k + 9) _ _ 302 (by decide) (by decide) (by decide +kernel)).trans ?_
  refine (step_no (k + 8) _ _ 303 (by decide) (by decide) (by decide +kernel)).trans ?_
  refine (step_no (k + 7) _ _ 304 (by decide) (by decide) (by decide +kernel)).trans ?_
  refine (step_no (k + 6) _ _ 305 (by decide) (by decide) (by decide +kernel)).trans ?_
  refine (step_no (k + 5) _ _ 306 (by decide) (by decide) (by decide +kernel)).trans ?_
  refine (step_yes (k + 4) _ _ 307 _ (by decide) (by decide) (by decide) (by decide +kernel) root_307).trans ?_
  refine (step_no (k + 3) _ _ 308 (by decide) (by decide) (by decide +kernel)).trans ?_
  refine (step_no (k + 2) _ _ 309 (by decide) (by decide) (by decide +kernel)).trans ?_
  refine (step_no (k + 1) _ _ 310 (by decide) (by decide) (by decide +kernel)).trans ?_
  refine (step_yes (k + 0) _ _ 311 _ (by decide) (by decide) (by decide) (by decide +kernel) root_311).trans ?_
  rfl
theorem constants_tells (k : Nat) (hk : 560 ≤ k) : padlockref01_Constants.f k = some (iv, consts) := by
  obtain ⟨q, rfl⟩ : ∃ q, k = 250 + (q + 310) := ⟨k - 560, by omega⟩
  unfold padlockref01_Constants.f
  rw [run_0, run_1, run_2, run_3, run_4, run_5, run_6, run_7, run_8, run_9]
  rw [show 250 + (q + 0) = (249 + q) + 1 from by omega]
  refine (step_end (249 + q) _ _ _ (by decide)).trans ?_
  rfl
end Go.Proofs.Ytoiiacbbfhlocaa.HSa
end
end
