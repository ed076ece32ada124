/-
  Texts of this claim, merged; own names are short.
-/
import Derived.Test.YtaoejnjkmfkbeaaGreatWAM
set_option linter.unusedVariables false
set_option linter.unusedSimpArgs false
set_option linter.unusedSectionVars false
set_option linter.defProp false
set_option maxRecDepth 100000
set_option maxHeartbeats 8000000
namespace Go.Proofs.YtaoejnjkmfkbeaaGreat
open Go Go.Pg
theorem tk {p : Prop} (h : p := by (repeat' apply aI) <;> (show _ = _) <;> kernel_rfl) : p := h
abbrev yB (t n : Nat) (a : Bool) (i : Option IntKind) (s b : Bool) (e : Option TypeId) (w : Nat) : Prop := (Tryz.prog.underlying t).isSome = true ∧ tsz Tryz.prog t = some n ∧ kH Tryz.prog t = some a ∧ qf Tryz.prog t = i ∧ fK Tryz.prog t = s ∧ kW Tryz.prog t = b ∧ elemT Tryz.prog t = e ∧ tapp Tryz.prog t = some (n, w)
abbrev yS (t : Nat) (i : Option IntKind) (s b : Bool) (e : Option TypeId) (w : Nat) (z : Value) : Prop := yB t 1 false i s b e w ∧ tzc Tryz.prog t = some [.c z] ∧ zelem Tryz.prog t = some (.c z)
abbrev yI (t : Nat) (i : IntKind) (w : Nat) : Prop := yS t (some i) false false none w (.int i 0)
abbrev yL (t e : Nat) : Prop := yS t none false false (some e) 24 (.slice none 0 0)
abbrev yA (t n w : Nat) (l : List V) : Prop := yB t n true none false false none w ∧ tzc Tryz.prog t = some l ∧ zelem Tryz.prog t = some (.agg l)
abbrev yP (t : Nat) (l : List (Nat × Nat)) : Prop := zo Tryz.prog t = some l
abbrev y0 : V := .c (.int .i64 0)
abbrev yu : V := .c (.int .u64 0)
abbrev yf : V := .c (.bool false)
abbrev yn : V := .c (.slice none 0 0)
abbrev yF (t j a b : Nat) : Prop := kJ Tryz.prog t j = some (a, b)
theorem y2 : yI 2 .i64 8 := tk
theorem y3 : yI 3 .i64 8 := tk
theorem y4 : yS 4 none false true none 1 (.bool false) := tk
theorem y5 : yI 5 .u8 1 := tk
theorem y6 : yI 6 .u8 1 := tk
theorem y7 : yA 7 4 24 [y0, y0, yf, .c (.int .u8 0)] ∧ yF 7 0 2 0 ∧ yF 7 1 3 1 ∧ yF 7 2 4 2 ∧ yF 7 3 6 3 ∧ yP 7 [(0, 1), (1, 1), (2, 1), (3, 1)] ∧ sV Tryz.prog 7 = some [(0, .n), (1, .n), (2, .b), (3, .n)] := tk
theorem y9 : yS 9 none true false none 16 (.string ⟨#[]⟩) := tk
theorem y12 : yI 12 .u64 8 := tk
theorem y13 : yA 13 2 24 [.c (.string ⟨#[]⟩), yu] ∧ yF 13 0 9 0 ∧ yF 13 1 12 1 ∧ yP 13 [(0, 1), (1, 1)] := tk
theorem y16 : yS 16 none false false none 8 (.pointer none) ∧ gV Tryz.prog 16 = true ∧ lT Tryz.prog 16 = some 278 := tk
theorem y17 : yS 17 none false false none 8 (.pointer none) ∧ gV Tryz.prog 17 = true ∧ lT Tryz.prog 17 = some 286 := tk
theorem y18 : yA 18 1 8 [.c (.pointer none)] ∧ yF 18 0 17 0 ∧ yP 18 [(0, 1)] := tk
theorem y21 : yI 21 .i32 4 := tk
theorem y22 : yL 22 3 := tk
theorem y23 : yI 23 .u64 8 := tk
theorem y24 : yA 24 4 32 [y0, y0, y0, yu] ∧ yF 24 0 3 0 ∧ yF 24 1 3 1 ∧ yF 24 2 3 2 ∧ yF 24 3 23 3 ∧ yP 24 [(0, 1), (1, 1), (2, 1), (3, 1)] ∧ sV Tryz.prog 24 = some [(0, .n), (1, .n), (2, .n), (3, .n)] := tk
theorem y25 : yA 25 4 32 [y0, y0, y0, yu] ∧ yF 25 0 3 0 ∧ yF 25 1 3 1 ∧ yF 25 2 3 2 ∧ yF 25 3 23 3 ∧ yP 25 [(0, 1), (1, 1), (2, 1), (3, 1)] ∧ sV Tryz.prog 25 = some [(0, .n), (1, .n), (2, .n), (3, .n)] := tk
theorem y26 : yA 26 3 24 [y0, y0, yf] ∧ yF 26 0 3 0 ∧ yF 26 1 3 1 ∧ yF 26 2 4 2 ∧ yP 26 [(0, 1), (1, 1), (2, 1)] ∧ sV Tryz.prog 26 = some [(0, .n), (1, .n), (2, .b)] := tk
theorem y27 : yA 27 3 24 [y0, y0, yf] ∧ yF 27 0 3 0 ∧ yF 27 1 3 1 ∧ yF 27 2 4 2 ∧ yP 27 [(0, 1), (1, 1), (2, 1)] ∧ sV Tryz.prog 27 = some [(0, .n), (1, .n), (2, .b)] := tk
theorem y28 : yA 28 5 56 [y0, y0, yu, yn, yf] ∧ yF 28 0 3 0 ∧ yF 28 1 3 1 ∧ yF 28 2 23 2 ∧ yF 28 3 22 3 ∧ yF 28 4 4 4 ∧ yP 28 [(0, 1), (1, 1), (2, 1), (3, 1), (4, 1)] := tk
theorem y29 : yA 29 5 56 [y0, y0, yu, yn, yf] ∧ yF 29 0 3 0 ∧ yF 29 1 3 1 ∧ yF 29 2 23 2 ∧ yF 29 3 22 3 ∧ yF 29 4 4 4 ∧ yP 29 [(0, 1), (1, 1), (2, 1), (3, 1), (4, 1)] := tk
theorem y30 : yA 30 3 40 [y0, yu, yn] ∧ yF 30 0 3 0 ∧ yF 30 1 23 1 ∧ yF 30 2 22 2 ∧ yP 30 [(0, 1), (1, 1), (2, 1)] := tk
theorem y31 : yA 31 3 40 [y0, yu, yn] ∧ yF 31 0 3 0 ∧ yF 31 1 23 1 ∧ yF 31 2 22 2 ∧ yP 31 [(0, 1), (1, 1), (2, 1)] := tk
theorem y32 : yL 32 149 := tk
theorem y33 : yA 33 4 48 [y0, y0, yn, yf] ∧ yF 33 0 3 0 ∧ yF 33 1 3 1 ∧ yF 33 2 32 2 ∧ yF 33 3 4 3 ∧ yP 33 [(0, 1), (1, 1), (2, 1), (3, 1)] := tk
theorem y34 : yA 34 4 48 [y0, y0, yn, yf] ∧ yF 34 0 3 0 ∧ yF 34 1 3 1 ∧ yF 34 2 32 2 ∧ yF 34 3 4 3 ∧ yP 34 [(0, 1), (1, 1), (2, 1), (3, 1)] := tk
theorem y35 : yA 35 5 56 [y0, y0, y0, yn, yf] ∧ yF 35 0 3 0 ∧ yF 35 1 3 1 ∧ yF 35 2 3 2 ∧ yF 35 3 32 3 ∧ yF 35 4 4 4 ∧ yP 35 [(0, 1), (1, 1), (2, 1), (3, 1), (4, 1)] := tk
theorem y36 : yA 36 5 56 [y0, y0, y0, yn, yf] ∧ yF 36 0 3 0 ∧ yF 36 1 3 1 ∧ yF 36 2 3 2 ∧ yF 36 3 32 3 ∧ yF 36 4 4 4 ∧ yP 36 [(0, 1), (1, 1), (2, 1), (3, 1), (4, 1)] := tk
theorem y37 : yL 37 108 := tk
theorem y38 : yA 38 5 56 [y0, y0, y0, yn, yf] ∧ yF 38 0 3 0 ∧ yF 38 1 3 1 ∧ yF 38 2 3 2 ∧ yF 38 3 37 3 ∧ yF 38 4 4 4 ∧ yP 38 [(0, 1), (1, 1), (2, 1), (3, 1), (4, 1)] := tk
theorem y39 : yA 39 5 56 [y0, y0, y0, yn, yf] ∧ yF 39 0 3 0 ∧ yF 39 1 3 1 ∧ yF 39 2 3 2 ∧ yF 39 3 37 3 ∧ yF 39 4 4 4 ∧ yP 39 [(0, 1), (1, 1), (2, 1), (3, 1), (4, 1)] := tk
theorem y40 : yA 40 29 312 [y0, y0, y0, yu, y0, y0, yf, y0, y0, yu, yn, yf, y0, yu, yn, y0, y0, yn, yf, y0, y0, y0, yn, yf, y0, y0, y0, yn, yf] ∧ yF 40 0 25 0 ∧ yF 40 1 27 4 ∧ yF 40 2 29 7 ∧ yF 40 3 31 12 ∧ yF 40 4 34 15 ∧ yF 40 5 36 19 ∧ yF 40 6 39 24 ∧ yP 40 [(0, 4), (4, 3), (7, 5), (12, 3), (15, 4), (19, 5), (24, 5)] := tk
theorem y41 : yA 41 29 312 [y0, y0, y0, yu, y0, y0, yf, y0, y0, yu, yn, yf, y0, yu, yn, y0, y0, yn, yf, y0, y0, y0, yn, yf, y0, y0, y0, yn, yf] ∧ yF 41 0 25 0 ∧ yF 41 1 27 4 ∧ yF 41 2 29 7 ∧ yF 41 3 31 12 ∧ yF 41 4 34 15 ∧ yF 41 5 36 19 ∧ yF 41 6 39 24 ∧ yP 41 [(0, 4), (4, 3), (7, 5), (12, 3), (15, 4), (19, 5), (24, 5)] := tk
theorem y44 : yA 44 2 24 [.c (.string ⟨#[]⟩), y0] ∧ yF 44 0 9 0 ∧ yF 44 1 3 1 ∧ yP 44 [(0, 1), (1, 1)] ∧ sV Tryz.prog 44 = some [(0, .s), (1, .n)] := tk
theorem y45 : yA 45 2 24 [.c (.string ⟨#[]⟩), y0] ∧ yF 45 0 9 0 ∧ yF 45 1 3 1 ∧ yP 45 [(0, 1), (1, 1)] ∧ sV Tryz.prog 45 = some [(0, .s), (1, .n)] := tk
theorem y47 : yI 47 .u64 8 := tk
theorem y48 : yL 48 5 := tk
theorem y50 : yI 50 .i64 8 := tk
theorem y65 : yL 65 45 := tk
theorem afd : yL 108 9 := tk
theorem afe : yI 132 .u32 4 := tk
theorem aff : yL 137 139 := tk
theorem afg : yB 139 1 false none false false none 16 := tk
theorem afh : yS 146 none false false none 8 (.pointer none) ∧ gV Tryz.prog 146 = true ∧ lT Tryz.prog 146 = some 34 := tk
theorem afi : yA 148 3 32 [.c (.string ⟨#[]⟩), y0, y0] ∧ yF 148 0 9 0 ∧ yF 148 1 3 1 ∧ yF 148 2 3 2 ∧ yP 148 [(0, 1), (1, 1), (2, 1)] ∧ sV Tryz.prog 148 = some [(0, .s), (1, .n), (2, .n)] := tk
theorem afj : yA 149 3 32 [.c (.string ⟨#[]⟩), y0, y0] ∧ yF 149 0 9 0 ∧ yF 149 1 3 1 ∧ yF 149 2 3 2 ∧ yP 149 [(0, 1), (1, 1), (2, 1)] ∧ sV Tryz.prog 149 = some [(0, .s), (1, .n), (2, .n)] := tk
theorem afk : yS 153 none false false none 8 (.pointer none) ∧ gV Tryz.prog 153 = true ∧ lT Tryz.prog 153 = some 36 := tk
theorem afl : yS 160 none false false none 8 (.pointer none) ∧ gV Tryz.prog 160 = true ∧ lT Tryz.prog 160 = some 39 := tk
theorem afm : yA 190 3 24 [y0, y0, y0] ∧ mF Tryz.prog 190 = some (3, 3) := tk
theorem afn : yS 191 none false false none 8 (.pointer none) ∧ gV Tryz.prog 191 = true ∧ lT Tryz.prog 191 = some 193 := tk
theorem afo : yA 192 2 32 [yn, yf] ∧ yF 192 0 48 0 ∧ yF 192 1 4 1 ∧ yP 192 [(0, 1), (1, 1)] := tk
theorem afp : yA 193 2 32 [yn, yf] ∧ yF 193 0 48 0 ∧ yF 193 1 4 1 ∧ yP 193 [(0, 1), (1, 1)] := tk
theorem afq : yS 199 none false false none 8 (.pointer none) ∧ gV Tryz.prog 199 = true ∧ lT Tryz.prog 199 = some 201 := tk
theorem afr : yA 200 2 32 [yn, yf] ∧ yF 200 0 48 0 ∧ yF 200 1 4 1 ∧ yP 200 [(0, 1), (1, 1)] := tk
theorem afs : yA 201 2 32 [yn, yf] ∧ yF 201 0 48 0 ∧ yF 201 1 4 1 ∧ yP 201 [(0, 1), (1, 1)] := tk
theorem aft : yS 203 none false false none 8 (.pointer none) ∧ gV Tryz.prog 203 = true ∧ lT Tryz.prog 203 = some 205 := tk
theorem afu : yA 204 2 32 [yn, yf] ∧ yF 204 0 48 0 ∧ yF 204 1 4 1 ∧ yP 204 [(0, 1), (1, 1)] := tk
theorem afv : yA 205 2 32 [yn, yf] ∧ yF 205 0 48 0 ∧ yF 205 1 4 1 ∧ yP 205 [(0, 1), (1, 1)] := tk
theorem afw : yS 206 none false false none 8 (.pointer none) ∧ gV Tryz.prog 206 = true ∧ lT Tryz.prog 206 = some 208 := tk
theorem afx : yA 207 2 32 [yn, yf] ∧ yF 207 0 48 0 ∧ yF 207 1 4 1 ∧ yP 207 [(0, 1), (1, 1)] := tk
theorem afy : yA 208 2 32 [yn, yf] ∧ yF 208 0 48 0 ∧ yF 208 1 4 1 ∧ yP 208 [(0, 1), (1, 1)] := tk
theorem afz : yB 211 1 false none false false none 8 := tk
theorem afA : yL 214 23 := tk
theorem afB : yS 217 none false false none 8 (.map none) := tk
theorem afC : yS 232 none false false none 8 (.pointer none) ∧ gV Tryz.prog 232 = true ∧ lT Tryz.prog 232 = some 234 := tk
theorem afD : yA 233 3 40 [yn, y0, yf] ∧ yF 233 0 48 0 ∧ yF 233 1 3 1 ∧ yF 233 2 4 2 ∧ yP 233 [(0, 1), (1, 1), (2, 1)] := tk
theorem afE : yA 234 3 40 [yn, y0, yf] ∧ yF 234 0 48 0 ∧ yF 234 1 3 1 ∧ yF 234 2 4 2 ∧ yP 234 [(0, 1), (1, 1), (2, 1)] := tk
theorem afF : yI 243 .i64 8 := tk
theorem afG : yI 260 .u64 8 := tk
theorem afH : yS 263 none false false none 8 (.pointer none) ∧ gV Tryz.prog 263 = true ∧ lT Tryz.prog 263 = some 3 := tk
theorem afI : yS 269 none false false none 8 (.pointer none) ∧ gV Tryz.prog 269 = true ∧ lT Tryz.prog 269 = some 260 := tk
theorem afJ : yA 274 4 40 [.c (.pointer none), .c (.pointer none), .c (.pointer none), .c (.string ⟨#[]⟩)] ∧ yF 274 0 17 0 ∧ yF 274 1 17 1 ∧ yF 274 2 17 2 ∧ yF 274 3 9 3 ∧ yP 274 [(0, 1), (1, 1), (2, 1), (3, 1)] := tk
theorem afK : (Tryz.prog.underlying 276).isSome = true ∧ tsz Tryz.prog 276 = some 0 ∧ kH Tryz.prog 276 = some true ∧ qf Tryz.prog 276 = none ∧ fK Tryz.prog 276 = false ∧ kW Tryz.prog 276 = false ∧ elemT Tryz.prog 276 = none ∧ mF Tryz.prog 276 = some (0, 16) := tk
theorem afL : (Tryz.prog.underlying 277).isSome = true ∧ tsz Tryz.prog 277 = some 0 ∧ kH Tryz.prog 277 = some true ∧ qf Tryz.prog 277 = none ∧ fK Tryz.prog 277 = false ∧ kW Tryz.prog 277 = false ∧ elemT Tryz.prog 277 = none ∧ yF 277 0 276 0 ∧ yP 277 [(0, 0)] := tk
theorem afM : (Tryz.prog.underlying 278).isSome = true ∧ tsz Tryz.prog 278 = some 0 ∧ kH Tryz.prog 278 = some true ∧ qf Tryz.prog 278 = none ∧ fK Tryz.prog 278 = false ∧ kW Tryz.prog 278 = false ∧ elemT Tryz.prog 278 = none ∧ yF 278 0 276 0 ∧ yP 278 [(0, 0)] := tk
theorem afN : yI 279 .u8 1 := tk
theorem afO : yI 280 .u8 1 := tk
theorem afP : (Tryz.prog.underlying 281).isSome = true := tk
theorem afQ : yS 282 none false false none 8 (.pointer none) ∧ gV Tryz.prog 282 = true ∧ lT Tryz.prog 282 = some 5 := tk
theorem afR : yI 283 .i32 4 := tk
theorem afS : yI 284 .i32 4 := tk
theorem afT : yA 285 11 48 [yu, yu, .c (.int .u32 0), .c (.int .u8 0), .c (.int .u8 0), .c (.int .u8 0), .c (.int .u8 0), .c (.nilFunc), .c (.pointer none), .c (.int .i32 0), .c (.int .i32 0)] ∧ yF 285 0 12 0 ∧ yF 285 1 12 1 ∧ yF 285 2 132 2 ∧ yF 285 3 279 3 ∧ yF 285 4 5 4 ∧ yF 285 5 5 5 ∧ yF 285 6 280 6 ∧ yF 285 7 281 7 ∧ yF 285 8 282 8 ∧ yF 285 9 283 9 ∧ yF 285 10 284 10 ∧ yP 285 [(0, 1), (1, 1), (2, 1), (3, 1), (4, 1), (5, 1), (6, 1), (7, 1), (8, 1), (9, 1), (10, 1)] := tk
theorem afU : yA 286 11 48 [yu, yu, .c (.int .u32 0), .c (.int .u8 0), .c (.int .u8 0), .c (.int .u8 0), .c (.int .u8 0), .c (.nilFunc), .c (.pointer none), .c (.int .i32 0), .c (.int .i32 0)] ∧ yF 286 0 12 0 ∧ yF 286 1 12 1 ∧ yF 286 2 132 2 ∧ yF 286 3 279 3 ∧ yF 286 4 5 4 ∧ yF 286 5 5 5 ∧ yF 286 6 280 6 ∧ yF 286 7 281 7 ∧ yF 286 8 282 8 ∧ yF 286 9 283 9 ∧ yF 286 10 284 10 ∧ yP 286 [(0, 1), (1, 1), (2, 1), (3, 1), (4, 1), (5, 1), (6, 1), (7, 1), (8, 1), (9, 1), (10, 1)] := tk
theorem afV : yS 287 none false false none 8 (.pointer none) := tk
theorem Z5 : elemT Tryz.prog 108 = some 9 := by kernel_rfl
theorem aem : zelem Tryz.prog 9 = some (.c (.string ⟨#[]⟩)) := by kernel_rfl
theorem aen : tapp Tryz.prog 9 = some (1, 16) := by kernel_rfl
theorem KI : elemT Tryz.prog 48 = some 5 := by kernel_rfl
theorem abD : zelem Tryz.prog 5 = some (.c (.int .u8 0)) := by kernel_rfl
theorem abE : tapp Tryz.prog 5 = some (1, 1) := by kernel_rfl
theorem aeo : tsz Tryz.prog 5 = some 1 := by kernel_rfl
def tyf := aI y2 (aI y3 (aI y4 (aI y5 (aI y6 (aI y7 (aI y9 (aI y12 (aI y13 (aI y16 (aI y17 (aI y18 (aI y21 (aI y22 (aI y23 (aI y24 (aI y25 (aI y26 (aI y27 (aI y28 (aI y29 (aI y30 (aI y31 (aI y32 (aI y33 (aI y34 (aI y35 (aI y36 (aI y37 (aI y38 (aI y39 (aI y40 (aI y41 (aI y44 (aI y45 (aI y47 (aI y48 (aI y50 (aI y65 (aI afd (aI afe (aI aff (aI afg (aI afh (aI afi (aI afj (aI afk (aI afl (aI afm (aI afn (aI afo (aI afp (aI afq (aI afr (aI afs (aI aft (aI afu (aI afv (aI afw (aI afx (aI afy (aI afz (aI afA (aI afB (aI afC (aI afD (aI afE (aI afF (aI afG (aI afH (aI afI (aI afJ (aI afK (aI afL (aI afM (aI afN (aI afO (aI afP (aI afQ (aI afR (aI afS (aI afT (aI afU afV))))))))))))))))))))))))))))))))))))))))))))))))))))))))))))))))))))))))))))))))))
end Go.Proofs.YtaoejnjkmfkbeaaGreat
