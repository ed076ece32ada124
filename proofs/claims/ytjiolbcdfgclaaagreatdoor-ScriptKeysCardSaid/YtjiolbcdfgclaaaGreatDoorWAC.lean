/-
  Texts of this claim, merged. Each bears its own remark.
-/
import Derived.Test.YtjiolbcdfgclaaaGreatDoorWAB
import Derived.Lib.Split
import Derived.Lib.SplitLaws
import Derived.Lib.CountLaws
import Derived.Lib.IndexMore
import Derived.Lib.Strings
import Derived.Lib.Join
set_option linter.unusedVariables false
set_option linter.unusedSimpArgs false
set_option linter.unusedSectionVars false
section
/-
  The seat's types: what the walks ask of them (written by a program of mine off the dump's table of types).
-/
namespace Go.Proofs.YtjiolbcdfgclaaaGreatDoor
open Go Go.Pg
set_option linter.defProp false
set_option maxRecDepth 10000

theorem ty_u2 : (Tryz.prog.underlying 2).isSome = true := by kernel_rfl
theorem ty_z2 : tsz Tryz.prog 2 = some 1 := by kernel_rfl
theorem ty_a2 : isAggT Tryz.prog 2 = some false := by kernel_rfl
theorem ty_i2 : intT Tryz.prog 2 = some .i64 := by kernel_rfl
theorem ty_s2 : isStr Tryz.prog 2 = false := by kernel_rfl
theorem ty_b2 : isBoolT Tryz.prog 2 = false := by kernel_rfl
theorem ty_e2 : elemT Tryz.prog 2 = none := by kernel_rfl
theorem ty_t2 : tapp Tryz.prog 2 = some (1, 8) := by kernel_rfl
theorem ty_c2 : tzc Tryz.prog 2 = some [.c (.int .i64 0)] := by kernel_rfl
theorem ty_y2 : zelem Tryz.prog 2 = some (.c (.int .i64 0)) := by kernel_rfl
theorem ty_u3 : (Tryz.prog.underlying 3).isSome = true := by kernel_rfl
theorem ty_z3 : tsz Tryz.prog 3 = some 1 := by kernel_rfl
theorem ty_a3 : isAggT Tryz.prog 3 = some false := by kernel_rfl
theorem ty_i3 : intT Tryz.prog 3 = some .i64 := by kernel_rfl
theorem ty_s3 : isStr Tryz.prog 3 = false := by kernel_rfl
theorem ty_b3 : isBoolT Tryz.prog 3 = false := by kernel_rfl
theorem ty_e3 : elemT Tryz.prog 3 = none := by kernel_rfl
theorem ty_t3 : tapp Tryz.prog 3 = some (1, 8) := by kernel_rfl
theorem ty_c3 : tzc Tryz.prog 3 = some [.c (.int .i64 0)] := by kernel_rfl
theorem ty_y3 : zelem Tryz.prog 3 = some (.c (.int .i64 0)) := by kernel_rfl
theorem ty_u4 : (Tryz.prog.underlying 4).isSome = true := by kernel_rfl
theorem ty_z4 : tsz Tryz.prog 4 = some 1 := by kernel_rfl
theorem ty_a4 : isAggT Tryz.prog 4 = some false := by kernel_rfl
theorem ty_i4 : intT Tryz.prog 4 = none := by kernel_rfl
theorem ty_s4 : isStr Tryz.prog 4 = false := by kernel_rfl
theorem ty_b4 : isBoolT Tryz.prog 4 = true := by kernel_rfl
theorem ty_e4 : elemT Tryz.prog 4 = none := by kernel_rfl
theorem ty_t4 : tapp Tryz.prog 4 = some (1, 1) := by kernel_rfl
theorem ty_c4 : tzc Tryz.prog 4 = some [.c (.bool false)] := by kernel_rfl
theorem ty_y4 : zelem Tryz.prog 4 = some (.c (.bool false)) := by kernel_rfl
theorem ty_u5 : (Tryz.prog.underlying 5).isSome = true := by kernel_rfl
theorem ty_z5 : tsz Tryz.prog 5 = some 1 := by kernel_rfl
theorem ty_a5 : isAggT Tryz.prog 5 = some false := by kernel_rfl
theorem ty_i5 : intT Tryz.prog 5 = some .u8 := by kernel_rfl
theorem ty_s5 : isStr Tryz.prog 5 = false := by kernel_rfl
theorem ty_b5 : isBoolT Tryz.prog 5 = false := by kernel_rfl
theorem ty_e5 : elemT Tryz.prog 5 = none := by kernel_rfl
theorem ty_t5 : tapp Tryz.prog 5 = some (1, 1) := by kernel_rfl
theorem ty_c5 : tzc Tryz.prog 5 = some [.c (.int .u8 0)] := by kernel_rfl
theorem ty_y5 : zelem Tryz.prog 5 = some (.c (.int .u8 0)) := by kernel_rfl
theorem ty_u6 : (Tryz.prog.underlying 6).isSome = true := by kernel_rfl
theorem ty_z6 : tsz Tryz.prog 6 = some 1 := by kernel_rfl
theorem ty_a6 : isAggT Tryz.prog 6 = some false := by kernel_rfl
theorem ty_i6 : intT Tryz.prog 6 = some .u8 := by kernel_rfl
theorem ty_s6 : isStr Tryz.prog 6 = false := by kernel_rfl
theorem ty_b6 : isBoolT Tryz.prog 6 = false := by kernel_rfl
theorem ty_e6 : elemT Tryz.prog 6 = none := by kernel_rfl
theorem ty_t6 : tapp Tryz.prog 6 = some (1, 1) := by kernel_rfl
theorem ty_c6 : tzc Tryz.prog 6 = some [.c (.int .u8 0)] := by kernel_rfl
theorem ty_y6 : zelem Tryz.prog 6 = some (.c (.int .u8 0)) := by kernel_rfl
theorem ty_u7 : (Tryz.prog.underlying 7).isSome = true := by kernel_rfl
theorem ty_z7 : tsz Tryz.prog 7 = some 4 := by kernel_rfl
theorem ty_a7 : isAggT Tryz.prog 7 = some true := by kernel_rfl
theorem ty_i7 : intT Tryz.prog 7 = none := by kernel_rfl
theorem ty_s7 : isStr Tryz.prog 7 = false := by kernel_rfl
theorem ty_b7 : isBoolT Tryz.prog 7 = false := by kernel_rfl
theorem ty_e7 : elemT Tryz.prog 7 = none := by kernel_rfl
theorem ty_f7_0 : fieldT Tryz.prog 7 0 = some (2, 0) := by kernel_rfl
theorem ty_f7_1 : fieldT Tryz.prog 7 1 = some (3, 1) := by kernel_rfl
theorem ty_f7_2 : fieldT Tryz.prog 7 2 = some (4, 2) := by kernel_rfl
theorem ty_f7_3 : fieldT Tryz.prog 7 3 = some (6, 3) := by kernel_rfl
theorem ty_pl7 : placesT Tryz.prog 7 = some [(0, 1), (1, 1), (2, 1), (3, 1)] := by kernel_rfl
theorem ty_eq7 : eqPl Tryz.prog 7 = some [(0, .n), (1, .n), (2, .b), (3, .n)] := by kernel_rfl
theorem ty_t7 : tapp Tryz.prog 7 = some (4, 24) := by kernel_rfl
theorem ty_c7 : tzc Tryz.prog 7 = some [.c (.int .i64 0), .c (.int .i64 0), .c (.bool false), .c (.int .u8 0)] := by kernel_rfl
theorem ty_y7 : zelem Tryz.prog 7 = some (.agg [.c (.int .i64 0), .c (.int .i64 0), .c (.bool false), .c (.int .u8 0)]) := by kernel_rfl
theorem ty_u9 : (Tryz.prog.underlying 9).isSome = true := by kernel_rfl
theorem ty_z9 : tsz Tryz.prog 9 = some 1 := by kernel_rfl
theorem ty_a9 : isAggT Tryz.prog 9 = some false := by kernel_rfl
theorem ty_i9 : intT Tryz.prog 9 = none := by kernel_rfl
theorem ty_s9 : isStr Tryz.prog 9 = true := by kernel_rfl
theorem ty_b9 : isBoolT Tryz.prog 9 = false := by kernel_rfl
theorem ty_e9 : elemT Tryz.prog 9 = none := by kernel_rfl
theorem ty_t9 : tapp Tryz.prog 9 = some (1, 16) := by kernel_rfl
theorem ty_c9 : tzc Tryz.prog 9 = some [.c (.string ⟨#[]⟩)] := by kernel_rfl
theorem ty_y9 : zelem Tryz.prog 9 = some (.c (.string ⟨#[]⟩)) := by kernel_rfl
theorem ty_u12 : (Tryz.prog.underlying 12).isSome = true := by kernel_rfl
theorem ty_z12 : tsz Tryz.prog 12 = some 1 := by kernel_rfl
theorem ty_a12 : isAggT Tryz.prog 12 = some false := by kernel_rfl
theorem ty_i12 : intT Tryz.prog 12 = some .u64 := by kernel_rfl
theorem ty_s12 : isStr Tryz.prog 12 = false := by kernel_rfl
theorem ty_b12 : isBoolT Tryz.prog 12 = false := by kernel_rfl
theorem ty_e12 : elemT Tryz.prog 12 = none := by kernel_rfl
theorem ty_t12 : tapp Tryz.prog 12 = some (1, 8) := by kernel_rfl
theorem ty_c12 : tzc Tryz.prog 12 = some [.c (.int .u64 0)] := by kernel_rfl
theorem ty_y12 : zelem Tryz.prog 12 = some (.c (.int .u64 0)) := by kernel_rfl
theorem ty_u13 : (Tryz.prog.underlying 13).isSome = true := by kernel_rfl
theorem ty_z13 : tsz Tryz.prog 13 = some 2 := by kernel_rfl
theorem ty_a13 : isAggT Tryz.prog 13 = some true := by kernel_rfl
theorem ty_i13 : intT Tryz.prog 13 = none := by kernel_rfl
theorem ty_s13 : isStr Tryz.prog 13 = false := by kernel_rfl
theorem ty_b13 : isBoolT Tryz.prog 13 = false := by kernel_rfl
theorem ty_e13 : elemT Tryz.prog 13 = none := by kernel_rfl
theorem ty_f13_0 : fieldT Tryz.prog 13 0 = some (9, 0) := by kernel_rfl
theorem ty_f13_1 : fieldT Tryz.prog 13 1 = some (12, 1) := by kernel_rfl
theorem ty_pl13 : placesT Tryz.prog 13 = some [(0, 1), (1, 1)] := by kernel_rfl
theorem ty_t13 : tapp Tryz.prog 13 = some (2, 24) := by kernel_rfl
theorem ty_c13 : tzc Tryz.prog 13 = some [.c (.string ⟨#[]⟩), .c (.int .u64 0)] := by kernel_rfl
theorem ty_y13 : zelem Tryz.prog 13 = some (.agg [.c (.string ⟨#[]⟩), .c (.int .u64 0)]) := by kernel_rfl
theorem ty_u16 : (Tryz.prog.underlying 16).isSome = true := by kernel_rfl
theorem ty_z16 : tsz Tryz.prog 16 = some 1 := by kernel_rfl
theorem ty_a16 : isAggT Tryz.prog 16 = some false := by kernel_rfl
theorem ty_i16 : intT Tryz.prog 16 = none := by kernel_rfl
theorem ty_s16 : isStr Tryz.prog 16 = false := by kernel_rfl
theorem ty_b16 : isBoolT Tryz.prog 16 = false := by kernel_rfl
theorem ty_e16 : elemT Tryz.prog 16 = none := by kernel_rfl
theorem ty_p16 : isPtr Tryz.prog 16 = true := by kernel_rfl
theorem ty_q16 : ptrTo Tryz.prog 16 = some 298 := by kernel_rfl
theorem ty_t16 : tapp Tryz.prog 16 = some (1, 8) := by kernel_rfl
theorem ty_c16 : tzc Tryz.prog 16 = some [.c (.pointer none)] := by kernel_rfl
theorem ty_y16 : zelem Tryz.prog 16 = some (.c (.pointer none)) := by kernel_rfl
theorem ty_u17 : (Tryz.prog.underlying 17).isSome = true := by kernel_rfl
theorem ty_z17 : tsz Tryz.prog 17 = some 1 := by kernel_rfl
theorem ty_a17 : isAggT Tryz.prog 17 = some false := by kernel_rfl
theorem ty_i17 : intT Tryz.prog 17 = none := by kernel_rfl
theorem ty_s17 : isStr Tryz.prog 17 = false := by kernel_rfl
theorem ty_b17 : isBoolT Tryz.prog 17 = false := by kernel_rfl
theorem ty_e17 : elemT Tryz.prog 17 = none := by kernel_rfl
theorem ty_p17 : isPtr Tryz.prog 17 = true := by kernel_rfl
theorem ty_q17 : ptrTo Tryz.prog 17 = some 305 := by kernel_rfl
theorem ty_t17 : tapp Tryz.prog 17 = some (1, 8) := by kernel_rfl
theorem ty_c17 : tzc Tryz.prog 17 = some [.c (.pointer none)] := by kernel_rfl
theorem ty_y17 : zelem Tryz.prog 17 = some (.c (.pointer none)) := by kernel_rfl
theorem ty_u18 : (Tryz.prog.underlying 18).isSome = true := by kernel_rfl
theorem ty_z18 : tsz Tryz.prog 18 = some 1 := by kernel_rfl
theorem ty_a18 : isAggT Tryz.prog 18 = some true := by kernel_rfl
theorem ty_i18 : intT Tryz.prog 18 = none := by kernel_rfl
theorem ty_s18 : isStr Tryz.prog 18 = false := by kernel_rfl
theorem ty_b18 : isBoolT Tryz.prog 18 = false := by kernel_rfl
theorem ty_e18 : elemT Tryz.prog 18 = none := by kernel_rfl
theorem ty_f18_0 : fieldT Tryz.prog 18 0 = some (17, 0) := by kernel_rfl
theorem ty_pl18 : placesT Tryz.prog 18 = some [(0, 1)] := by kernel_rfl
theorem ty_t18 : tapp Tryz.prog 18 = some (1, 8) := by kernel_rfl
theorem ty_c18 : tzc Tryz.prog 18 = some [.c (.pointer none)] := by kernel_rfl
theorem ty_y18 : zelem Tryz.prog 18 = some (.agg [.c (.pointer none)]) := by kernel_rfl
theorem ty_u21 : (Tryz.prog.underlying 21).isSome = true := by kernel_rfl
theorem ty_z21 : tsz Tryz.prog 21 = some 1 := by kernel_rfl
theorem ty_a21 : isAggT Tryz.prog 21 = some false := by kernel_rfl
theorem ty_i21 : intT Tryz.prog 21 = some .i32 := by kernel_rfl
theorem ty_s21 : isStr Tryz.prog 21 = false := by kernel_rfl
theorem ty_b21 : isBoolT Tryz.prog 21 = false := by kernel_rfl
theorem ty_e21 : elemT Tryz.prog 21 = none := by kernel_rfl
theorem ty_t21 : tapp Tryz.prog 21 = some (1, 4) := by kernel_rfl
theorem ty_c21 : tzc Tryz.prog 21 = some [.c (.int .i32 0)] := by kernel_rfl
theorem ty_y21 : zelem Tryz.prog 21 = some (.c (.int .i32 0)) := by kernel_rfl
theorem ty_u22 : (Tryz.prog.underlying 22).isSome = true := by kernel_rfl
theorem ty_z22 : tsz Tryz.prog 22 = some 1 := by kernel_rfl
theorem ty_a22 : isAggT Tryz.prog 22 = some false := by kernel_rfl
theorem ty_i22 : intT Tryz.prog 22 = none := by kernel_rfl
theorem ty_s22 : isStr Tryz.prog 22 = false := by kernel_rfl
theorem ty_b22 : isBoolT Tryz.prog 22 = false := by kernel_rfl
theorem ty_e22 : elemT Tryz.prog 22 = some 3 := by kernel_rfl
theorem ty_t22 : tapp Tryz.prog 22 = some (1, 24) := by kernel_rfl
theorem ty_c22 : tzc Tryz.prog 22 = some [.c (.slice none 0 0)] := by kernel_rfl
theorem ty_y22 : zelem Tryz.prog 22 = some (.c (.slice none 0 0)) := by kernel_rfl
theorem ty_u23 : (Tryz.prog.underlying 23).isSome = true := by kernel_rfl
theorem ty_z23 : tsz Tryz.prog 23 = some 1 := by kernel_rfl
theorem ty_a23 : isAggT Tryz.prog 23 = some false := by kernel_rfl
theorem ty_i23 : intT Tryz.prog 23 = none := by kernel_rfl
theorem ty_s23 : isStr Tryz.prog 23 = false := by kernel_rfl
theorem ty_b23 : isBoolT Tryz.prog 23 = false := by kernel_rfl
theorem ty_e23 : elemT Tryz.prog 23 = some 9 := by kernel_rfl
theorem ty_t23 : tapp Tryz.prog 23 = some (1, 24) := by kernel_rfl
theorem ty_c23 : tzc Tryz.prog 23 = some [.c (.slice none 0 0)] := by kernel_rfl
theorem ty_y23 : zelem Tryz.prog 23 = some (.c (.slice none 0 0)) := by kernel_rfl
theorem ty_u24 : (Tryz.prog.underlying 24).isSome = true := by kernel_rfl
theorem ty_z24 : tsz Tryz.prog 24 = some 1 := by kernel_rfl
theorem ty_a24 : isAggT Tryz.prog 24 = some false := by kernel_rfl
theorem ty_i24 : intT Tryz.prog 24 = some .u64 := by kernel_rfl
theorem ty_s24 : isStr Tryz.prog 24 = false := by kernel_rfl
theorem ty_b24 : isBoolT Tryz.prog 24 = false := by kernel_rfl
theorem ty_e24 : elemT Tryz.prog 24 = none := by kernel_rfl
theorem ty_t24 : tapp Tryz.prog 24 = some (1, 8) := by kernel_rfl
theorem ty_c24 : tzc Tryz.prog 24 = some [.c (.int .u64 0)] := by kernel_rfl
theorem ty_y24 : zelem Tryz.prog 24 = some (.c (.int .u64 0)) := by kernel_rfl
theorem ty_u25 : (Tryz.prog.underlying 25).isSome = true := by kernel_rfl
theorem ty_z25 : tsz Tryz.prog 25 = some 4 := by kernel_rfl
theorem ty_a25 : isAggT Tryz.prog 25 = some true := by kernel_rfl
theorem ty_i25 : intT Tryz.prog 25 = none := by kernel_rfl
theorem ty_s25 : isStr Tryz.prog 25 = false := by kernel_rfl
theorem ty_b25 : isBoolT Tryz.prog 25 = false := by kernel_rfl
theorem ty_e25 : elemT Tryz.prog 25 = none := by kernel_rfl
theorem ty_f25_0 : fieldT Tryz.prog 25 0 = some (3, 0) := by kernel_rfl
theorem ty_f25_1 : fieldT Tryz.prog 25 1 = some (3, 1) := by kernel_rfl
theorem ty_f25_2 : fieldT Tryz.prog 25 2 = some (3, 2) := by kernel_rfl
theorem ty_f25_3 : fieldT Tryz.prog 25 3 = some (24, 3) := by kernel_rfl
theorem ty_pl25 : placesT Tryz.prog 25 = some [(0, 1), (1, 1), (2, 1), (3, 1)] := by kernel_rfl
theorem ty_eq25 : eqPl Tryz.prog 25 = some [(0, .n), (1, .n), (2, .n), (3, .n)] := by kernel_rfl
theorem ty_t25 : tapp Tryz.prog 25 = some (4, 32) := by kernel_rfl
theorem ty_c25 : tzc Tryz.prog 25 = some [.c (.int .i64 0), .c (.int .i64 0), .c (.int .i64 0), .c (.int .u64 0)] := by kernel_rfl
theorem ty_y25 : zelem Tryz.prog 25 = some (.agg [.c (.int .i64 0), .c (.int .i64 0), .c (.int .i64 0), .c (.int .u64 0)]) := by kernel_rfl
theorem ty_u26 : (Tryz.prog.underlying 26).isSome = true := by kernel_rfl
theorem ty_z26 : tsz Tryz.prog 26 = some 4 := by kernel_rfl
theorem ty_a26 : isAggT Tryz.prog 26 = some true := by kernel_rfl
theorem ty_i26 : intT Tryz.prog 26 = none := by kernel_rfl
theorem ty_s26 : isStr Tryz.prog 26 = false := by kernel_rfl
theorem ty_b26 : isBoolT Tryz.prog 26 = false := by kernel_rfl
theorem ty_e26 : elemT Tryz.prog 26 = none := by kernel_rfl
theorem ty_f26_0 : fieldT Tryz.prog 26 0 = some (3, 0) := by kernel_rfl
theorem ty_f26_1 : fieldT Tryz.prog 26 1 = some (3, 1) := by kernel_rfl
theorem ty_f26_2 : fieldT Tryz.prog 26 2 = some (3, 2) := by kernel_rfl
theorem ty_f26_3 : fieldT Tryz.prog 26 3 = some (24, 3) := by kernel_rfl
theorem ty_pl26 : placesT Tryz.prog 26 = some [(0, 1), (1, 1), (2, 1), (3, 1)] := by kernel_rfl
theorem ty_eq26 : eqPl Tryz.prog 26 = some [(0, .n), (1, .n), (2, .n), (3, .n)] := by kernel_rfl
theorem ty_t26 : tapp Tryz.prog 26 = some (4, 32) := by kernel_rfl
theorem ty_c26 : tzc Tryz.prog 26 = some [.c (.int .i64 0), .c (.int .i64 0), .c (.int .i64 0), .c (.int .u64 0)] := by kernel_rfl
theorem ty_y26 : zelem Tryz.prog 26 = some (.agg [.c (.int .i64 0), .c (.int .i64 0), .c (.int .i64 0), .c (.int .u64 0)]) := by kernel_rfl
theorem ty_u27 : (Tryz.prog.underlying 27).isSome = true := by kernel_rfl
theorem ty_z27 : tsz Tryz.prog 27 = some 1 := by kernel_rfl
theorem ty_a27 : isAggT Tryz.prog 27 = some false := by kernel_rfl
theorem ty_i27 : intT Tryz.prog 27 = none := by kernel_rfl
theorem ty_s27 : isStr Tryz.prog 27 = false := by kernel_rfl
theorem ty_b27 : isBoolT Tryz.prog 27 = false := by kernel_rfl
theorem ty_e27 : elemT Tryz.prog 27 = some 64 := by kernel_rfl
theorem ty_t27 : tapp Tryz.prog 27 = some (1, 24) := by kernel_rfl
theorem ty_c27 : tzc Tryz.prog 27 = some [.c (.slice none 0 0)] := by kernel_rfl
theorem ty_y27 : zelem Tryz.prog 27 = some (.c (.slice none 0 0)) := by kernel_rfl
theorem ty_u28 : (Tryz.prog.underlying 28).isSome = true := by kernel_rfl
theorem ty_z28 : tsz Tryz.prog 28 = some 1 := by kernel_rfl
theorem ty_a28 : isAggT Tryz.prog 28 = some false := by kernel_rfl
theorem ty_i28 : intT Tryz.prog 28 = none := by kernel_rfl
theorem ty_s28 : isStr Tryz.prog 28 = false := by kernel_rfl
theorem ty_b28 : isBoolT Tryz.prog 28 = false := by kernel_rfl
theorem ty_e28 : elemT Tryz.prog 28 = some 5 := by kernel_rfl
theorem ty_t28 : tapp Tryz.prog 28 = some (1, 24) := by kernel_rfl
theorem ty_c28 : tzc Tryz.prog 28 = some [.c (.slice none 0 0)] := by kernel_rfl
theorem ty_y28 : zelem Tryz.prog 28 = some (.c (.slice none 0 0)) := by kernel_rfl
theorem ty_u29 : (Tryz.prog.underlying 29).isSome = true := by kernel_rfl
theorem ty_z29 : tsz Tryz.prog 29 = some 5 := by kernel_rfl
theorem ty_a29 : isAggT Tryz.prog 29 = some true := by kernel_rfl
theorem ty_i29 : intT Tryz.prog 29 = none := by kernel_rfl
theorem ty_s29 : isStr Tryz.prog 29 = false := by kernel_rfl
theorem ty_b29 : isBoolT Tryz.prog 29 = false := by kernel_rfl
theorem ty_e29 : elemT Tryz.prog 29 = none := by kernel_rfl
theorem ty_f29_0 : fieldT Tryz.prog 29 0 = some (3, 0) := by kernel_rfl
theorem ty_f29_1 : fieldT Tryz.prog 29 1 = some (9, 1) := by kernel_rfl
theorem ty_f29_2 : fieldT Tryz.prog 29 2 = some (3, 2) := by kernel_rfl
theorem ty_f29_3 : fieldT Tryz.prog 29 3 = some (3, 3) := by kernel_rfl
theorem ty_f29_4 : fieldT Tryz.prog 29 4 = some (3, 4) := by kernel_rfl
theorem ty_pl29 : placesT Tryz.prog 29 = some [(0, 1), (1, 1), (2, 1), (3, 1), (4, 1)] := by kernel_rfl
theorem ty_eq29 : eqPl Tryz.prog 29 = some [(0, .n), (1, .s), (2, .n), (3, .n), (4, .n)] := by kernel_rfl
theorem ty_t29 : tapp Tryz.prog 29 = some (5, 48) := by kernel_rfl
theorem ty_c29 : tzc Tryz.prog 29 = some [.c (.int .i64 0), .c (.string ⟨#[]⟩), .c (.int .i64 0), .c (.int .i64 0), .c (.int .i64 0)] := by kernel_rfl
theorem ty_y29 : zelem Tryz.prog 29 = some (.agg [.c (.int .i64 0), .c (.string ⟨#[]⟩), .c (.int .i64 0), .c (.int .i64 0), .c (.int .i64 0)]) := by kernel_rfl
theorem ty_u30 : (Tryz.prog.underlying 30).isSome = true := by kernel_rfl
theorem ty_z30 : tsz Tryz.prog 30 = some 5 := by kernel_rfl
theorem ty_a30 : isAggT Tryz.prog 30 = some true := by kernel_rfl
theorem ty_i30 : intT Tryz.prog 30 = none := by kernel_rfl
theorem ty_s30 : isStr Tryz.prog 30 = false := by kernel_rfl
theorem ty_b30 : isBoolT Tryz.prog 30 = false := by kernel_rfl
theorem ty_e30 : elemT Tryz.prog 30 = none := by kernel_rfl
theorem ty_f30_0 : fieldT Tryz.prog 30 0 = some (3, 0) := by kernel_rfl
theorem ty_f30_1 : fieldT Tryz.prog 30 1 = some (9, 1) := by kernel_rfl
theorem ty_f30_2 : fieldT Tryz.prog 30 2 = some (3, 2) := by kernel_rfl
theorem ty_f30_3 : fieldT Tryz.prog 30 3 = some (3, 3) := by kernel_rfl
theorem ty_f30_4 : fieldT Tryz.prog 30 4 = some (3, 4) := by kernel_rfl
theorem ty_pl30 : placesT Tryz.prog 30 = some [(0, 1), (1, 1), (2, 1), (3, 1), (4, 1)] := by kernel_rfl
theorem ty_eq30 : eqPl Tryz.prog 30 = some [(0, .n), (1, .s), (2, .n), (3, .n), (4, .n)] := by kernel_rfl
theorem ty_t30 : tapp Tryz.prog 30 = some (5, 48) := by kernel_rfl
theorem ty_c30 : tzc Tryz.prog 30 = some [.c (.int .i64 0), .c (.string ⟨#[]⟩), .c (.int .i64 0), .c (.int .i64 0), .c (.int .i64 0)] := by kernel_rfl
theorem ty_y30 : zelem Tryz.prog 30 = some (.agg [.c (.int .i64 0), .c (.string ⟨#[]⟩), .c (.int .i64 0), .c (.int .i64 0), .c (.int .i64 0)]) := by kernel_rfl
theorem ty_u31 : (Tryz.prog.underlying 31).isSome = true := by kernel_rfl
theorem ty_z31 : tsz Tryz.prog 31 = some 22 := by kernel_rfl
theorem ty_a31 : isAggT Tryz.prog 31 = some true := by kernel_rfl
theorem ty_i31 : intT Tryz.prog 31 = none := by kernel_rfl
theorem ty_s31 : isStr Tryz.prog 31 = false := by kernel_rfl
theorem ty_b31 : isBoolT Tryz.prog 31 = false := by kernel_rfl
theorem ty_e31 : elemT Tryz.prog 31 = none := by kernel_rfl
theorem ty_f31_0 : fieldT Tryz.prog 31 0 = some (3, 0) := by kernel_rfl
theorem ty_f31_1 : fieldT Tryz.prog 31 1 = some (9, 1) := by kernel_rfl
theorem ty_f31_2 : fieldT Tryz.prog 31 2 = some (9, 2) := by kernel_rfl
theorem ty_f31_3 : fieldT Tryz.prog 31 3 = some (23, 3) := by kernel_rfl
theorem ty_f31_4 : fieldT Tryz.prog 31 4 = some (26, 4) := by kernel_rfl
theorem ty_f31_5 : fieldT Tryz.prog 31 5 = some (27, 8) := by kernel_rfl
theorem ty_f31_6 : fieldT Tryz.prog 31 6 = some (28, 9) := by kernel_rfl
theorem ty_f31_7 : fieldT Tryz.prog 31 7 = some (3, 10) := by kernel_rfl
theorem ty_f31_8 : fieldT Tryz.prog 31 8 = some (3, 11) := by kernel_rfl
theorem ty_f31_9 : fieldT Tryz.prog 31 9 = some (3, 12) := by kernel_rfl
theorem ty_f31_10 : fieldT Tryz.prog 31 10 = some (3, 13) := by kernel_rfl
theorem ty_f31_11 : fieldT Tryz.prog 31 11 = some (3, 14) := by kernel_rfl
theorem ty_f31_12 : fieldT Tryz.prog 31 12 = some (3, 15) := by kernel_rfl
theorem ty_f31_13 : fieldT Tryz.prog 31 13 = some (30, 16) := by kernel_rfl
theorem ty_f31_14 : fieldT Tryz.prog 31 14 = some (28, 21) := by kernel_rfl
theorem ty_pl31 : placesT Tryz.prog 31 = some [(0, 1), (1, 1), (2, 1), (3, 1), (4, 4), (8, 1), (9, 1), (10, 1), (11, 1), (12, 1), (13, 1), (14, 1), (15, 1), (16, 5), (21, 1)] := by kernel_rfl
theorem ty_t31 : tapp Tryz.prog 31 = some (22, 264) := by kernel_rfl
theorem ty_c31 : tzc Tryz.prog 31 = some [.c (.int .i64 0), .c (.string ⟨#[]⟩), .c (.string ⟨#[]⟩), .c (.slice none 0 0), .c (.int .i64 0), .c (.int .i64 0), .c (.int .i64 0), .c (.int .u64 0), .c (.slice none 0 0), .c (.slice none 0 0), .c (.int .i64 0), .c (.int .i64 0), .c (.int .i64 0), .c (.int .i64 0), .c (.int .i64 0), .c (.int .i64 0), .c (.int .i64 0), .c (.string ⟨#[]⟩), .c (.int .i64 0), .c (.int .i64 0), .c (.int .i64 0), .c (.slice none 0 0)] := by kernel_rfl
theorem ty_y31 : zelem Tryz.prog 31 = some (.agg [.c (.int .i64 0), .c (.string ⟨#[]⟩), .c (.string ⟨#[]⟩), .c (.slice none 0 0), .c (.int .i64 0), .c (.int .i64 0), .c (.int .i64 0), .c (.int .u64 0), .c (.slice none 0 0), .c (.slice none 0 0), .c (.int .i64 0), .c (.int .i64 0), .c (.int .i64 0), .c (.int .i64 0), .c (.int .i64 0), .c (.int .i64 0), .c (.int .i64 0), .c (.string ⟨#[]⟩), .c (.int .i64 0), .c (.int .i64 0), .c (.int .i64 0), .c (.slice none 0 0)]) := by kernel_rfl
theorem ty_u32 : (Tryz.prog.underlying 32).isSome = true := by kernel_rfl
theorem ty_z32 : tsz Tryz.prog 32 = some 22 := by kernel_rfl
theorem ty_a32 : isAggT Tryz.prog 32 = some true := by kernel_rfl
theorem ty_i32 : intT Tryz.prog 32 = none := by kernel_rfl
theorem ty_s32 : isStr Tryz.prog 32 = false := by kernel_rfl
theorem ty_b32 : isBoolT Tryz.prog 32 = false := by kernel_rfl
theorem ty_e32 : elemT Tryz.prog 32 = none := by kernel_rfl
theorem ty_f32_0 : fieldT Tryz.prog 32 0 = some (3, 0) := by kernel_rfl
theorem ty_f32_1 : fieldT Tryz.prog 32 1 = some (9, 1) := by kernel_rfl
theorem ty_f32_2 : fieldT Tryz.prog 32 2 = some (9, 2) := by kernel_rfl
theorem ty_f32_3 : fieldT Tryz.prog 32 3 = some (23, 3) := by kernel_rfl
theorem ty_f32_4 : fieldT Tryz.prog 32 4 = some (26, 4) := by kernel_rfl
theorem ty_f32_5 : fieldT Tryz.prog 32 5 = some (27, 8) := by kernel_rfl
theorem ty_f32_6 : fieldT Tryz.prog 32 6 = some (28, 9) := by kernel_rfl
theorem ty_f32_7 : fieldT Tryz.prog 32 7 = some (3, 10) := by kernel_rfl
theorem ty_f32_8 : fieldT Tryz.prog 32 8 = some (3, 11) := by kernel_rfl
theorem ty_f32_9 : fieldT Tryz.prog 32 9 = some (3, 12) := by kernel_rfl
theorem ty_f32_10 : fieldT Tryz.prog 32 10 = some (3, 13) := by kernel_rfl
theorem ty_f32_11 : fieldT Tryz.prog 32 11 = some (3, 14) := by kernel_rfl
theorem ty_f32_12 : fieldT Tryz.prog 32 12 = some (3, 15) := by kernel_rfl
theorem ty_f32_13 : fieldT Tryz.prog 32 13 = some (30, 16) := by kernel_rfl
theorem ty_f32_14 : fieldT Tryz.prog 32 14 = some (28, 21) := by kernel_rfl
theorem ty_pl32 : placesT Tryz.prog 32 = some [(0, 1), (1, 1), (2, 1), (3, 1), (4, 4), (8, 1), (9, 1), (10, 1), (11, 1), (12, 1), (13, 1), (14, 1), (15, 1), (16, 5), (21, 1)] := by kernel_rfl
theorem ty_t32 : tapp Tryz.prog 32 = some (22, 264) := by kernel_rfl
theorem ty_c32 : tzc Tryz.prog 32 = some [.c (.int .i64 0), .c (.string ⟨#[]⟩), .c (.string ⟨#[]⟩), .c (.slice none 0 0), .c (.int .i64 0), .c (.int .i64 0), .c (.int .i64 0), .c (.int .u64 0), .c (.slice none 0 0), .c (.slice none 0 0), .c (.int .i64 0), .c (.int .i64 0), .c (.int .i64 0), .c (.int .i64 0), .c (.int .i64 0), .c (.int .i64 0), .c (.int .i64 0), .c (.string ⟨#[]⟩), .c (.int .i64 0), .c (.int .i64 0), .c (.int .i64 0), .c (.slice none 0 0)] := by kernel_rfl
theorem ty_y32 : zelem Tryz.prog 32 = some (.agg [.c (.int .i64 0), .c (.string ⟨#[]⟩), .c (.string ⟨#[]⟩), .c (.slice none 0 0), .c (.int .i64 0), .c (.int .i64 0), .c (.int .i64 0), .c (.int .u64 0), .c (.slice none 0 0), .c (.slice none 0 0), .c (.int .i64 0), .c (.int .i64 0), .c (.int .i64 0), .c (.int .i64 0), .c (.int .i64 0), .c (.int .i64 0), .c (.int .i64 0), .c (.string ⟨#[]⟩), .c (.int .i64 0), .c (.int .i64 0), .c (.int .i64 0), .c (.slice none 0 0)]) := by kernel_rfl
theorem ty_u37 : (Tryz.prog.underlying 37).isSome = true := by kernel_rfl
theorem ty_z37 : tsz Tryz.prog 37 = some 1 := by kernel_rfl
theorem ty_a37 : isAggT Tryz.prog 37 = some false := by kernel_rfl
theorem ty_i37 : intT Tryz.prog 37 = some .i64 := by kernel_rfl
theorem ty_s37 : isStr Tryz.prog 37 = false := by kernel_rfl
theorem ty_b37 : isBoolT Tryz.prog 37 = false := by kernel_rfl
theorem ty_e37 : elemT Tryz.prog 37 = none := by kernel_rfl
theorem ty_t37 : tapp Tryz.prog 37 = some (1, 8) := by kernel_rfl
theorem ty_c37 : tzc Tryz.prog 37 = some [.c (.int .i64 0)] := by kernel_rfl
theorem ty_y37 : zelem Tryz.prog 37 = some (.c (.int .i64 0)) := by kernel_rfl
theorem ty_u45 : (Tryz.prog.underlying 45).isSome = true := by kernel_rfl
theorem ty_z45 : tsz Tryz.prog 45 = some 1 := by kernel_rfl
theorem ty_a45 : isAggT Tryz.prog 45 = some false := by kernel_rfl
theorem ty_i45 : intT Tryz.prog 45 = some .u64 := by kernel_rfl
theorem ty_s45 : isStr Tryz.prog 45 = false := by kernel_rfl
theorem ty_b45 : isBoolT Tryz.prog 45 = false := by kernel_rfl
theorem ty_e45 : elemT Tryz.prog 45 = none := by kernel_rfl
theorem ty_t45 : tapp Tryz.prog 45 = some (1, 8) := by kernel_rfl
theorem ty_c45 : tzc Tryz.prog 45 = some [.c (.int .u64 0)] := by kernel_rfl
theorem ty_y45 : zelem Tryz.prog 45 = some (.c (.int .u64 0)) := by kernel_rfl
theorem ty_u48 : (Tryz.prog.underlying 48).isSome = true := by kernel_rfl
theorem ty_z48 : tsz Tryz.prog 48 = some 1 := by kernel_rfl
theorem ty_a48 : isAggT Tryz.prog 48 = some false := by kernel_rfl
theorem ty_i48 : intT Tryz.prog 48 = none := by kernel_rfl
theorem ty_s48 : isStr Tryz.prog 48 = false := by kernel_rfl
theorem ty_b48 : isBoolT Tryz.prog 48 = false := by kernel_rfl
theorem ty_e48 : elemT Tryz.prog 48 = some 69 := by kernel_rfl
theorem ty_t48 : tapp Tryz.prog 48 = some (1, 24) := by kernel_rfl
theorem ty_c48 : tzc Tryz.prog 48 = some [.c (.slice none 0 0)] := by kernel_rfl
theorem ty_y48 : zelem Tryz.prog 48 = some (.c (.slice none 0 0)) := by kernel_rfl
theorem ty_u53 : (Tryz.prog.underlying 53).isSome = true := by kernel_rfl
theorem ty_z53 : tsz Tryz.prog 53 = some 1 := by kernel_rfl
theorem ty_a53 : isAggT Tryz.prog 53 = some false := by kernel_rfl
theorem ty_i53 : intT Tryz.prog 53 = none := by kernel_rfl
theorem ty_s53 : isStr Tryz.prog 53 = false := by kernel_rfl
theorem ty_b53 : isBoolT Tryz.prog 53 = false := by kernel_rfl
theorem ty_e53 : elemT Tryz.prog 53 = some 59 := by kernel_rfl
theorem ty_t53 : tapp Tryz.prog 53 = some (1, 24) := by kernel_rfl
theorem ty_c53 : tzc Tryz.prog 53 = some [.c (.slice none 0 0)] := by kernel_rfl
theorem ty_y53 : zelem Tryz.prog 53 = some (.c (.slice none 0 0)) := by kernel_rfl
theorem ty_u54 : (Tryz.prog.underlying 54).isSome = true := by kernel_rfl
theorem ty_z54 : tsz Tryz.prog 54 = some 6 := by kernel_rfl
theorem ty_a54 : isAggT Tryz.prog 54 = some true := by kernel_rfl
theorem ty_i54 : intT Tryz.prog 54 = none := by kernel_rfl
theorem ty_s54 : isStr Tryz.prog 54 = false := by kernel_rfl
theorem ty_b54 : isBoolT Tryz.prog 54 = false := by kernel_rfl
theorem ty_e54 : elemT Tryz.prog 54 = none := by kernel_rfl
theorem ty_f54_0 : fieldT Tryz.prog 54 0 = some (3, 0) := by kernel_rfl
theorem ty_f54_1 : fieldT Tryz.prog 54 1 = some (3, 1) := by kernel_rfl
theorem ty_f54_2 : fieldT Tryz.prog 54 2 = some (9, 2) := by kernel_rfl
theorem ty_f54_3 : fieldT Tryz.prog 54 3 = some (22, 3) := by kernel_rfl
theorem ty_f54_4 : fieldT Tryz.prog 54 4 = some (53, 4) := by kernel_rfl
theorem ty_f54_5 : fieldT Tryz.prog 54 5 = some (4, 5) := by kernel_rfl
theorem ty_pl54 : placesT Tryz.prog 54 = some [(0, 1), (1, 1), (2, 1), (3, 1), (4, 1), (5, 1)] := by kernel_rfl
theorem ty_t54 : tapp Tryz.prog 54 = some (6, 88) := by kernel_rfl
theorem ty_c54 : tzc Tryz.prog 54 = some [.c (.int .i64 0), .c (.int .i64 0), .c (.string ⟨#[]⟩), .c (.slice none 0 0), .c (.slice none 0 0), .c (.bool false)] := by kernel_rfl
theorem ty_y54 : zelem Tryz.prog 54 = some (.agg [.c (.int .i64 0), .c (.int .i64 0), .c (.string ⟨#[]⟩), .c (.slice none 0 0), .c (.slice none 0 0), .c (.bool false)]) := by kernel_rfl
theorem ty_u55 : (Tryz.prog.underlying 55).isSome = true := by kernel_rfl
theorem ty_z55 : tsz Tryz.prog 55 = some 6 := by kernel_rfl
theorem ty_a55 : isAggT Tryz.prog 55 = some true := by kernel_rfl
theorem ty_i55 : intT Tryz.prog 55 = none := by kernel_rfl
theorem ty_s55 : isStr Tryz.prog 55 = false := by kernel_rfl
theorem ty_b55 : isBoolT Tryz.prog 55 = false := by kernel_rfl
theorem ty_e55 : elemT Tryz.prog 55 = none := by kernel_rfl
theorem ty_f55_0 : fieldT Tryz.prog 55 0 = some (3, 0) := by kernel_rfl
theorem ty_f55_1 : fieldT Tryz.prog 55 1 = some (3, 1) := by kernel_rfl
theorem ty_f55_2 : fieldT Tryz.prog 55 2 = some (9, 2) := by kernel_rfl
theorem ty_f55_3 : fieldT Tryz.prog 55 3 = some (22, 3) := by kernel_rfl
theorem ty_f55_4 : fieldT Tryz.prog 55 4 = some (53, 4) := by kernel_rfl
theorem ty_f55_5 : fieldT Tryz.prog 55 5 = some (4, 5) := by kernel_rfl
theorem ty_pl55 : placesT Tryz.prog 55 = some [(0, 1), (1, 1), (2, 1), (3, 1), (4, 1), (5, 1)] := by kernel_rfl
theorem ty_t55 : tapp Tryz.prog 55 = some (6, 88) := by kernel_rfl
theorem ty_c55 : tzc Tryz.prog 55 = some [.c (.int .i64 0), .c (.int .i64 0), .c (.string ⟨#[]⟩), .c (.slice none 0 0), .c (.slice none 0 0), .c (.bool false)] := by kernel_rfl
theorem ty_y55 : zelem Tryz.prog 55 = some (.agg [.c (.int .i64 0), .c (.int .i64 0), .c (.string ⟨#[]⟩), .c (.slice none 0 0), .c (.slice none 0 0), .c (.bool false)]) := by kernel_rfl
theorem ty_u56 : (Tryz.prog.underlying 56).isSome = true := by kernel_rfl
theorem ty_z56 : tsz Tryz.prog 56 = some 12 := by kernel_rfl
theorem ty_a56 : isAggT Tryz.prog 56 = some true := by kernel_rfl
theorem ty_i56 : intT Tryz.prog 56 = none := by kernel_rfl
theorem ty_s56 : isStr Tryz.prog 56 = false := by kernel_rfl
theorem ty_b56 : isBoolT Tryz.prog 56 = false := by kernel_rfl
theorem ty_e56 : elemT Tryz.prog 56 = none := by kernel_rfl
theorem ty_f56_0 : fieldT Tryz.prog 56 0 = some (37, 0) := by kernel_rfl
theorem ty_f56_1 : fieldT Tryz.prog 56 1 = some (3, 1) := by kernel_rfl
theorem ty_f56_2 : fieldT Tryz.prog 56 2 = some (3, 2) := by kernel_rfl
theorem ty_f56_3 : fieldT Tryz.prog 56 3 = some (3, 3) := by kernel_rfl
theorem ty_f56_4 : fieldT Tryz.prog 56 4 = some (23, 4) := by kernel_rfl
theorem ty_f56_5 : fieldT Tryz.prog 56 5 = some (55, 5) := by kernel_rfl
theorem ty_f56_6 : fieldT Tryz.prog 56 6 = some (28, 11) := by kernel_rfl
theorem ty_pl56 : placesT Tryz.prog 56 = some [(0, 1), (1, 1), (2, 1), (3, 1), (4, 1), (5, 6), (11, 1)] := by kernel_rfl
theorem ty_t56 : tapp Tryz.prog 56 = some (12, 168) := by kernel_rfl
theorem ty_c56 : tzc Tryz.prog 56 = some [.c (.int .i64 0), .c (.int .i64 0), .c (.int .i64 0), .c (.int .i64 0), .c (.slice none 0 0), .c (.int .i64 0), .c (.int .i64 0), .c (.string ⟨#[]⟩), .c (.slice none 0 0), .c (.slice none 0 0), .c (.bool false), .c (.slice none 0 0)] := by kernel_rfl
theorem ty_y56 : zelem Tryz.prog 56 = some (.agg [.c (.int .i64 0), .c (.int .i64 0), .c (.int .i64 0), .c (.int .i64 0), .c (.slice none 0 0), .c (.int .i64 0), .c (.int .i64 0), .c (.string ⟨#[]⟩), .c (.slice none 0 0), .c (.slice none 0 0), .c (.bool false), .c (.slice none 0 0)]) := by kernel_rfl
theorem ty_u57 : (Tryz.prog.underlying 57).isSome = true := by kernel_rfl
theorem ty_z57 : tsz Tryz.prog 57 = some 12 := by kernel_rfl
theorem ty_a57 : isAggT Tryz.prog 57 = some true := by kernel_rfl
theorem ty_i57 : intT Tryz.prog 57 = none := by kernel_rfl
theorem ty_s57 : isStr Tryz.prog 57 = false := by kernel_rfl
theorem ty_b57 : isBoolT Tryz.prog 57 = false := by kernel_rfl
theorem ty_e57 : elemT Tryz.prog 57 = none := by kernel_rfl
theorem ty_f57_0 : fieldT Tryz.prog 57 0 = some (37, 0) := by kernel_rfl
theorem ty_f57_1 : fieldT Tryz.prog 57 1 = some (3, 1) := by kernel_rfl
theorem ty_f57_2 : fieldT Tryz.prog 57 2 = some (3, 2) := by kernel_rfl
theorem ty_f57_3 : fieldT Tryz.prog 57 3 = some (3, 3) := by kernel_rfl
theorem ty_f57_4 : fieldT Tryz.prog 57 4 = some (23, 4) := by kernel_rfl
theorem ty_f57_5 : fieldT Tryz.prog 57 5 = some (55, 5) := by kernel_rfl
theorem ty_f57_6 : fieldT Tryz.prog 57 6 = some (28, 11) := by kernel_rfl
theorem ty_pl57 : placesT Tryz.prog 57 = some [(0, 1), (1, 1), (2, 1), (3, 1), (4, 1), (5, 6), (11, 1)] := by kernel_rfl
theorem ty_t57 : tapp Tryz.prog 57 = some (12, 168) := by kernel_rfl
theorem ty_c57 : tzc Tryz.prog 57 = some [.c (.int .i64 0), .c (.int .i64 0), .c (.int .i64 0), .c (.int .i64 0), .c (.slice none 0 0), .c (.int .i64 0), .c (.int .i64 0), .c (.string ⟨#[]⟩), .c (.slice none 0 0), .c (.slice none 0 0), .c (.bool false), .c (.slice none 0 0)] := by kernel_rfl
theorem ty_y57 : zelem Tryz.prog 57 = some (.agg [.c (.int .i64 0), .c (.int .i64 0), .c (.int .i64 0), .c (.int .i64 0), .c (.slice none 0 0), .c (.int .i64 0), .c (.int .i64 0), .c (.string ⟨#[]⟩), .c (.slice none 0 0), .c (.slice none 0 0), .c (.bool false), .c (.slice none 0 0)]) := by kernel_rfl
theorem ty_u58 : (Tryz.prog.underlying 58).isSome = true := by kernel_rfl
theorem ty_z58 : tsz Tryz.prog 58 = some 3 := by kernel_rfl
theorem ty_a58 : isAggT Tryz.prog 58 = some true := by kernel_rfl
theorem ty_i58 : intT Tryz.prog 58 = none := by kernel_rfl
theorem ty_s58 : isStr Tryz.prog 58 = false := by kernel_rfl
theorem ty_b58 : isBoolT Tryz.prog 58 = false := by kernel_rfl
theorem ty_e58 : elemT Tryz.prog 58 = none := by kernel_rfl
theorem ty_f58_0 : fieldT Tryz.prog 58 0 = some (9, 0) := by kernel_rfl
theorem ty_f58_1 : fieldT Tryz.prog 58 1 = some (3, 1) := by kernel_rfl
theorem ty_f58_2 : fieldT Tryz.prog 58 2 = some (3, 2) := by kernel_rfl
theorem ty_pl58 : placesT Tryz.prog 58 = some [(0, 1), (1, 1), (2, 1)] := by kernel_rfl
theorem ty_eq58 : eqPl Tryz.prog 58 = some [(0, .s), (1, .n), (2, .n)] := by kernel_rfl
theorem ty_t58 : tapp Tryz.prog 58 = some (3, 32) := by kernel_rfl
theorem ty_c58 : tzc Tryz.prog 58 = some [.c (.string ⟨#[]⟩), .c (.int .i64 0), .c (.int .i64 0)] := by kernel_rfl
theorem ty_y58 : zelem Tryz.prog 58 = some (.agg [.c (.string ⟨#[]⟩), .c (.int .i64 0), .c (.int .i64 0)]) := by kernel_rfl
theorem ty_u59 : (Tryz.prog.underlying 59).isSome = true := by kernel_rfl
theorem ty_z59 : tsz Tryz.prog 59 = some 3 := by kernel_rfl
theorem ty_a59 : isAggT Tryz.prog 59 = some true := by kernel_rfl
theorem ty_i59 : intT Tryz.prog 59 = none := by kernel_rfl
theorem ty_s59 : isStr Tryz.prog 59 = false := by kernel_rfl
theorem ty_b59 : isBoolT Tryz.prog 59 = false := by kernel_rfl
theorem ty_e59 : elemT Tryz.prog 59 = none := by kernel_rfl
theorem ty_f59_0 : fieldT Tryz.prog 59 0 = some (9, 0) := by kernel_rfl
theorem ty_f59_1 : fieldT Tryz.prog 59 1 = some (3, 1) := by kernel_rfl
theorem ty_f59_2 : fieldT Tryz.prog 59 2 = some (3, 2) := by kernel_rfl
theorem ty_pl59 : placesT Tryz.prog 59 = some [(0, 1), (1, 1), (2, 1)] := by kernel_rfl
theorem ty_eq59 : eqPl Tryz.prog 59 = some [(0, .s), (1, .n), (2, .n)] := by kernel_rfl
theorem ty_t59 : tapp Tryz.prog 59 = some (3, 32) := by kernel_rfl
theorem ty_c59 : tzc Tryz.prog 59 = some [.c (.string ⟨#[]⟩), .c (.int .i64 0), .c (.int .i64 0)] := by kernel_rfl
theorem ty_y59 : zelem Tryz.prog 59 = some (.agg [.c (.string ⟨#[]⟩), .c (.int .i64 0), .c (.int .i64 0)]) := by kernel_rfl
theorem ty_u63 : (Tryz.prog.underlying 63).isSome = true := by kernel_rfl
theorem ty_z63 : tsz Tryz.prog 63 = some 2 := by kernel_rfl
theorem ty_a63 : isAggT Tryz.prog 63 = some true := by kernel_rfl
theorem ty_i63 : intT Tryz.prog 63 = none := by kernel_rfl
theorem ty_s63 : isStr Tryz.prog 63 = false := by kernel_rfl
theorem ty_b63 : isBoolT Tryz.prog 63 = false := by kernel_rfl
theorem ty_e63 : elemT Tryz.prog 63 = none := by kernel_rfl
theorem ty_f63_0 : fieldT Tryz.prog 63 0 = some (9, 0) := by kernel_rfl
theorem ty_f63_1 : fieldT Tryz.prog 63 1 = some (3, 1) := by kernel_rfl
theorem ty_pl63 : placesT Tryz.prog 63 = some [(0, 1), (1, 1)] := by kernel_rfl
theorem ty_eq63 : eqPl Tryz.prog 63 = some [(0, .s), (1, .n)] := by kernel_rfl
theorem ty_t63 : tapp Tryz.prog 63 = some (2, 24) := by kernel_rfl
theorem ty_c63 : tzc Tryz.prog 63 = some [.c (.string ⟨#[]⟩), .c (.int .i64 0)] := by kernel_rfl
theorem ty_y63 : zelem Tryz.prog 63 = some (.agg [.c (.string ⟨#[]⟩), .c (.int .i64 0)]) := by kernel_rfl
theorem ty_u64 : (Tryz.prog.underlying 64).isSome = true := by kernel_rfl
theorem ty_z64 : tsz Tryz.prog 64 = some 2 := by kernel_rfl
theorem ty_a64 : isAggT Tryz.prog 64 = some true := by kernel_rfl
theorem ty_i64 : intT Tryz.prog 64 = none := by kernel_rfl
theorem ty_s64 : isStr Tryz.prog 64 = false := by kernel_rfl
theorem ty_b64 : isBoolT Tryz.prog 64 = false := by kernel_rfl
theorem ty_e64 : elemT Tryz.prog 64 = none := by kernel_rfl
theorem ty_f64_0 : fieldT Tryz.prog 64 0 = some (9, 0) := by kernel_rfl
theorem ty_f64_1 : fieldT Tryz.prog 64 1 = some (3, 1) := by kernel_rfl
theorem ty_pl64 : placesT Tryz.prog 64 = some [(0, 1), (1, 1)] := by kernel_rfl
theorem ty_eq64 : eqPl Tryz.prog 64 = some [(0, .s), (1, .n)] := by kernel_rfl
theorem ty_t64 : tapp Tryz.prog 64 = some (2, 24) := by kernel_rfl
theorem ty_c64 : tzc Tryz.prog 64 = some [.c (.string ⟨#[]⟩), .c (.int .i64 0)] := by kernel_rfl
theorem ty_y64 : zelem Tryz.prog 64 = some (.agg [.c (.string ⟨#[]⟩), .c (.int .i64 0)]) := by kernel_rfl
theorem ty_u66 : (Tryz.prog.underlying 66).isSome = true := by kernel_rfl
theorem ty_z66 : tsz Tryz.prog 66 = some 1 := by kernel_rfl
theorem ty_a66 : isAggT Tryz.prog 66 = some false := by kernel_rfl
theorem ty_i66 : intT Tryz.prog 66 = none := by kernel_rfl
theorem ty_s66 : isStr Tryz.prog 66 = false := by kernel_rfl
theorem ty_b66 : isBoolT Tryz.prog 66 = false := by kernel_rfl
theorem ty_e66 : elemT Tryz.prog 66 = some 32 := by kernel_rfl
theorem ty_t66 : tapp Tryz.prog 66 = some (1, 24) := by kernel_rfl
theorem ty_c66 : tzc Tryz.prog 66 = some [.c (.slice none 0 0)] := by kernel_rfl
theorem ty_y66 : zelem Tryz.prog 66 = some (.c (.slice none 0 0)) := by kernel_rfl
theorem ty_u68 : (Tryz.prog.underlying 68).isSome = true := by kernel_rfl
theorem ty_z68 : tsz Tryz.prog 68 = some 24 := by kernel_rfl
theorem ty_a68 : isAggT Tryz.prog 68 = some true := by kernel_rfl
theorem ty_i68 : intT Tryz.prog 68 = none := by kernel_rfl
theorem ty_s68 : isStr Tryz.prog 68 = false := by kernel_rfl
theorem ty_b68 : isBoolT Tryz.prog 68 = false := by kernel_rfl
theorem ty_e68 : elemT Tryz.prog 68 = none := by kernel_rfl
theorem ty_f68_0 : fieldT Tryz.prog 68 0 = some (3, 0) := by kernel_rfl
theorem ty_f68_1 : fieldT Tryz.prog 68 1 = some (3, 1) := by kernel_rfl
theorem ty_f68_2 : fieldT Tryz.prog 68 2 = some (32, 2) := by kernel_rfl
theorem ty_pl68 : placesT Tryz.prog 68 = some [(0, 1), (1, 1), (2, 22)] := by kernel_rfl
theorem ty_t68 : tapp Tryz.prog 68 = some (24, 280) := by kernel_rfl
theorem ty_c68 : tzc Tryz.prog 68 = some [.c (.int .i64 0), .c (.int .i64 0), .c (.int .i64 0), .c (.string ⟨#[]⟩), .c (.string ⟨#[]⟩), .c (.slice none 0 0), .c (.int .i64 0), .c (.int .i64 0), .c (.int .i64 0), .c (.int .u64 0), .c (.slice none 0 0), .c (.slice none 0 0), .c (.int .i64 0), .c (.int .i64 0), .c (.int .i64 0), .c (.int .i64 0), .c (.int .i64 0), .c (.int .i64 0), .c (.int .i64 0), .c (.string ⟨#[]⟩), .c (.int .i64 0), .c (.int .i64 0), .c (.int .i64 0), .c (.slice none 0 0)] := by kernel_rfl
theorem ty_y68 : zelem Tryz.prog 68 = some (.agg [.c (.int .i64 0), .c (.int .i64 0), .c (.int .i64 0), .c (.string ⟨#[]⟩), .c (.string ⟨#[]⟩), .c (.slice none 0 0), .c (.int .i64 0), .c (.int .i64 0), .c (.int .i64 0), .c (.int .u64 0), .c (.slice none 0 0), .c (.slice none 0 0), .c (.int .i64 0), .c (.int .i64 0), .c (.int .i64 0), .c (.int .i64 0), .c (.int .i64 0), .c (.int .i64 0), .c (.int .i64 0), .c (.string ⟨#[]⟩), .c (.int .i64 0), .c (.int .i64 0), .c (.int .i64 0), .c (.slice none 0 0)]) := by kernel_rfl
theorem ty_u69 : (Tryz.prog.underlying 69).isSome = true := by kernel_rfl
theorem ty_z69 : tsz Tryz.prog 69 = some 24 := by kernel_rfl
theorem ty_a69 : isAggT Tryz.prog 69 = some true := by kernel_rfl
theorem ty_i69 : intT Tryz.prog 69 = none := by kernel_rfl
theorem ty_s69 : isStr Tryz.prog 69 = false := by kernel_rfl
theorem ty_b69 : isBoolT Tryz.prog 69 = false := by kernel_rfl
theorem ty_e69 : elemT Tryz.prog 69 = none := by kernel_rfl
theorem ty_f69_0 : fieldT Tryz.prog 69 0 = some (3, 0) := by kernel_rfl
theorem ty_f69_1 : fieldT Tryz.prog 69 1 = some (3, 1) := by kernel_rfl
theorem ty_f69_2 : fieldT Tryz.prog 69 2 = some (32, 2) := by kernel_rfl
theorem ty_pl69 : placesT Tryz.prog 69 = some [(0, 1), (1, 1), (2, 22)] := by kernel_rfl
theorem ty_t69 : tapp Tryz.prog 69 = some (24, 280) := by kernel_rfl
theorem ty_c69 : tzc Tryz.prog 69 = some [.c (.int .i64 0), .c (.int .i64 0), .c (.int .i64 0), .c (.string ⟨#[]⟩), .c (.string ⟨#[]⟩), .c (.slice none 0 0), .c (.int .i64 0), .c (.int .i64 0), .c (.int .i64 0), .c (.int .u64 0), .c (.slice none 0 0), .c (.slice none 0 0), .c (.int .i64 0), .c (.int .i64 0), .c (.int .i64 0), .c (.int .i64 0), .c (.int .i64 0), .c (.int .i64 0), .c (.int .i64 0), .c (.string ⟨#[]⟩), .c (.int .i64 0), .c (.int .i64 0), .c (.int .i64 0), .c (.slice none 0 0)] := by kernel_rfl
theorem ty_y69 : zelem Tryz.prog 69 = some (.agg [.c (.int .i64 0), .c (.int .i64 0), .c (.int .i64 0), .c (.string ⟨#[]⟩), .c (.string ⟨#[]⟩), .c (.slice none 0 0), .c (.int .i64 0), .c (.int .i64 0), .c (.int .i64 0), .c (.int .u64 0), .c (.slice none 0 0), .c (.slice none 0 0), .c (.int .i64 0), .c (.int .i64 0), .c (.int .i64 0), .c (.int .i64 0), .c (.int .i64 0), .c (.int .i64 0), .c (.int .i64 0), .c (.string ⟨#[]⟩), .c (.int .i64 0), .c (.int .i64 0), .c (.int .i64 0), .c (.slice none 0 0)]) := by kernel_rfl
theorem ty_u79 : (Tryz.prog.underlying 79).isSome = true := by kernel_rfl
theorem ty_z79 : tsz Tryz.prog 79 = some 3 := by kernel_rfl
theorem ty_a79 : isAggT Tryz.prog 79 = some true := by kernel_rfl
theorem ty_i79 : intT Tryz.prog 79 = none := by kernel_rfl
theorem ty_s79 : isStr Tryz.prog 79 = false := by kernel_rfl
theorem ty_b79 : isBoolT Tryz.prog 79 = false := by kernel_rfl
theorem ty_e79 : elemT Tryz.prog 79 = none := by kernel_rfl
theorem ty_f79_0 : fieldT Tryz.prog 79 0 = some (3, 0) := by kernel_rfl
theorem ty_f79_1 : fieldT Tryz.prog 79 1 = some (3, 1) := by kernel_rfl
theorem ty_f79_2 : fieldT Tryz.prog 79 2 = some (4, 2) := by kernel_rfl
theorem ty_pl79 : placesT Tryz.prog 79 = some [(0, 1), (1, 1), (2, 1)] := by kernel_rfl
theorem ty_eq79 : eqPl Tryz.prog 79 = some [(0, .n), (1, .n), (2, .b)] := by kernel_rfl
theorem ty_t79 : tapp Tryz.prog 79 = some (3, 24) := by kernel_rfl
theorem ty_c79 : tzc Tryz.prog 79 = some [.c (.int .i64 0), .c (.int .i64 0), .c (.bool false)] := by kernel_rfl
theorem ty_y79 : zelem Tryz.prog 79 = some (.agg [.c (.int .i64 0), .c (.int .i64 0), .c (.bool false)]) := by kernel_rfl
theorem ty_u80 : (Tryz.prog.underlying 80).isSome = true := by kernel_rfl
theorem ty_z80 : tsz Tryz.prog 80 = some 3 := by kernel_rfl
theorem ty_a80 : isAggT Tryz.prog 80 = some true := by kernel_rfl
theorem ty_i80 : intT Tryz.prog 80 = none := by kernel_rfl
theorem ty_s80 : isStr Tryz.prog 80 = false := by kernel_rfl
theorem ty_b80 : isBoolT Tryz.prog 80 = false := by kernel_rfl
theorem ty_e80 : elemT Tryz.prog 80 = none := by kernel_rfl
theorem ty_f80_0 : fieldT Tryz.prog 80 0 = some (3, 0) := by kernel_rfl
theorem ty_f80_1 : fieldT Tryz.prog 80 1 = some (3, 1) := by kernel_rfl
theorem ty_f80_2 : fieldT Tryz.prog 80 2 = some (4, 2) := by kernel_rfl
theorem ty_pl80 : placesT Tryz.prog 80 = some [(0, 1), (1, 1), (2, 1)] := by kernel_rfl
theorem ty_eq80 : eqPl Tryz.prog 80 = some [(0, .n), (1, .n), (2, .b)] := by kernel_rfl
theorem ty_t80 : tapp Tryz.prog 80 = some (3, 24) := by kernel_rfl
theorem ty_c80 : tzc Tryz.prog 80 = some [.c (.int .i64 0), .c (.int .i64 0), .c (.bool false)] := by kernel_rfl
theorem ty_y80 : zelem Tryz.prog 80 = some (.agg [.c (.int .i64 0), .c (.int .i64 0), .c (.bool false)]) := by kernel_rfl
theorem ty_u81 : (Tryz.prog.underlying 81).isSome = true := by kernel_rfl
theorem ty_z81 : tsz Tryz.prog 81 = some 5 := by kernel_rfl
theorem ty_a81 : isAggT Tryz.prog 81 = some true := by kernel_rfl
theorem ty_i81 : intT Tryz.prog 81 = none := by kernel_rfl
theorem ty_s81 : isStr Tryz.prog 81 = false := by kernel_rfl
theorem ty_b81 : isBoolT Tryz.prog 81 = false := by kernel_rfl
theorem ty_e81 : elemT Tryz.prog 81 = none := by kernel_rfl
theorem ty_f81_0 : fieldT Tryz.prog 81 0 = some (3, 0) := by kernel_rfl
theorem ty_f81_1 : fieldT Tryz.prog 81 1 = some (3, 1) := by kernel_rfl
theorem ty_f81_2 : fieldT Tryz.prog 81 2 = some (24, 2) := by kernel_rfl
theorem ty_f81_3 : fieldT Tryz.prog 81 3 = some (22, 3) := by kernel_rfl
theorem ty_f81_4 : fieldT Tryz.prog 81 4 = some (4, 4) := by kernel_rfl
theorem ty_pl81 : placesT Tryz.prog 81 = some [(0, 1), (1, 1), (2, 1), (3, 1), (4, 1)] := by kernel_rfl
theorem ty_t81 : tapp Tryz.prog 81 = some (5, 56) := by kernel_rfl
theorem ty_c81 : tzc Tryz.prog 81 = some [.c (.int .i64 0), .c (.int .i64 0), .c (.int .u64 0), .c (.slice none 0 0), .c (.bool false)] := by kernel_rfl
theorem ty_y81 : zelem Tryz.prog 81 = some (.agg [.c (.int .i64 0), .c (.int .i64 0), .c (.int .u64 0), .c (.slice none 0 0), .c (.bool false)]) := by kernel_rfl
theorem ty_u82 : (Tryz.prog.underlying 82).isSome = true := by kernel_rfl
theorem ty_z82 : tsz Tryz.prog 82 = some 5 := by kernel_rfl
theorem ty_a82 : isAggT Tryz.prog 82 = some true := by kernel_rfl
theorem ty_i82 : intT Tryz.prog 82 = none := by kernel_rfl
theorem ty_s82 : isStr Tryz.prog 82 = false := by kernel_rfl
theorem ty_b82 : isBoolT Tryz.prog 82 = false := by kernel_rfl
theorem ty_e82 : elemT Tryz.prog 82 = none := by kernel_rfl
theorem ty_f82_0 : fieldT Tryz.prog 82 0 = some (3, 0) := by kernel_rfl
theorem ty_f82_1 : fieldT Tryz.prog 82 1 = some (3, 1) := by kernel_rfl
theorem ty_f82_2 : fieldT Tryz.prog 82 2 = some (24, 2) := by kernel_rfl
theorem ty_f82_3 : fieldT Tryz.prog 82 3 = some (22, 3) := by kernel_rfl
theorem ty_f82_4 : fieldT Tryz.prog 82 4 = some (4, 4) := by kernel_rfl
theorem ty_pl82 : placesT Tryz.prog 82 = some [(0, 1), (1, 1), (2, 1), (3, 1), (4, 1)] := by kernel_rfl
theorem ty_t82 : tapp Tryz.prog 82 = some (5, 56) := by kernel_rfl
theorem ty_c82 : tzc Tryz.prog 82 = some [.c (.int .i64 0), .c (.int .i64 0), .c (.int .u64 0), .c (.slice none 0 0), .c (.bool false)] := by kernel_rfl
theorem ty_y82 : zelem Tryz.prog 82 = some (.agg [.c (.int .i64 0), .c (.int .i64 0), .c (.int .u64 0), .c (.slice none 0 0), .c (.bool false)]) := by kernel_rfl
theorem ty_u83 : (Tryz.prog.underlying 83).isSome = true := by kernel_rfl
theorem ty_z83 : tsz Tryz.prog 83 = some 3 := by kernel_rfl
theorem ty_a83 : isAggT Tryz.prog 83 = some true := by kernel_rfl
theorem ty_i83 : intT Tryz.prog 83 = none := by kernel_rfl
theorem ty_s83 : isStr Tryz.prog 83 = false := by kernel_rfl
theorem ty_b83 : isBoolT Tryz.prog 83 = false := by kernel_rfl
theorem ty_e83 : elemT Tryz.prog 83 = none := by kernel_rfl
theorem ty_f83_0 : fieldT Tryz.prog 83 0 = some (3, 0) := by kernel_rfl
theorem ty_f83_1 : fieldT Tryz.prog 83 1 = some (24, 1) := by kernel_rfl
theorem ty_f83_2 : fieldT Tryz.prog 83 2 = some (22, 2) := by kernel_rfl
theorem ty_pl83 : placesT Tryz.prog 83 = some [(0, 1), (1, 1), (2, 1)] := by kernel_rfl
theorem ty_t83 : tapp Tryz.prog 83 = some (3, 40) := by kernel_rfl
theorem ty_c83 : tzc Tryz.prog 83 = some [.c (.int .i64 0), .c (.int .u64 0), .c (.slice none 0 0)] := by kernel_rfl
theorem ty_y83 : zelem Tryz.prog 83 = some (.agg [.c (.int .i64 0), .c (.int .u64 0), .c (.slice none 0 0)]) := by kernel_rfl
theorem ty_u84 : (Tryz.prog.underlying 84).isSome = true := by kernel_rfl
theorem ty_z84 : tsz Tryz.prog 84 = some 3 := by kernel_rfl
theorem ty_a84 : isAggT Tryz.prog 84 = some true := by kernel_rfl
theorem ty_i84 : intT Tryz.prog 84 = none := by kernel_rfl
theorem ty_s84 : isStr Tryz.prog 84 = false := by kernel_rfl
theorem ty_b84 : isBoolT Tryz.prog 84 = false := by kernel_rfl
theorem ty_e84 : elemT Tryz.prog 84 = none := by kernel_rfl
theorem ty_f84_0 : fieldT Tryz.prog 84 0 = some (3, 0) := by kernel_rfl
theorem ty_f84_1 : fieldT Tryz.prog 84 1 = some (24, 1) := by kernel_rfl
theorem ty_f84_2 : fieldT Tryz.prog 84 2 = some (22, 2) := by kernel_rfl
theorem ty_pl84 : placesT Tryz.prog 84 = some [(0, 1), (1, 1), (2, 1)] := by kernel_rfl
theorem ty_t84 : tapp Tryz.prog 84 = some (3, 40) := by kernel_rfl
theorem ty_c84 : tzc Tryz.prog 84 = some [.c (.int .i64 0), .c (.int .u64 0), .c (.slice none 0 0)] := by kernel_rfl
theorem ty_y84 : zelem Tryz.prog 84 = some (.agg [.c (.int .i64 0), .c (.int .u64 0), .c (.slice none 0 0)]) := by kernel_rfl
theorem ty_u85 : (Tryz.prog.underlying 85).isSome = true := by kernel_rfl
theorem ty_z85 : tsz Tryz.prog 85 = some 4 := by kernel_rfl
theorem ty_a85 : isAggT Tryz.prog 85 = some true := by kernel_rfl
theorem ty_i85 : intT Tryz.prog 85 = none := by kernel_rfl
theorem ty_s85 : isStr Tryz.prog 85 = false := by kernel_rfl
theorem ty_b85 : isBoolT Tryz.prog 85 = false := by kernel_rfl
theorem ty_e85 : elemT Tryz.prog 85 = none := by kernel_rfl
theorem ty_f85_0 : fieldT Tryz.prog 85 0 = some (3, 0) := by kernel_rfl
theorem ty_f85_1 : fieldT Tryz.prog 85 1 = some (3, 1) := by kernel_rfl
theorem ty_f85_2 : fieldT Tryz.prog 85 2 = some (53, 2) := by kernel_rfl
theorem ty_f85_3 : fieldT Tryz.prog 85 3 = some (4, 3) := by kernel_rfl
theorem ty_pl85 : placesT Tryz.prog 85 = some [(0, 1), (1, 1), (2, 1), (3, 1)] := by kernel_rfl
theorem ty_t85 : tapp Tryz.prog 85 = some (4, 48) := by kernel_rfl
theorem ty_c85 : tzc Tryz.prog 85 = some [.c (.int .i64 0), .c (.int .i64 0), .c (.slice none 0 0), .c (.bool false)] := by kernel_rfl
theorem ty_y85 : zelem Tryz.prog 85 = some (.agg [.c (.int .i64 0), .c (.int .i64 0), .c (.slice none 0 0), .c (.bool false)]) := by kernel_rfl
theorem ty_u86 : (Tryz.prog.underlying 86).isSome = true := by kernel_rfl
theorem ty_z86 : tsz Tryz.prog 86 = some 4 := by kernel_rfl
theorem ty_a86 : isAggT Tryz.prog 86 = some true := by kernel_rfl
theorem ty_i86 : intT Tryz.prog 86 = none := by kernel_rfl
theorem ty_s86 : isStr Tryz.prog 86 = false := by kernel_rfl
theorem ty_b86 : isBoolT Tryz.prog 86 = false := by kernel_rfl
theorem ty_e86 : elemT Tryz.prog 86 = none := by kernel_rfl
theorem ty_f86_0 : fieldT Tryz.prog 86 0 = some (3, 0) := by kernel_rfl
theorem ty_f86_1 : fieldT Tryz.prog 86 1 = some (3, 1) := by kernel_rfl
theorem ty_f86_2 : fieldT Tryz.prog 86 2 = some (53, 2) := by kernel_rfl
theorem ty_f86_3 : fieldT Tryz.prog 86 3 = some (4, 3) := by kernel_rfl
theorem ty_pl86 : placesT Tryz.prog 86 = some [(0, 1), (1, 1), (2, 1), (3, 1)] := by kernel_rfl
theorem ty_t86 : tapp Tryz.prog 86 = some (4, 48) := by kernel_rfl
theorem ty_c86 : tzc Tryz.prog 86 = some [.c (.int .i64 0), .c (.int .i64 0), .c (.slice none 0 0), .c (.bool false)] := by kernel_rfl
theorem ty_y86 : zelem Tryz.prog 86 = some (.agg [.c (.int .i64 0), .c (.int .i64 0), .c (.slice none 0 0), .c (.bool false)]) := by kernel_rfl
theorem ty_u87 : (Tryz.prog.underlying 87).isSome = true := by kernel_rfl
theorem ty_z87 : tsz Tryz.prog 87 = some 5 := by kernel_rfl
theorem ty_a87 : isAggT Tryz.prog 87 = some true := by kernel_rfl
theorem ty_i87 : intT Tryz.prog 87 = none := by kernel_rfl
theorem ty_s87 : isStr Tryz.prog 87 = false := by kernel_rfl
theorem ty_b87 : isBoolT Tryz.prog 87 = false := by kernel_rfl
theorem ty_e87 : elemT Tryz.prog 87 = none := by kernel_rfl
theorem ty_f87_0 : fieldT Tryz.prog 87 0 = some (3, 0) := by kernel_rfl
theorem ty_f87_1 : fieldT Tryz.prog 87 1 = some (3, 1) := by kernel_rfl
theorem ty_f87_2 : fieldT Tryz.prog 87 2 = some (3, 2) := by kernel_rfl
theorem ty_f87_3 : fieldT Tryz.prog 87 3 = some (53, 3) := by kernel_rfl
theorem ty_f87_4 : fieldT Tryz.prog 87 4 = some (4, 4) := by kernel_rfl
theorem ty_pl87 : placesT Tryz.prog 87 = some [(0, 1), (1, 1), (2, 1), (3, 1), (4, 1)] := by kernel_rfl
theorem ty_t87 : tapp Tryz.prog 87 = some (5, 56) := by kernel_rfl
theorem ty_c87 : tzc Tryz.prog 87 = some [.c (.int .i64 0), .c (.int .i64 0), .c (.int .i64 0), .c (.slice none 0 0), .c (.bool false)] := by kernel_rfl
theorem ty_y87 : zelem Tryz.prog 87 = some (.agg [.c (.int .i64 0), .c (.int .i64 0), .c (.int .i64 0), .c (.slice none 0 0), .c (.bool false)]) := by kernel_rfl
theorem ty_u88 : (Tryz.prog.underlying 88).isSome = true := by kernel_rfl
theorem ty_z88 : tsz Tryz.prog 88 = some 5 := by kernel_rfl
theorem ty_a88 : isAggT Tryz.prog 88 = some true := by kernel_rfl
theorem ty_i88 : intT Tryz.prog 88 = none := by kernel_rfl
theorem ty_s88 : isStr Tryz.prog 88 = false := by kernel_rfl
theorem ty_b88 : isBoolT Tryz.prog 88 = false := by kernel_rfl
theorem ty_e88 : elemT Tryz.prog 88 = none := by kernel_rfl
theorem ty_f88_0 : fieldT Tryz.prog 88 0 = some (3, 0) := by kernel_rfl
theorem ty_f88_1 : fieldT Tryz.prog 88 1 = some (3, 1) := by kernel_rfl
theorem ty_f88_2 : fieldT Tryz.prog 88 2 = some (3, 2) := by kernel_rfl
theorem ty_f88_3 : fieldT Tryz.prog 88 3 = some (53, 3) := by kernel_rfl
theorem ty_f88_4 : fieldT Tryz.prog 88 4 = some (4, 4) := by kernel_rfl
theorem ty_pl88 : placesT Tryz.prog 88 = some [(0, 1), (1, 1), (2, 1), (3, 1), (4, 1)] := by kernel_rfl
theorem ty_t88 : tapp Tryz.prog 88 = some (5, 56) := by kernel_rfl
theorem ty_c88 : tzc Tryz.prog 88 = some [.c (.int .i64 0), .c (.int .i64 0), .c (.int .i64 0), .c (.slice none 0 0), .c (.bool false)] := by kernel_rfl
theorem ty_y88 : zelem Tryz.prog 88 = some (.agg [.c (.int .i64 0), .c (.int .i64 0), .c (.int .i64 0), .c (.slice none 0 0), .c (.bool false)]) := by kernel_rfl
theorem ty_u89 : (Tryz.prog.underlying 89).isSome = true := by kernel_rfl
theorem ty_z89 : tsz Tryz.prog 89 = some 1 := by kernel_rfl
theorem ty_a89 : isAggT Tryz.prog 89 = some false := by kernel_rfl
theorem ty_i89 : intT Tryz.prog 89 = none := by kernel_rfl
theorem ty_s89 : isStr Tryz.prog 89 = false := by kernel_rfl
theorem ty_b89 : isBoolT Tryz.prog 89 = false := by kernel_rfl
theorem ty_e89 : elemT Tryz.prog 89 = some 23 := by kernel_rfl
theorem ty_t89 : tapp Tryz.prog 89 = some (1, 24) := by kernel_rfl
theorem ty_c89 : tzc Tryz.prog 89 = some [.c (.slice none 0 0)] := by kernel_rfl
theorem ty_y89 : zelem Tryz.prog 89 = some (.c (.slice none 0 0)) := by kernel_rfl
theorem ty_u90 : (Tryz.prog.underlying 90).isSome = true := by kernel_rfl
theorem ty_z90 : tsz Tryz.prog 90 = some 5 := by kernel_rfl
theorem ty_a90 : isAggT Tryz.prog 90 = some true := by kernel_rfl
theorem ty_i90 : intT Tryz.prog 90 = none := by kernel_rfl
theorem ty_s90 : isStr Tryz.prog 90 = false := by kernel_rfl
theorem ty_b90 : isBoolT Tryz.prog 90 = false := by kernel_rfl
theorem ty_e90 : elemT Tryz.prog 90 = none := by kernel_rfl
theorem ty_f90_0 : fieldT Tryz.prog 90 0 = some (3, 0) := by kernel_rfl
theorem ty_f90_1 : fieldT Tryz.prog 90 1 = some (3, 1) := by kernel_rfl
theorem ty_f90_2 : fieldT Tryz.prog 90 2 = some (3, 2) := by kernel_rfl
theorem ty_f90_3 : fieldT Tryz.prog 90 3 = some (89, 3) := by kernel_rfl
theorem ty_f90_4 : fieldT Tryz.prog 90 4 = some (4, 4) := by kernel_rfl
theorem ty_pl90 : placesT Tryz.prog 90 = some [(0, 1), (1, 1), (2, 1), (3, 1), (4, 1)] := by kernel_rfl
theorem ty_t90 : tapp Tryz.prog 90 = some (5, 56) := by kernel_rfl
theorem ty_c90 : tzc Tryz.prog 90 = some [.c (.int .i64 0), .c (.int .i64 0), .c (.int .i64 0), .c (.slice none 0 0), .c (.bool false)] := by kernel_rfl
theorem ty_y90 : zelem Tryz.prog 90 = some (.agg [.c (.int .i64 0), .c (.int .i64 0), .c (.int .i64 0), .c (.slice none 0 0), .c (.bool false)]) := by kernel_rfl
theorem ty_u91 : (Tryz.prog.underlying 91).isSome = true := by kernel_rfl
theorem ty_z91 : tsz Tryz.prog 91 = some 5 := by kernel_rfl
theorem ty_a91 : isAggT Tryz.prog 91 = some true := by kernel_rfl
theorem ty_i91 : intT Tryz.prog 91 = none := by kernel_rfl
theorem ty_s91 : isStr Tryz.prog 91 = false := by kernel_rfl
theorem ty_b91 : isBoolT Tryz.prog 91 = false := by kernel_rfl
theorem ty_e91 : elemT Tryz.prog 91 = none := by kernel_rfl
theorem ty_f91_0 : fieldT Tryz.prog 91 0 = some (3, 0) := by kernel_rfl
theorem ty_f91_1 : fieldT Tryz.prog 91 1 = some (3, 1) := by kernel_rfl
theorem ty_f91_2 : fieldT Tryz.prog 91 2 = some (3, 2) := by kernel_rfl
theorem ty_f91_3 : fieldT Tryz.prog 91 3 = some (89, 3) := by kernel_rfl
theorem ty_f91_4 : fieldT Tryz.prog 91 4 = some (4, 4) := by kernel_rfl
theorem ty_pl91 : placesT Tryz.prog 91 = some [(0, 1), (1, 1), (2, 1), (3, 1), (4, 1)] := by kernel_rfl
theorem ty_t91 : tapp Tryz.prog 91 = some (5, 56) := by kernel_rfl
theorem ty_c91 : tzc Tryz.prog 91 = some [.c (.int .i64 0), .c (.int .i64 0), .c (.int .i64 0), .c (.slice none 0 0), .c (.bool false)] := by kernel_rfl
theorem ty_y91 : zelem Tryz.prog 91 = some (.agg [.c (.int .i64 0), .c (.int .i64 0), .c (.int .i64 0), .c (.slice none 0 0), .c (.bool false)]) := by kernel_rfl
theorem ty_u92 : (Tryz.prog.underlying 92).isSome = true := by kernel_rfl
theorem ty_z92 : tsz Tryz.prog 92 = some 29 := by kernel_rfl
theorem ty_a92 : isAggT Tryz.prog 92 = some true := by kernel_rfl
theorem ty_i92 : intT Tryz.prog 92 = none := by kernel_rfl
theorem ty_s92 : isStr Tryz.prog 92 = false := by kernel_rfl
theorem ty_b92 : isBoolT Tryz.prog 92 = false := by kernel_rfl
theorem ty_e92 : elemT Tryz.prog 92 = none := by kernel_rfl
theorem ty_f92_0 : fieldT Tryz.prog 92 0 = some (26, 0) := by kernel_rfl
theorem ty_f92_1 : fieldT Tryz.prog 92 1 = some (80, 4) := by kernel_rfl
theorem ty_f92_2 : fieldT Tryz.prog 92 2 = some (82, 7) := by kernel_rfl
theorem ty_f92_3 : fieldT Tryz.prog 92 3 = some (84, 12) := by kernel_rfl
theorem ty_f92_4 : fieldT Tryz.prog 92 4 = some (86, 15) := by kernel_rfl
theorem ty_f92_5 : fieldT Tryz.prog 92 5 = some (88, 19) := by kernel_rfl
theorem ty_f92_6 : fieldT Tryz.prog 92 6 = some (91, 24) := by kernel_rfl
theorem ty_pl92 : placesT Tryz.prog 92 = some [(0, 4), (4, 3), (7, 5), (12, 3), (15, 4), (19, 5), (24, 5)] := by kernel_rfl
theorem ty_t92 : tapp Tryz.prog 92 = some (29, 312) := by kernel_rfl
theorem ty_c92 : tzc Tryz.prog 92 = some [.c (.int .i64 0), .c (.int .i64 0), .c (.int .i64 0), .c (.int .u64 0), .c (.int .i64 0), .c (.int .i64 0), .c (.bool false), .c (.int .i64 0), .c (.int .i64 0), .c (.int .u64 0), .c (.slice none 0 0), .c (.bool false), .c (.int .i64 0), .c (.int .u64 0), .c (.slice none 0 0), .c (.int .i64 0), .c (.int .i64 0), .c (.slice none 0 0), .c (.bool false), .c (.int .i64 0), .c (.int .i64 0), .c (.int .i64 0), .c (.slice none 0 0), .c (.bool false), .c (.int .i64 0), .c (.int .i64 0), .c (.int .i64 0), .c (.slice none 0 0), .c (.bool false)] := by kernel_rfl
theorem ty_y92 : zelem Tryz.prog 92 = some (.agg [.c (.int .i64 0), .c (.int .i64 0), .c (.int .i64 0), .c (.int .u64 0), .c (.int .i64 0), .c (.int .i64 0), .c (.bool false), .c (.int .i64 0), .c (.int .i64 0), .c (.int .u64 0), .c (.slice none 0 0), .c (.bool false), .c (.int .i64 0), .c (.int .u64 0), .c (.slice none 0 0), .c (.int .i64 0), .c (.int .i64 0), .c (.slice none 0 0), .c (.bool false), .c (.int .i64 0), .c (.int .i64 0), .c (.int .i64 0), .c (.slice none 0 0), .c (.bool false), .c (.int .i64 0), .c (.int .i64 0), .c (.int .i64 0), .c (.slice none 0 0), .c (.bool false)]) := by kernel_rfl
theorem ty_u93 : (Tryz.prog.underlying 93).isSome = true := by kernel_rfl
theorem ty_z93 : tsz Tryz.prog 93 = some 29 := by kernel_rfl
theorem ty_a93 : isAggT Tryz.prog 93 = some true := by kernel_rfl
theorem ty_i93 : intT Tryz.prog 93 = none := by kernel_rfl
theorem ty_s93 : isStr Tryz.prog 93 = false := by kernel_rfl
theorem ty_b93 : isBoolT Tryz.prog 93 = false := by kernel_rfl
theorem ty_e93 : elemT Tryz.prog 93 = none := by kernel_rfl
theorem ty_f93_0 : fieldT Tryz.prog 93 0 = some (26, 0) := by kernel_rfl
theorem ty_f93_1 : fieldT Tryz.prog 93 1 = some (80, 4) := by kernel_rfl
theorem ty_f93_2 : fieldT Tryz.prog 93 2 = some (82, 7) := by kernel_rfl
theorem ty_f93_3 : fieldT Tryz.prog 93 3 = some (84, 12) := by kernel_rfl
theorem ty_f93_4 : fieldT Tryz.prog 93 4 = some (86, 15) := by kernel_rfl
theorem ty_f93_5 : fieldT Tryz.prog 93 5 = some (88, 19) := by kernel_rfl
theorem ty_f93_6 : fieldT Tryz.prog 93 6 = some (91, 24) := by kernel_rfl
theorem ty_pl93 : placesT Tryz.prog 93 = some [(0, 4), (4, 3), (7, 5), (12, 3), (15, 4), (19, 5), (24, 5)] := by kernel_rfl
theorem ty_t93 : tapp Tryz.prog 93 = some (29, 312) := by kernel_rfl
theorem ty_c93 : tzc Tryz.prog 93 = some [.c (.int .i64 0), .c (.int .i64 0), .c (.int .i64 0), .c (.int .u64 0), .c (.int .i64 0), .c (.int .i64 0), .c (.bool false), .c (.int .i64 0), .c (.int .i64 0), .c (.int .u64 0), .c (.slice none 0 0), .c (.bool false), .c (.int .i64 0), .c (.int .u64 0), .c (.slice none 0 0), .c (.int .i64 0), .c (.int .i64 0), .c (.slice none 0 0), .c (.bool false), .c (.int .i64 0), .c (.int .i64 0), .c (.int .i64 0), .c (.slice none 0 0), .c (.bool false), .c (.int .i64 0), .c (.int .i64 0), .c (.int .i64 0), .c (.slice none 0 0), .c (.bool false)] := by kernel_rfl
theorem ty_y93 : zelem Tryz.prog 93 = some (.agg [.c (.int .i64 0), .c (.int .i64 0), .c (.int .i64 0), .c (.int .u64 0), .c (.int .i64 0), .c (.int .i64 0), .c (.bool false), .c (.int .i64 0), .c (.int .i64 0), .c (.int .u64 0), .c (.slice none 0 0), .c (.bool false), .c (.int .i64 0), .c (.int .u64 0), .c (.slice none 0 0), .c (.int .i64 0), .c (.int .i64 0), .c (.slice none 0 0), .c (.bool false), .c (.int .i64 0), .c (.int .i64 0), .c (.int .i64 0), .c (.slice none 0 0), .c (.bool false), .c (.int .i64 0), .c (.int .i64 0), .c (.int .i64 0), .c (.slice none 0 0), .c (.bool false)]) := by kernel_rfl
theorem ty_u106 : (Tryz.prog.underlying 106).isSome = true := by kernel_rfl
theorem ty_z106 : tsz Tryz.prog 106 = some 1 := by kernel_rfl
theorem ty_a106 : isAggT Tryz.prog 106 = some false := by kernel_rfl
theorem ty_i106 : intT Tryz.prog 106 = none := by kernel_rfl
theorem ty_s106 : isStr Tryz.prog 106 = false := by kernel_rfl
theorem ty_b106 : isBoolT Tryz.prog 106 = false := by kernel_rfl
theorem ty_e106 : elemT Tryz.prog 106 = none := by kernel_rfl
theorem ty_p106 : isPtr Tryz.prog 106 = true := by kernel_rfl
theorem ty_q106 : ptrTo Tryz.prog 106 = some 108 := by kernel_rfl
theorem ty_t106 : tapp Tryz.prog 106 = some (1, 8) := by kernel_rfl
theorem ty_c106 : tzc Tryz.prog 106 = some [.c (.pointer none)] := by kernel_rfl
theorem ty_y106 : zelem Tryz.prog 106 = some (.c (.pointer none)) := by kernel_rfl
theorem ty_u107 : (Tryz.prog.underlying 107).isSome = true := by kernel_rfl
theorem ty_z107 : tsz Tryz.prog 107 = some 2 := by kernel_rfl
theorem ty_a107 : isAggT Tryz.prog 107 = some true := by kernel_rfl
theorem ty_i107 : intT Tryz.prog 107 = none := by kernel_rfl
theorem ty_s107 : isStr Tryz.prog 107 = false := by kernel_rfl
theorem ty_b107 : isBoolT Tryz.prog 107 = false := by kernel_rfl
theorem ty_e107 : elemT Tryz.prog 107 = none := by kernel_rfl
theorem ty_f107_0 : fieldT Tryz.prog 107 0 = some (23, 0) := by kernel_rfl
theorem ty_f107_1 : fieldT Tryz.prog 107 1 = some (4, 1) := by kernel_rfl
theorem ty_pl107 : placesT Tryz.prog 107 = some [(0, 1), (1, 1)] := by kernel_rfl
theorem ty_t107 : tapp Tryz.prog 107 = some (2, 32) := by kernel_rfl
theorem ty_c107 : tzc Tryz.prog 107 = some [.c (.slice none 0 0), .c (.bool false)] := by kernel_rfl
theorem ty_y107 : zelem Tryz.prog 107 = some (.agg [.c (.slice none 0 0), .c (.bool false)]) := by kernel_rfl
theorem ty_u108 : (Tryz.prog.underlying 108).isSome = true := by kernel_rfl
theorem ty_z108 : tsz Tryz.prog 108 = some 2 := by kernel_rfl
theorem ty_a108 : isAggT Tryz.prog 108 = some true := by kernel_rfl
theorem ty_i108 : intT Tryz.prog 108 = none := by kernel_rfl
theorem ty_s108 : isStr Tryz.prog 108 = false := by kernel_rfl
theorem ty_b108 : isBoolT Tryz.prog 108 = false := by kernel_rfl
theorem ty_e108 : elemT Tryz.prog 108 = none := by kernel_rfl
theorem ty_f108_0 : fieldT Tryz.prog 108 0 = some (23, 0) := by kernel_rfl
theorem ty_f108_1 : fieldT Tryz.prog 108 1 = some (4, 1) := by kernel_rfl
theorem ty_pl108 : placesT Tryz.prog 108 = some [(0, 1), (1, 1)] := by kernel_rfl
theorem ty_t108 : tapp Tryz.prog 108 = some (2, 32) := by kernel_rfl
theorem ty_c108 : tzc Tryz.prog 108 = some [.c (.slice none 0 0), .c (.bool false)] := by kernel_rfl
theorem ty_y108 : zelem Tryz.prog 108 = some (.agg [.c (.slice none 0 0), .c (.bool false)]) := by kernel_rfl
theorem ty_u110 : (Tryz.prog.underlying 110).isSome = true := by kernel_rfl
theorem ty_z110 : tsz Tryz.prog 110 = some 1 := by kernel_rfl
theorem ty_a110 : isAggT Tryz.prog 110 = some false := by kernel_rfl
theorem ty_i110 : intT Tryz.prog 110 = none := by kernel_rfl
theorem ty_s110 : isStr Tryz.prog 110 = false := by kernel_rfl
theorem ty_b110 : isBoolT Tryz.prog 110 = false := by kernel_rfl
theorem ty_e110 : elemT Tryz.prog 110 = none := by kernel_rfl
theorem ty_p110 : isPtr Tryz.prog 110 = true := by kernel_rfl
theorem ty_q110 : ptrTo Tryz.prog 110 = some 112 := by kernel_rfl
theorem ty_t110 : tapp Tryz.prog 110 = some (1, 8) := by kernel_rfl
theorem ty_c110 : tzc Tryz.prog 110 = some [.c (.pointer none)] := by kernel_rfl
theorem ty_y110 : zelem Tryz.prog 110 = some (.c (.pointer none)) := by kernel_rfl
theorem ty_u111 : (Tryz.prog.underlying 111).isSome = true := by kernel_rfl
theorem ty_z111 : tsz Tryz.prog 111 = some 2 := by kernel_rfl
theorem ty_a111 : isAggT Tryz.prog 111 = some true := by kernel_rfl
theorem ty_i111 : intT Tryz.prog 111 = none := by kernel_rfl
theorem ty_s111 : isStr Tryz.prog 111 = false := by kernel_rfl
theorem ty_b111 : isBoolT Tryz.prog 111 = false := by kernel_rfl
theorem ty_e111 : elemT Tryz.prog 111 = none := by kernel_rfl
theorem ty_f111_0 : fieldT Tryz.prog 111 0 = some (23, 0) := by kernel_rfl
theorem ty_f111_1 : fieldT Tryz.prog 111 1 = some (4, 1) := by kernel_rfl
theorem ty_pl111 : placesT Tryz.prog 111 = some [(0, 1), (1, 1)] := by kernel_rfl
theorem ty_t111 : tapp Tryz.prog 111 = some (2, 32) := by kernel_rfl
theorem ty_c111 : tzc Tryz.prog 111 = some [.c (.slice none 0 0), .c (.bool false)] := by kernel_rfl
theorem ty_y111 : zelem Tryz.prog 111 = some (.agg [.c (.slice none 0 0), .c (.bool false)]) := by kernel_rfl
theorem ty_u112 : (Tryz.prog.underlying 112).isSome = true := by kernel_rfl
theorem ty_z112 : tsz Tryz.prog 112 = some 2 := by kernel_rfl
theorem ty_a112 : isAggT Tryz.prog 112 = some true := by kernel_rfl
theorem ty_i112 : intT Tryz.prog 112 = none := by kernel_rfl
theorem ty_s112 : isStr Tryz.prog 112 = false := by kernel_rfl
theorem ty_b112 : isBoolT Tryz.prog 112 = false := by kernel_rfl
theorem ty_e112 : elemT Tryz.prog 112 = none := by kernel_rfl
theorem ty_f112_0 : fieldT Tryz.prog 112 0 = some (23, 0) := by kernel_rfl
theorem ty_f112_1 : fieldT Tryz.prog 112 1 = some (4, 1) := by kernel_rfl
theorem ty_pl112 : placesT Tryz.prog 112 = some [(0, 1), (1, 1)] := by kernel_rfl
theorem ty_t112 : tapp Tryz.prog 112 = some (2, 32) := by kernel_rfl
theorem ty_c112 : tzc Tryz.prog 112 = some [.c (.slice none 0 0), .c (.bool false)] := by kernel_rfl
theorem ty_y112 : zelem Tryz.prog 112 = some (.agg [.c (.slice none 0 0), .c (.bool false)]) := by kernel_rfl
theorem ty_u113 : (Tryz.prog.underlying 113).isSome = true := by kernel_rfl
theorem ty_z113 : tsz Tryz.prog 113 = some 1 := by kernel_rfl
theorem ty_a113 : isAggT Tryz.prog 113 = some false := by kernel_rfl
theorem ty_i113 : intT Tryz.prog 113 = none := by kernel_rfl
theorem ty_s113 : isStr Tryz.prog 113 = false := by kernel_rfl
theorem ty_b113 : isBoolT Tryz.prog 113 = false := by kernel_rfl
theorem ty_e113 : elemT Tryz.prog 113 = none := by kernel_rfl
theorem ty_p113 : isPtr Tryz.prog 113 = true := by kernel_rfl
theorem ty_q113 : ptrTo Tryz.prog 113 = some 115 := by kernel_rfl
theorem ty_t113 : tapp Tryz.prog 113 = some (1, 8) := by kernel_rfl
theorem ty_c113 : tzc Tryz.prog 113 = some [.c (.pointer none)] := by kernel_rfl
theorem ty_y113 : zelem Tryz.prog 113 = some (.c (.pointer none)) := by kernel_rfl
theorem ty_u114 : (Tryz.prog.underlying 114).isSome = true := by kernel_rfl
theorem ty_z114 : tsz Tryz.prog 114 = some 2 := by kernel_rfl
theorem ty_a114 : isAggT Tryz.prog 114 = some true := by kernel_rfl
theorem ty_i114 : intT Tryz.prog 114 = none := by kernel_rfl
theorem ty_s114 : isStr Tryz.prog 114 = false := by kernel_rfl
theorem ty_b114 : isBoolT Tryz.prog 114 = false := by kernel_rfl
theorem ty_e114 : elemT Tryz.prog 114 = none := by kernel_rfl
theorem ty_f114_0 : fieldT Tryz.prog 114 0 = some (113, 0) := by kernel_rfl
theorem ty_f114_1 : fieldT Tryz.prog 114 1 = some (28, 1) := by kernel_rfl
theorem ty_pl114 : placesT Tryz.prog 114 = some [(0, 1), (1, 1)] := by kernel_rfl
theorem ty_t114 : tapp Tryz.prog 114 = some (2, 32) := by kernel_rfl
theorem ty_c114 : tzc Tryz.prog 114 = some [.c (.pointer none), .c (.slice none 0 0)] := by kernel_rfl
theorem ty_y114 : zelem Tryz.prog 114 = some (.agg [.c (.pointer none), .c (.slice none 0 0)]) := by kernel_rfl
theorem ty_u115 : (Tryz.prog.underlying 115).isSome = true := by kernel_rfl
theorem ty_z115 : tsz Tryz.prog 115 = some 2 := by kernel_rfl
theorem ty_a115 : isAggT Tryz.prog 115 = some true := by kernel_rfl
theorem ty_i115 : intT Tryz.prog 115 = none := by kernel_rfl
theorem ty_s115 : isStr Tryz.prog 115 = false := by kernel_rfl
theorem ty_b115 : isBoolT Tryz.prog 115 = false := by kernel_rfl
theorem ty_e115 : elemT Tryz.prog 115 = none := by kernel_rfl
theorem ty_f115_0 : fieldT Tryz.prog 115 0 = some (113, 0) := by kernel_rfl
theorem ty_f115_1 : fieldT Tryz.prog 115 1 = some (28, 1) := by kernel_rfl
theorem ty_pl115 : placesT Tryz.prog 115 = some [(0, 1), (1, 1)] := by kernel_rfl
theorem ty_t115 : tapp Tryz.prog 115 = some (2, 32) := by kernel_rfl
theorem ty_c115 : tzc Tryz.prog 115 = some [.c (.pointer none), .c (.slice none 0 0)] := by kernel_rfl
theorem ty_y115 : zelem Tryz.prog 115 = some (.agg [.c (.pointer none), .c (.slice none 0 0)]) := by kernel_rfl
theorem ty_u117 : (Tryz.prog.underlying 117).isSome = true := by kernel_rfl
theorem ty_u132 : (Tryz.prog.underlying 132).isSome = true := by kernel_rfl
theorem ty_z132 : tsz Tryz.prog 132 = some 14 := by kernel_rfl
theorem ty_a132 : isAggT Tryz.prog 132 = some true := by kernel_rfl
theorem ty_i132 : intT Tryz.prog 132 = none := by kernel_rfl
theorem ty_s132 : isStr Tryz.prog 132 = false := by kernel_rfl
theorem ty_b132 : isBoolT Tryz.prog 132 = false := by kernel_rfl
theorem ty_e132 : elemT Tryz.prog 132 = none := by kernel_rfl
theorem ty_r132 : arrayT Tryz.prog 132 = some (14, 4) := by kernel_rfl
theorem ty_t132 : tapp Tryz.prog 132 = some (14, 14) := by kernel_rfl
theorem ty_c132 : tzc Tryz.prog 132 = some [.c (.bool false), .c (.bool false), .c (.bool false), .c (.bool false), .c (.bool false), .c (.bool false), .c (.bool false), .c (.bool false), .c (.bool false), .c (.bool false), .c (.bool false), .c (.bool false), .c (.bool false), .c (.bool false)] := by kernel_rfl
theorem ty_y132 : zelem Tryz.prog 132 = some (.agg [.c (.bool false), .c (.bool false), .c (.bool false), .c (.bool false), .c (.bool false), .c (.bool false), .c (.bool false), .c (.bool false), .c (.bool false), .c (.bool false), .c (.bool false), .c (.bool false), .c (.bool false), .c (.bool false)]) := by kernel_rfl
theorem ty_u140 : (Tryz.prog.underlying 140).isSome = true := by kernel_rfl
theorem ty_z140 : tsz Tryz.prog 140 = some 13 := by kernel_rfl
theorem ty_a140 : isAggT Tryz.prog 140 = some true := by kernel_rfl
theorem ty_i140 : intT Tryz.prog 140 = none := by kernel_rfl
theorem ty_s140 : isStr Tryz.prog 140 = false := by kernel_rfl
theorem ty_b140 : isBoolT Tryz.prog 140 = false := by kernel_rfl
theorem ty_e140 : elemT Tryz.prog 140 = none := by kernel_rfl
theorem ty_r140 : arrayT Tryz.prog 140 = some (13, 4) := by kernel_rfl
theorem ty_t140 : tapp Tryz.prog 140 = some (13, 13) := by kernel_rfl
theorem ty_c140 : tzc Tryz.prog 140 = some [.c (.bool false), .c (.bool false), .c (.bool false), .c (.bool false), .c (.bool false), .c (.bool false), .c (.bool false), .c (.bool false), .c (.bool false), .c (.bool false), .c (.bool false), .c (.bool false), .c (.bool false)] := by kernel_rfl
theorem ty_y140 : zelem Tryz.prog 140 = some (.agg [.c (.bool false), .c (.bool false), .c (.bool false), .c (.bool false), .c (.bool false), .c (.bool false), .c (.bool false), .c (.bool false), .c (.bool false), .c (.bool false), .c (.bool false), .c (.bool false), .c (.bool false)]) := by kernel_rfl
theorem ty_u151 : (Tryz.prog.underlying 151).isSome = true := by kernel_rfl
theorem ty_z151 : tsz Tryz.prog 151 = some 1 := by kernel_rfl
theorem ty_a151 : isAggT Tryz.prog 151 = some false := by kernel_rfl
theorem ty_i151 : intT Tryz.prog 151 = none := by kernel_rfl
theorem ty_s151 : isStr Tryz.prog 151 = false := by kernel_rfl
theorem ty_b151 : isBoolT Tryz.prog 151 = false := by kernel_rfl
theorem ty_e151 : elemT Tryz.prog 151 = none := by kernel_rfl
theorem ty_p151 : isPtr Tryz.prog 151 = true := by kernel_rfl
theorem ty_q151 : ptrTo Tryz.prog 151 = some 32 := by kernel_rfl
theorem ty_t151 : tapp Tryz.prog 151 = some (1, 8) := by kernel_rfl
theorem ty_c151 : tzc Tryz.prog 151 = some [.c (.pointer none)] := by kernel_rfl
theorem ty_y151 : zelem Tryz.prog 151 = some (.c (.pointer none)) := by kernel_rfl
theorem ty_u152 : (Tryz.prog.underlying 152).isSome = true := by kernel_rfl
theorem ty_z152 : tsz Tryz.prog 152 = some 1 := by kernel_rfl
theorem ty_a152 : isAggT Tryz.prog 152 = some false := by kernel_rfl
theorem ty_i152 : intT Tryz.prog 152 = none := by kernel_rfl
theorem ty_s152 : isStr Tryz.prog 152 = false := by kernel_rfl
theorem ty_b152 : isBoolT Tryz.prog 152 = false := by kernel_rfl
theorem ty_e152 : elemT Tryz.prog 152 = none := by kernel_rfl
theorem ty_p152 : isPtr Tryz.prog 152 = true := by kernel_rfl
theorem ty_q152 : ptrTo Tryz.prog 152 = some 5 := by kernel_rfl
theorem ty_t152 : tapp Tryz.prog 152 = some (1, 8) := by kernel_rfl
theorem ty_c152 : tzc Tryz.prog 152 = some [.c (.pointer none)] := by kernel_rfl
theorem ty_y152 : zelem Tryz.prog 152 = some (.c (.pointer none)) := by kernel_rfl
theorem ty_u184 : (Tryz.prog.underlying 184).isSome = true := by kernel_rfl
theorem ty_z184 : tsz Tryz.prog 184 = some 1 := by kernel_rfl
theorem ty_a184 : isAggT Tryz.prog 184 = some false := by kernel_rfl
theorem ty_i184 : intT Tryz.prog 184 = none := by kernel_rfl
theorem ty_s184 : isStr Tryz.prog 184 = false := by kernel_rfl
theorem ty_b184 : isBoolT Tryz.prog 184 = false := by kernel_rfl
theorem ty_e184 : elemT Tryz.prog 184 = none := by kernel_rfl
theorem ty_t184 : tapp Tryz.prog 184 = some (1, 8) := by kernel_rfl
theorem ty_c184 : tzc Tryz.prog 184 = some [.c (.pointer none)] := by kernel_rfl
theorem ty_y184 : zelem Tryz.prog 184 = some (.c (.pointer none)) := by kernel_rfl
theorem ty_u197 : (Tryz.prog.underlying 197).isSome = true := by kernel_rfl
theorem ty_z197 : tsz Tryz.prog 197 = some 1 := by kernel_rfl
theorem ty_a197 : isAggT Tryz.prog 197 = some false := by kernel_rfl
theorem ty_i197 : intT Tryz.prog 197 = some .u32 := by kernel_rfl
theorem ty_s197 : isStr Tryz.prog 197 = false := by kernel_rfl
theorem ty_b197 : isBoolT Tryz.prog 197 = false := by kernel_rfl
theorem ty_e197 : elemT Tryz.prog 197 = none := by kernel_rfl
theorem ty_t197 : tapp Tryz.prog 197 = some (1, 4) := by kernel_rfl
theorem ty_c197 : tzc Tryz.prog 197 = some [.c (.int .u32 0)] := by kernel_rfl
theorem ty_y197 : zelem Tryz.prog 197 = some (.c (.int .u32 0)) := by kernel_rfl
theorem ty_u219 : (Tryz.prog.underlying 219).isSome = true := by kernel_rfl
theorem ty_z219 : tsz Tryz.prog 219 = some 24 := by kernel_rfl
theorem ty_a219 : isAggT Tryz.prog 219 = some true := by kernel_rfl
theorem ty_i219 : intT Tryz.prog 219 = none := by kernel_rfl
theorem ty_s219 : isStr Tryz.prog 219 = false := by kernel_rfl
theorem ty_b219 : isBoolT Tryz.prog 219 = false := by kernel_rfl
theorem ty_e219 : elemT Tryz.prog 219 = none := by kernel_rfl
theorem ty_r219 : arrayT Tryz.prog 219 = some (24, 5) := by kernel_rfl
theorem ty_t219 : tapp Tryz.prog 219 = some (24, 24) := by kernel_rfl
theorem ty_c219 : tzc Tryz.prog 219 = some [.c (.int .u8 0), .c (.int .u8 0), .c (.int .u8 0), .c (.int .u8 0), .c (.int .u8 0), .c (.int .u8 0), .c (.int .u8 0), .c (.int .u8 0), .c (.int .u8 0), .c (.int .u8 0), .c (.int .u8 0), .c (.int .u8 0), .c (.int .u8 0), .c (.int .u8 0), .c (.int .u8 0), .c (.int .u8 0), .c (.int .u8 0), .c (.int .u8 0), .c (.int .u8 0), .c (.int .u8 0), .c (.int .u8 0), .c (.int .u8 0), .c (.int .u8 0), .c (.int .u8 0)] := by kernel_rfl
theorem ty_y219 : zelem Tryz.prog 219 = some (.agg [.c (.int .u8 0), .c (.int .u8 0), .c (.int .u8 0), .c (.int .u8 0), .c (.int .u8 0), .c (.int .u8 0), .c (.int .u8 0), .c (.int .u8 0), .c (.int .u8 0), .c (.int .u8 0), .c (.int .u8 0), .c (.int .u8 0), .c (.int .u8 0), .c (.int .u8 0), .c (.int .u8 0), .c (.int .u8 0), .c (.int .u8 0), .c (.int .u8 0), .c (.int .u8 0), .c (.int .u8 0), .c (.int .u8 0), .c (.int .u8 0), .c (.int .u8 0), .c (.int .u8 0)]) := by kernel_rfl
theorem ty_u256 : (Tryz.prog.underlying 256).isSome = true := by kernel_rfl
theorem ty_z256 : tsz Tryz.prog 256 = some 20 := by kernel_rfl
theorem ty_a256 : isAggT Tryz.prog 256 = some true := by kernel_rfl
theorem ty_i256 : intT Tryz.prog 256 = none := by kernel_rfl
theorem ty_s256 : isStr Tryz.prog 256 = false := by kernel_rfl
theorem ty_b256 : isBoolT Tryz.prog 256 = false := by kernel_rfl
theorem ty_e256 : elemT Tryz.prog 256 = none := by kernel_rfl
theorem ty_r256 : arrayT Tryz.prog 256 = some (20, 24) := by kernel_rfl
theorem ty_t256 : tapp Tryz.prog 256 = some (20, 160) := by kernel_rfl
theorem ty_c256 : tzc Tryz.prog 256 = some [.c (.int .u64 0), .c (.int .u64 0), .c (.int .u64 0), .c (.int .u64 0), .c (.int .u64 0), .c (.int .u64 0), .c (.int .u64 0), .c (.int .u64 0), .c (.int .u64 0), .c (.int .u64 0), .c (.int .u64 0), .c (.int .u64 0), .c (.int .u64 0), .c (.int .u64 0), .c (.int .u64 0), .c (.int .u64 0), .c (.int .u64 0), .c (.int .u64 0), .c (.int .u64 0), .c (.int .u64 0)] := by kernel_rfl
theorem ty_y256 : zelem Tryz.prog 256 = some (.agg [.c (.int .u64 0), .c (.int .u64 0), .c (.int .u64 0), .c (.int .u64 0), .c (.int .u64 0), .c (.int .u64 0), .c (.int .u64 0), .c (.int .u64 0), .c (.int .u64 0), .c (.int .u64 0), .c (.int .u64 0), .c (.int .u64 0), .c (.int .u64 0), .c (.int .u64 0), .c (.int .u64 0), .c (.int .u64 0), .c (.int .u64 0), .c (.int .u64 0), .c (.int .u64 0), .c (.int .u64 0)]) := by kernel_rfl
theorem ty_u257 : (Tryz.prog.underlying 257).isSome = true := by kernel_rfl
theorem ty_z257 : tsz Tryz.prog 257 = some 65 := by kernel_rfl
theorem ty_a257 : isAggT Tryz.prog 257 = some true := by kernel_rfl
theorem ty_i257 : intT Tryz.prog 257 = none := by kernel_rfl
theorem ty_s257 : isStr Tryz.prog 257 = false := by kernel_rfl
theorem ty_b257 : isBoolT Tryz.prog 257 = false := by kernel_rfl
theorem ty_e257 : elemT Tryz.prog 257 = none := by kernel_rfl
theorem ty_r257 : arrayT Tryz.prog 257 = some (65, 5) := by kernel_rfl
theorem ty_t257 : tapp Tryz.prog 257 = some (65, 65) := by kernel_rfl
theorem ty_c257 : tzc Tryz.prog 257 = some [.c (.int .u8 0), .c (.int .u8 0), .c (.int .u8 0), .c (.int .u8 0), .c (.int .u8 0), .c (.int .u8 0), .c (.int .u8 0), .c (.int .u8 0), .c (.int .u8 0), .c (.int .u8 0), .c (.int .u8 0), .c (.int .u8 0), .c (.int .u8 0), .c (.int .u8 0), .c (.int .u8 0), .c (.int .u8 0), .c (.int .u8 0), .c (.int .u8 0), .c (.int .u8 0), .c (.int .u8 0), .c (.int .u8 0), .c (.int .u8 0), .c (.int .u8 0), .c (.int .u8 0), .c (.int .u8 0), .c (.int .u8 0), .c (.int .u8 0), .c (.int .u8 0), .c (.int .u8 0), .c (.int .u8 0), .c (.int .u8 0), .c (.int .u8 0), .c (.int .u8 0), .c (.int .u8 0), .c (.int .u8 0), .c (.int .u8 0), .c (.int .u8 0), .c (.int .u8 0), .c (.int .u8 0), .c (.int .u8 0), .c (.int .u8 0), .c (.int .u8 0), .c (.int .u8 0), .c (.int .u8 0), .c (.int .u8 0), .c (.int .u8 0), .c (.int .u8 0), .c (.int .u8 0), .c (.int .u8 0), .c (.int .u8 0), .c (.int .u8 0), .c (.int .u8 0), .c (.int .u8 0), .c (.int .u8 0), .c (.int .u8 0), .c (.int .u8 0), .c (.int .u8 0), .c (.int .u8 0), .c (.int .u8 0), .c (.int .u8 0), .c (.int .u8 0), .c (.int .u8 0), .c (.int .u8 0), .c (.int .u8 0), .c (.int .u8 0)] := by kernel_rfl
theorem ty_y257 : zelem Tryz.prog 257 = some (.agg [.c (.int .u8 0), .c (.int .u8 0), .c (.int .u8 0), .c (.int .u8 0), .c (.int .u8 0), .c (.int .u8 0), .c (.int .u8 0), .c (.int .u8 0), .c (.int .u8 0), .c (.int .u8 0), .c (.int .u8 0), .c (.int .u8 0), .c (.int .u8 0), .c (.int .u8 0), .c (.int .u8 0), .c (.int .u8 0), .c (.int .u8 0), .c (.int .u8 0), .c (.int .u8 0), .c (.int .u8 0), .c (.int .u8 0), .c (.int .u8 0), .c (.int .u8 0), .c (.int .u8 0), .c (.int .u8 0), .c (.int .u8 0), .c (.int .u8 0), .c (.int .u8 0), .c (.int .u8 0), .c (.int .u8 0), .c (.int .u8 0), .c (.int .u8 0), .c (.int .u8 0), .c (.int .u8 0), .c (.int .u8 0), .c (.int .u8 0), .c (.int .u8 0), .c (.int .u8 0), .c (.int .u8 0), .c (.int .u8 0), .c (.int .u8 0), .c (.int .u8 0), .c (.int .u8 0), .c (.int .u8 0), .c (.int .u8 0), .c (.int .u8 0), .c (.int .u8 0), .c (.int .u8 0), .c (.int .u8 0), .c (.int .u8 0), .c (.int .u8 0), .c (.int .u8 0), .c (.int .u8 0), .c (.int .u8 0), .c (.int .u8 0), .c (.int .u8 0), .c (.int .u8 0), .c (.int .u8 0), .c (.int .u8 0), .c (.int .u8 0), .c (.int .u8 0), .c (.int .u8 0), .c (.int .u8 0), .c (.int .u8 0), .c (.int .u8 0)]) := by kernel_rfl
theorem ty_u268 : (Tryz.prog.underlying 268).isSome = true := by kernel_rfl
theorem ty_z268 : tsz Tryz.prog 268 = some 1 := by kernel_rfl
theorem ty_a268 : isAggT Tryz.prog 268 = some false := by kernel_rfl
theorem ty_i268 : intT Tryz.prog 268 = none := by kernel_rfl
theorem ty_s268 : isStr Tryz.prog 268 = false := by kernel_rfl
theorem ty_b268 : isBoolT Tryz.prog 268 = false := by kernel_rfl
theorem ty_e268 : elemT Tryz.prog 268 = some 24 := by kernel_rfl
theorem ty_t268 : tapp Tryz.prog 268 = some (1, 24) := by kernel_rfl
theorem ty_c268 : tzc Tryz.prog 268 = some [.c (.slice none 0 0)] := by kernel_rfl
theorem ty_y268 : zelem Tryz.prog 268 = some (.c (.slice none 0 0)) := by kernel_rfl
theorem ty_u273 : (Tryz.prog.underlying 273).isSome = true := by kernel_rfl
theorem ty_z273 : tsz Tryz.prog 273 = some 1 := by kernel_rfl
theorem ty_a273 : isAggT Tryz.prog 273 = some false := by kernel_rfl
theorem ty_i273 : intT Tryz.prog 273 = some .i64 := by kernel_rfl
theorem ty_s273 : isStr Tryz.prog 273 = false := by kernel_rfl
theorem ty_b273 : isBoolT Tryz.prog 273 = false := by kernel_rfl
theorem ty_e273 : elemT Tryz.prog 273 = none := by kernel_rfl
theorem ty_t273 : tapp Tryz.prog 273 = some (1, 8) := by kernel_rfl
theorem ty_c273 : tzc Tryz.prog 273 = some [.c (.int .i64 0)] := by kernel_rfl
theorem ty_y273 : zelem Tryz.prog 273 = some (.c (.int .i64 0)) := by kernel_rfl
theorem ty_u275 : (Tryz.prog.underlying 275).isSome = true := by kernel_rfl
theorem ty_z275 : tsz Tryz.prog 275 = some 1 := by kernel_rfl
theorem ty_a275 : isAggT Tryz.prog 275 = some false := by kernel_rfl
theorem ty_i275 : intT Tryz.prog 275 = none := by kernel_rfl
theorem ty_s275 : isStr Tryz.prog 275 = false := by kernel_rfl
theorem ty_b275 : isBoolT Tryz.prog 275 = false := by kernel_rfl
theorem ty_e275 : elemT Tryz.prog 275 = none := by kernel_rfl
theorem ty_p275 : isPtr Tryz.prog 275 = true := by kernel_rfl
theorem ty_q275 : ptrTo Tryz.prog 275 = some 285 := by kernel_rfl
theorem ty_t275 : tapp Tryz.prog 275 = some (1, 8) := by kernel_rfl
theorem ty_c275 : tzc Tryz.prog 275 = some [.c (.pointer none)] := by kernel_rfl
theorem ty_y275 : zelem Tryz.prog 275 = some (.c (.pointer none)) := by kernel_rfl
theorem ty_u282 : (Tryz.prog.underlying 282).isSome = true := by kernel_rfl
theorem ty_z282 : tsz Tryz.prog 282 = some 32 := by kernel_rfl
theorem ty_a282 : isAggT Tryz.prog 282 = some true := by kernel_rfl
theorem ty_i282 : intT Tryz.prog 282 = none := by kernel_rfl
theorem ty_s282 : isStr Tryz.prog 282 = false := by kernel_rfl
theorem ty_b282 : isBoolT Tryz.prog 282 = false := by kernel_rfl
theorem ty_e282 : elemT Tryz.prog 282 = none := by kernel_rfl
theorem ty_r282 : arrayT Tryz.prog 282 = some (32, 5) := by kernel_rfl
theorem ty_t282 : tapp Tryz.prog 282 = some (32, 32) := by kernel_rfl
theorem ty_c282 : tzc Tryz.prog 282 = some [.c (.int .u8 0), .c (.int .u8 0), .c (.int .u8 0), .c (.int .u8 0), .c (.int .u8 0), .c (.int .u8 0), .c (.int .u8 0), .c (.int .u8 0), .c (.int .u8 0), .c (.int .u8 0), .c (.int .u8 0), .c (.int .u8 0), .c (.int .u8 0), .c (.int .u8 0), .c (.int .u8 0), .c (.int .u8 0), .c (.int .u8 0), .c (.int .u8 0), .c (.int .u8 0), .c (.int .u8 0), .c (.int .u8 0), .c (.int .u8 0), .c (.int .u8 0), .c (.int .u8 0), .c (.int .u8 0), .c (.int .u8 0), .c (.int .u8 0), .c (.int .u8 0), .c (.int .u8 0), .c (.int .u8 0), .c (.int .u8 0), .c (.int .u8 0)] := by kernel_rfl
theorem ty_y282 : zelem Tryz.prog 282 = some (.agg [.c (.int .u8 0), .c (.int .u8 0), .c (.int .u8 0), .c (.int .u8 0), .c (.int .u8 0), .c (.int .u8 0), .c (.int .u8 0), .c (.int .u8 0), .c (.int .u8 0), .c (.int .u8 0), .c (.int .u8 0), .c (.int .u8 0), .c (.int .u8 0), .c (.int .u8 0), .c (.int .u8 0), .c (.int .u8 0), .c (.int .u8 0), .c (.int .u8 0), .c (.int .u8 0), .c (.int .u8 0), .c (.int .u8 0), .c (.int .u8 0), .c (.int .u8 0), .c (.int .u8 0), .c (.int .u8 0), .c (.int .u8 0), .c (.int .u8 0), .c (.int .u8 0), .c (.int .u8 0), .c (.int .u8 0), .c (.int .u8 0), .c (.int .u8 0)]) := by kernel_rfl
theorem ty_u283 : (Tryz.prog.underlying 283).isSome = true := by kernel_rfl
theorem ty_z283 : tsz Tryz.prog 283 = some 64 := by kernel_rfl
theorem ty_a283 : isAggT Tryz.prog 283 = some true := by kernel_rfl
theorem ty_i283 : intT Tryz.prog 283 = none := by kernel_rfl
theorem ty_s283 : isStr Tryz.prog 283 = false := by kernel_rfl
theorem ty_b283 : isBoolT Tryz.prog 283 = false := by kernel_rfl
theorem ty_e283 : elemT Tryz.prog 283 = none := by kernel_rfl
theorem ty_r283 : arrayT Tryz.prog 283 = some (64, 5) := by kernel_rfl
theorem ty_t283 : tapp Tryz.prog 283 = some (64, 64) := by kernel_rfl
theorem ty_c283 : tzc Tryz.prog 283 = some [.c (.int .u8 0), .c (.int .u8 0), .c (.int .u8 0), .c (.int .u8 0), .c (.int .u8 0), .c (.int .u8 0), .c (.int .u8 0), .c (.int .u8 0), .c (.int .u8 0), .c (.int .u8 0), .c (.int .u8 0), .c (.int .u8 0), .c (.int .u8 0), .c (.int .u8 0), .c (.int .u8 0), .c (.int .u8 0), .c (.int .u8 0), .c (.int .u8 0), .c (.int .u8 0), .c (.int .u8 0), .c (.int .u8 0), .c (.int .u8 0), .c (.int .u8 0), .c (.int .u8 0), .c (.int .u8 0), .c (.int .u8 0), .c (.int .u8 0), .c (.int .u8 0), .c (.int .u8 0), .c (.int .u8 0), .c (.int .u8 0), .c (.int .u8 0), .c (.int .u8 0), .c (.int .u8 0), .c (.int .u8 0), .c (.int .u8 0), .c (.int .u8 0), .c (.int .u8 0), .c (.int .u8 0), .c (.int .u8 0), .c (.int .u8 0), .c (.int .u8 0), .c (.int .u8 0), .c (.int .u8 0), .c (.int .u8 0), .c (.int .u8 0), .c (.int .u8 0), .c (.int .u8 0), .c (.int .u8 0), .c (.int .u8 0), .c (.int .u8 0), .c (.int .u8 0), .c (.int .u8 0), .c (.int .u8 0), .c (.int .u8 0), .c (.int .u8 0), .c (.int .u8 0), .c (.int .u8 0), .c (.int .u8 0), .c (.int .u8 0), .c (.int .u8 0), .c (.int .u8 0), .c (.int .u8 0), .c (.int .u8 0)] := by kernel_rfl
theorem ty_y283 : zelem Tryz.prog 283 = some (.agg [.c (.int .u8 0), .c (.int .u8 0), .c (.int .u8 0), .c (.int .u8 0), .c (.int .u8 0), .c (.int .u8 0), .c (.int .u8 0), .c (.int .u8 0), .c (.int .u8 0), .c (.int .u8 0), .c (.int .u8 0), .c (.int .u8 0), .c (.int .u8 0), .c (.int .u8 0), .c (.int .u8 0), .c (.int .u8 0), .c (.int .u8 0), .c (.int .u8 0), .c (.int .u8 0), .c (.int .u8 0), .c (.int .u8 0), .c (.int .u8 0), .c (.int .u8 0), .c (.int .u8 0), .c (.int .u8 0), .c (.int .u8 0), .c (.int .u8 0), .c (.int .u8 0), .c (.int .u8 0), .c (.int .u8 0), .c (.int .u8 0), .c (.int .u8 0), .c (.int .u8 0), .c (.int .u8 0), .c (.int .u8 0), .c (.int .u8 0), .c (.int .u8 0), .c (.int .u8 0), .c (.int .u8 0), .c (.int .u8 0), .c (.int .u8 0), .c (.int .u8 0), .c (.int .u8 0), .c (.int .u8 0), .c (.int .u8 0), .c (.int .u8 0), .c (.int .u8 0), .c (.int .u8 0), .c (.int .u8 0), .c (.int .u8 0), .c (.int .u8 0), .c (.int .u8 0), .c (.int .u8 0), .c (.int .u8 0), .c (.int .u8 0), .c (.int .u8 0), .c (.int .u8 0), .c (.int .u8 0), .c (.int .u8 0), .c (.int .u8 0), .c (.int .u8 0), .c (.int .u8 0), .c (.int .u8 0), .c (.int .u8 0)]) := by kernel_rfl
theorem ty_u284 : (Tryz.prog.underlying 284).isSome = true := by kernel_rfl
theorem ty_z284 : tsz Tryz.prog 284 = some 3 := by kernel_rfl
theorem ty_a284 : isAggT Tryz.prog 284 = some true := by kernel_rfl
theorem ty_i284 : intT Tryz.prog 284 = none := by kernel_rfl
theorem ty_s284 : isStr Tryz.prog 284 = false := by kernel_rfl
theorem ty_b284 : isBoolT Tryz.prog 284 = false := by kernel_rfl
theorem ty_e284 : elemT Tryz.prog 284 = none := by kernel_rfl
theorem ty_f284_0 : fieldT Tryz.prog 284 0 = some (9, 0) := by kernel_rfl
theorem ty_f284_1 : fieldT Tryz.prog 284 1 = some (9, 1) := by kernel_rfl
theorem ty_f284_2 : fieldT Tryz.prog 284 2 = some (117, 2) := by kernel_rfl
theorem ty_pl284 : placesT Tryz.prog 284 = some [(0, 1), (1, 1), (2, 1)] := by kernel_rfl
theorem ty_t284 : tapp Tryz.prog 284 = some (3, 48) := by kernel_rfl
theorem ty_c284 : tzc Tryz.prog 284 = some [.c (.string ⟨#[]⟩), .c (.string ⟨#[]⟩), .c (.nilIface)] := by kernel_rfl
theorem ty_y284 : zelem Tryz.prog 284 = some (.agg [.c (.string ⟨#[]⟩), .c (.string ⟨#[]⟩), .c (.nilIface)]) := by kernel_rfl
theorem ty_u285 : (Tryz.prog.underlying 285).isSome = true := by kernel_rfl
theorem ty_z285 : tsz Tryz.prog 285 = some 3 := by kernel_rfl
theorem ty_a285 : isAggT Tryz.prog 285 = some true := by kernel_rfl
theorem ty_i285 : intT Tryz.prog 285 = none := by kernel_rfl
theorem ty_s285 : isStr Tryz.prog 285 = false := by kernel_rfl
theorem ty_b285 : isBoolT Tryz.prog 285 = false := by kernel_rfl
theorem ty_e285 : elemT Tryz.prog 285 = none := by kernel_rfl
theorem ty_f285_0 : fieldT Tryz.prog 285 0 = some (9, 0) := by kernel_rfl
theorem ty_f285_1 : fieldT Tryz.prog 285 1 = some (9, 1) := by kernel_rfl
theorem ty_f285_2 : fieldT Tryz.prog 285 2 = some (117, 2) := by kernel_rfl
theorem ty_pl285 : placesT Tryz.prog 285 = some [(0, 1), (1, 1), (2, 1)] := by kernel_rfl
theorem ty_t285 : tapp Tryz.prog 285 = some (3, 48) := by kernel_rfl
theorem ty_c285 : tzc Tryz.prog 285 = some [.c (.string ⟨#[]⟩), .c (.string ⟨#[]⟩), .c (.nilIface)] := by kernel_rfl
theorem ty_y285 : zelem Tryz.prog 285 = some (.agg [.c (.string ⟨#[]⟩), .c (.string ⟨#[]⟩), .c (.nilIface)]) := by kernel_rfl
theorem ty_u287 : (Tryz.prog.underlying 287).isSome = true := by kernel_rfl
theorem ty_z287 : tsz Tryz.prog 287 = some 256 := by kernel_rfl
theorem ty_a287 : isAggT Tryz.prog 287 = some true := by kernel_rfl
theorem ty_i287 : intT Tryz.prog 287 = none := by kernel_rfl
theorem ty_s287 : isStr Tryz.prog 287 = false := by kernel_rfl
theorem ty_b287 : isBoolT Tryz.prog 287 = false := by kernel_rfl
theorem ty_e287 : elemT Tryz.prog 287 = none := by kernel_rfl
theorem ty_r287 : arrayT Tryz.prog 287 = some (256, 5) := by kernel_rfl
theorem ty_t287 : tapp Tryz.prog 287 = some (256, 256) := by kernel_rfl
theorem ty_u288 : (Tryz.prog.underlying 288).isSome = true := by kernel_rfl
theorem ty_z288 : tsz Tryz.prog 288 = some 2 := by kernel_rfl
theorem ty_a288 : isAggT Tryz.prog 288 = some true := by kernel_rfl
theorem ty_i288 : intT Tryz.prog 288 = none := by kernel_rfl
theorem ty_s288 : isStr Tryz.prog 288 = false := by kernel_rfl
theorem ty_b288 : isBoolT Tryz.prog 288 = false := by kernel_rfl
theorem ty_e288 : elemT Tryz.prog 288 = none := by kernel_rfl
theorem ty_f288_0 : fieldT Tryz.prog 288 0 = some (5, 0) := by kernel_rfl
theorem ty_f288_1 : fieldT Tryz.prog 288 1 = some (5, 1) := by kernel_rfl
theorem ty_pl288 : placesT Tryz.prog 288 = some [(0, 1), (1, 1)] := by kernel_rfl
theorem ty_eq288 : eqPl Tryz.prog 288 = some [(0, .n), (1, .n)] := by kernel_rfl
theorem ty_t288 : tapp Tryz.prog 288 = some (2, 2) := by kernel_rfl
theorem ty_c288 : tzc Tryz.prog 288 = some [.c (.int .u8 0), .c (.int .u8 0)] := by kernel_rfl
theorem ty_y288 : zelem Tryz.prog 288 = some (.agg [.c (.int .u8 0), .c (.int .u8 0)]) := by kernel_rfl
theorem ty_u289 : (Tryz.prog.underlying 289).isSome = true := by kernel_rfl
theorem ty_z289 : tsz Tryz.prog 289 = some 2 := by kernel_rfl
theorem ty_a289 : isAggT Tryz.prog 289 = some true := by kernel_rfl
theorem ty_i289 : intT Tryz.prog 289 = none := by kernel_rfl
theorem ty_s289 : isStr Tryz.prog 289 = false := by kernel_rfl
theorem ty_b289 : isBoolT Tryz.prog 289 = false := by kernel_rfl
theorem ty_e289 : elemT Tryz.prog 289 = none := by kernel_rfl
theorem ty_f289_0 : fieldT Tryz.prog 289 0 = some (5, 0) := by kernel_rfl
theorem ty_f289_1 : fieldT Tryz.prog 289 1 = some (5, 1) := by kernel_rfl
theorem ty_pl289 : placesT Tryz.prog 289 = some [(0, 1), (1, 1)] := by kernel_rfl
theorem ty_eq289 : eqPl Tryz.prog 289 = some [(0, .n), (1, .n)] := by kernel_rfl
theorem ty_t289 : tapp Tryz.prog 289 = some (2, 2) := by kernel_rfl
theorem ty_c289 : tzc Tryz.prog 289 = some [.c (.int .u8 0), .c (.int .u8 0)] := by kernel_rfl
theorem ty_y289 : zelem Tryz.prog 289 = some (.agg [.c (.int .u8 0), .c (.int .u8 0)]) := by kernel_rfl
theorem ty_u290 : (Tryz.prog.underlying 290).isSome = true := by kernel_rfl
theorem ty_z290 : tsz Tryz.prog 290 = some 32 := by kernel_rfl
theorem ty_a290 : isAggT Tryz.prog 290 = some true := by kernel_rfl
theorem ty_i290 : intT Tryz.prog 290 = none := by kernel_rfl
theorem ty_s290 : isStr Tryz.prog 290 = false := by kernel_rfl
theorem ty_b290 : isBoolT Tryz.prog 290 = false := by kernel_rfl
theorem ty_e290 : elemT Tryz.prog 290 = none := by kernel_rfl
theorem ty_r290 : arrayT Tryz.prog 290 = some (16, 289) := by kernel_rfl
theorem ty_t290 : tapp Tryz.prog 290 = some (32, 32) := by kernel_rfl
theorem ty_c290 : tzc Tryz.prog 290 = some [.c (.int .u8 0), .c (.int .u8 0), .c (.int .u8 0), .c (.int .u8 0), .c (.int .u8 0), .c (.int .u8 0), .c (.int .u8 0), .c (.int .u8 0), .c (.int .u8 0), .c (.int .u8 0), .c (.int .u8 0), .c (.int .u8 0), .c (.int .u8 0), .c (.int .u8 0), .c (.int .u8 0), .c (.int .u8 0), .c (.int .u8 0), .c (.int .u8 0), .c (.int .u8 0), .c (.int .u8 0), .c (.int .u8 0), .c (.int .u8 0), .c (.int .u8 0), .c (.int .u8 0), .c (.int .u8 0), .c (.int .u8 0), .c (.int .u8 0), .c (.int .u8 0), .c (.int .u8 0), .c (.int .u8 0), .c (.int .u8 0), .c (.int .u8 0)] := by kernel_rfl
theorem ty_y290 : zelem Tryz.prog 290 = some (.agg [.c (.int .u8 0), .c (.int .u8 0), .c (.int .u8 0), .c (.int .u8 0), .c (.int .u8 0), .c (.int .u8 0), .c (.int .u8 0), .c (.int .u8 0), .c (.int .u8 0), .c (.int .u8 0), .c (.int .u8 0), .c (.int .u8 0), .c (.int .u8 0), .c (.int .u8 0), .c (.int .u8 0), .c (.int .u8 0), .c (.int .u8 0), .c (.int .u8 0), .c (.int .u8 0), .c (.int .u8 0), .c (.int .u8 0), .c (.int .u8 0), .c (.int .u8 0), .c (.int .u8 0), .c (.int .u8 0), .c (.int .u8 0), .c (.int .u8 0), .c (.int .u8 0), .c (.int .u8 0), .c (.int .u8 0), .c (.int .u8 0), .c (.int .u8 0)]) := by kernel_rfl
theorem ty_u291 : (Tryz.prog.underlying 291).isSome = true := by kernel_rfl
theorem ty_z291 : tsz Tryz.prog 291 = some 1 := by kernel_rfl
theorem ty_a291 : isAggT Tryz.prog 291 = some false := by kernel_rfl
theorem ty_i291 : intT Tryz.prog 291 = none := by kernel_rfl
theorem ty_s291 : isStr Tryz.prog 291 = false := by kernel_rfl
theorem ty_b291 : isBoolT Tryz.prog 291 = false := by kernel_rfl
theorem ty_e291 : elemT Tryz.prog 291 = none := by kernel_rfl
theorem ty_p291 : isPtr Tryz.prog 291 = true := by kernel_rfl
theorem ty_q291 : ptrTo Tryz.prog 291 = some 293 := by kernel_rfl
theorem ty_t291 : tapp Tryz.prog 291 = some (1, 8) := by kernel_rfl
theorem ty_c291 : tzc Tryz.prog 291 = some [.c (.pointer none)] := by kernel_rfl
theorem ty_y291 : zelem Tryz.prog 291 = some (.c (.pointer none)) := by kernel_rfl
theorem ty_u292 : (Tryz.prog.underlying 292).isSome = true := by kernel_rfl
theorem ty_z292 : tsz Tryz.prog 292 = some 1 := by kernel_rfl
theorem ty_a292 : isAggT Tryz.prog 292 = some true := by kernel_rfl
theorem ty_i292 : intT Tryz.prog 292 = none := by kernel_rfl
theorem ty_s292 : isStr Tryz.prog 292 = false := by kernel_rfl
theorem ty_b292 : isBoolT Tryz.prog 292 = false := by kernel_rfl
theorem ty_e292 : elemT Tryz.prog 292 = none := by kernel_rfl
theorem ty_f292_0 : fieldT Tryz.prog 292 0 = some (9, 0) := by kernel_rfl
theorem ty_pl292 : placesT Tryz.prog 292 = some [(0, 1)] := by kernel_rfl
theorem ty_eq292 : eqPl Tryz.prog 292 = some [(0, .s)] := by kernel_rfl
theorem ty_t292 : tapp Tryz.prog 292 = some (1, 16) := by kernel_rfl
theorem ty_c292 : tzc Tryz.prog 292 = some [.c (.string ⟨#[]⟩)] := by kernel_rfl
theorem ty_y292 : zelem Tryz.prog 292 = some (.agg [.c (.string ⟨#[]⟩)]) := by kernel_rfl
theorem ty_u293 : (Tryz.prog.underlying 293).isSome = true := by kernel_rfl
theorem ty_z293 : tsz Tryz.prog 293 = some 1 := by kernel_rfl
theorem ty_a293 : isAggT Tryz.prog 293 = some true := by kernel_rfl
theorem ty_i293 : intT Tryz.prog 293 = none := by kernel_rfl
theorem ty_s293 : isStr Tryz.prog 293 = false := by kernel_rfl
theorem ty_b293 : isBoolT Tryz.prog 293 = false := by kernel_rfl
theorem ty_e293 : elemT Tryz.prog 293 = none := by kernel_rfl
theorem ty_f293_0 : fieldT Tryz.prog 293 0 = some (9, 0) := by kernel_rfl
theorem ty_pl293 : placesT Tryz.prog 293 = some [(0, 1)] := by kernel_rfl
theorem ty_eq293 : eqPl Tryz.prog 293 = some [(0, .s)] := by kernel_rfl
theorem ty_t293 : tapp Tryz.prog 293 = some (1, 16) := by kernel_rfl
theorem ty_c293 : tzc Tryz.prog 293 = some [.c (.string ⟨#[]⟩)] := by kernel_rfl
theorem ty_y293 : zelem Tryz.prog 293 = some (.agg [.c (.string ⟨#[]⟩)]) := by kernel_rfl
theorem ty_u294 : (Tryz.prog.underlying 294).isSome = true := by kernel_rfl
theorem ty_z294 : tsz Tryz.prog 294 = some 4 := by kernel_rfl
theorem ty_a294 : isAggT Tryz.prog 294 = some true := by kernel_rfl
theorem ty_i294 : intT Tryz.prog 294 = none := by kernel_rfl
theorem ty_s294 : isStr Tryz.prog 294 = false := by kernel_rfl
theorem ty_b294 : isBoolT Tryz.prog 294 = false := by kernel_rfl
theorem ty_e294 : elemT Tryz.prog 294 = none := by kernel_rfl
theorem ty_f294_0 : fieldT Tryz.prog 294 0 = some (17, 0) := by kernel_rfl
theorem ty_f294_1 : fieldT Tryz.prog 294 1 = some (17, 1) := by kernel_rfl
theorem ty_f294_2 : fieldT Tryz.prog 294 2 = some (17, 2) := by kernel_rfl
theorem ty_f294_3 : fieldT Tryz.prog 294 3 = some (9, 3) := by kernel_rfl
theorem ty_pl294 : placesT Tryz.prog 294 = some [(0, 1), (1, 1), (2, 1), (3, 1)] := by kernel_rfl
theorem ty_t294 : tapp Tryz.prog 294 = some (4, 40) := by kernel_rfl
theorem ty_c294 : tzc Tryz.prog 294 = some [.c (.pointer none), .c (.pointer none), .c (.pointer none), .c (.string ⟨#[]⟩)] := by kernel_rfl
theorem ty_y294 : zelem Tryz.prog 294 = some (.agg [.c (.pointer none), .c (.pointer none), .c (.pointer none), .c (.string ⟨#[]⟩)]) := by kernel_rfl
theorem ty_u296 : (Tryz.prog.underlying 296).isSome = true := by kernel_rfl
theorem ty_z296 : tsz Tryz.prog 296 = some 0 := by kernel_rfl
theorem ty_a296 : isAggT Tryz.prog 296 = some true := by kernel_rfl
theorem ty_i296 : intT Tryz.prog 296 = none := by kernel_rfl
theorem ty_s296 : isStr Tryz.prog 296 = false := by kernel_rfl
theorem ty_b296 : isBoolT Tryz.prog 296 = false := by kernel_rfl
theorem ty_e296 : elemT Tryz.prog 296 = none := by kernel_rfl
theorem ty_r296 : arrayT Tryz.prog 296 = some (0, 16) := by kernel_rfl
theorem ty_u297 : (Tryz.prog.underlying 297).isSome = true := by kernel_rfl
theorem ty_z297 : tsz Tryz.prog 297 = some 0 := by kernel_rfl
theorem ty_a297 : isAggT Tryz.prog 297 = some true := by kernel_rfl
theorem ty_i297 : intT Tryz.prog 297 = none := by kernel_rfl
theorem ty_s297 : isStr Tryz.prog 297 = false := by kernel_rfl
theorem ty_b297 : isBoolT Tryz.prog 297 = false := by kernel_rfl
theorem ty_e297 : elemT Tryz.prog 297 = none := by kernel_rfl
theorem ty_f297_0 : fieldT Tryz.prog 297 0 = some (296, 0) := by kernel_rfl
theorem ty_pl297 : placesT Tryz.prog 297 = some [(0, 0)] := by kernel_rfl
theorem ty_u298 : (Tryz.prog.underlying 298).isSome = true := by kernel_rfl
theorem ty_z298 : tsz Tryz.prog 298 = some 0 := by kernel_rfl
theorem ty_a298 : isAggT Tryz.prog 298 = some true := by kernel_rfl
theorem ty_i298 : intT Tryz.prog 298 = none := by kernel_rfl
theorem ty_s298 : isStr Tryz.prog 298 = false := by kernel_rfl
theorem ty_b298 : isBoolT Tryz.prog 298 = false := by kernel_rfl
theorem ty_e298 : elemT Tryz.prog 298 = none := by kernel_rfl
theorem ty_f298_0 : fieldT Tryz.prog 298 0 = some (296, 0) := by kernel_rfl
theorem ty_pl298 : placesT Tryz.prog 298 = some [(0, 0)] := by kernel_rfl
theorem ty_u299 : (Tryz.prog.underlying 299).isSome = true := by kernel_rfl
theorem ty_z299 : tsz Tryz.prog 299 = some 1 := by kernel_rfl
theorem ty_a299 : isAggT Tryz.prog 299 = some false := by kernel_rfl
theorem ty_i299 : intT Tryz.prog 299 = some .u8 := by kernel_rfl
theorem ty_s299 : isStr Tryz.prog 299 = false := by kernel_rfl
theorem ty_b299 : isBoolT Tryz.prog 299 = false := by kernel_rfl
theorem ty_e299 : elemT Tryz.prog 299 = none := by kernel_rfl
theorem ty_t299 : tapp Tryz.prog 299 = some (1, 1) := by kernel_rfl
theorem ty_c299 : tzc Tryz.prog 299 = some [.c (.int .u8 0)] := by kernel_rfl
theorem ty_y299 : zelem Tryz.prog 299 = some (.c (.int .u8 0)) := by kernel_rfl
theorem ty_u300 : (Tryz.prog.underlying 300).isSome = true := by kernel_rfl
theorem ty_z300 : tsz Tryz.prog 300 = some 1 := by kernel_rfl
theorem ty_a300 : isAggT Tryz.prog 300 = some false := by kernel_rfl
theorem ty_i300 : intT Tryz.prog 300 = some .u8 := by kernel_rfl
theorem ty_s300 : isStr Tryz.prog 300 = false := by kernel_rfl
theorem ty_b300 : isBoolT Tryz.prog 300 = false := by kernel_rfl
theorem ty_e300 : elemT Tryz.prog 300 = none := by kernel_rfl
theorem ty_t300 : tapp Tryz.prog 300 = some (1, 1) := by kernel_rfl
theorem ty_c300 : tzc Tryz.prog 300 = some [.c (.int .u8 0)] := by kernel_rfl
theorem ty_y300 : zelem Tryz.prog 300 = some (.c (.int .u8 0)) := by kernel_rfl
theorem ty_u301 : (Tryz.prog.underlying 301).isSome = true := by kernel_rfl
theorem ty_u302 : (Tryz.prog.underlying 302).isSome = true := by kernel_rfl
theorem ty_z302 : tsz Tryz.prog 302 = some 1 := by kernel_rfl
theorem ty_a302 : isAggT Tryz.prog 302 = some false := by kernel_rfl
theorem ty_i302 : intT Tryz.prog 302 = some .i32 := by kernel_rfl
theorem ty_s302 : isStr Tryz.prog 302 = false := by kernel_rfl
theorem ty_b302 : isBoolT Tryz.prog 302 = false := by kernel_rfl
theorem ty_e302 : elemT Tryz.prog 302 = none := by kernel_rfl
theorem ty_t302 : tapp Tryz.prog 302 = some (1, 4) := by kernel_rfl
theorem ty_c302 : tzc Tryz.prog 302 = some [.c (.int .i32 0)] := by kernel_rfl
theorem ty_y302 : zelem Tryz.prog 302 = some (.c (.int .i32 0)) := by kernel_rfl
theorem ty_u303 : (Tryz.prog.underlying 303).isSome = true := by kernel_rfl
theorem ty_z303 : tsz Tryz.prog 303 = some 1 := by kernel_rfl
theorem ty_a303 : isAggT Tryz.prog 303 = some false := by kernel_rfl
theorem ty_i303 : intT Tryz.prog 303 = some .i32 := by kernel_rfl
theorem ty_s303 : isStr Tryz.prog 303 = false := by kernel_rfl
theorem ty_b303 : isBoolT Tryz.prog 303 = false := by kernel_rfl
theorem ty_e303 : elemT Tryz.prog 303 = none := by kernel_rfl
theorem ty_t303 : tapp Tryz.prog 303 = some (1, 4) := by kernel_rfl
theorem ty_c303 : tzc Tryz.prog 303 = some [.c (.int .i32 0)] := by kernel_rfl
theorem ty_y303 : zelem Tryz.prog 303 = some (.c (.int .i32 0)) := by kernel_rfl
theorem ty_u304 : (Tryz.prog.underlying 304).isSome = true := by kernel_rfl
theorem ty_z304 : tsz Tryz.prog 304 = some 11 := by kernel_rfl
theorem ty_a304 : isAggT Tryz.prog 304 = some true := by kernel_rfl
theorem ty_i304 : intT Tryz.prog 304 = none := by kernel_rfl
theorem ty_s304 : isStr Tryz.prog 304 = false := by kernel_rfl
theorem ty_b304 : isBoolT Tryz.prog 304 = false := by kernel_rfl
theorem ty_e304 : elemT Tryz.prog 304 = none := by kernel_rfl
theorem ty_f304_0 : fieldT Tryz.prog 304 0 = some (12, 0) := by kernel_rfl
theorem ty_f304_1 : fieldT Tryz.prog 304 1 = some (12, 1) := by kernel_rfl
theorem ty_f304_2 : fieldT Tryz.prog 304 2 = some (197, 2) := by kernel_rfl
theorem ty_f304_3 : fieldT Tryz.prog 304 3 = some (299, 3) := by kernel_rfl
theorem ty_f304_4 : fieldT Tryz.prog 304 4 = some (5, 4) := by kernel_rfl
theorem ty_f304_5 : fieldT Tryz.prog 304 5 = some (5, 5) := by kernel_rfl
theorem ty_f304_6 : fieldT Tryz.prog 304 6 = some (300, 6) := by kernel_rfl
theorem ty_f304_7 : fieldT Tryz.prog 304 7 = some (301, 7) := by kernel_rfl
theorem ty_f304_8 : fieldT Tryz.prog 304 8 = some (152, 8) := by kernel_rfl
theorem ty_f304_9 : fieldT Tryz.prog 304 9 = some (302, 9) := by kernel_rfl
theorem ty_f304_10 : fieldT Tryz.prog 304 10 = some (303, 10) := by kernel_rfl
theorem ty_pl304 : placesT Tryz.prog 304 = some [(0, 1), (1, 1), (2, 1), (3, 1), (4, 1), (5, 1), (6, 1), (7, 1), (8, 1), (9, 1), (10, 1)] := by kernel_rfl
theorem ty_t304 : tapp Tryz.prog 304 = some (11, 48) := by kernel_rfl
theorem ty_c304 : tzc Tryz.prog 304 = some [.c (.int .u64 0), .c (.int .u64 0), .c (.int .u32 0), .c (.int .u8 0), .c (.int .u8 0), .c (.int .u8 0), .c (.int .u8 0), .c (.nilFunc), .c (.pointer none), .c (.int .i32 0), .c (.int .i32 0)] := by kernel_rfl
theorem ty_y304 : zelem Tryz.prog 304 = some (.agg [.c (.int .u64 0), .c (.int .u64 0), .c (.int .u32 0), .c (.int .u8 0), .c (.int .u8 0), .c (.int .u8 0), .c (.int .u8 0), .c (.nilFunc), .c (.pointer none), .c (.int .i32 0), .c (.int .i32 0)]) := by kernel_rfl
theorem ty_u305 : (Tryz.prog.underlying 305).isSome = true := by kernel_rfl
theorem ty_z305 : tsz Tryz.prog 305 = some 11 := by kernel_rfl
theorem ty_a305 : isAggT Tryz.prog 305 = some true := by kernel_rfl
theorem ty_i305 : intT Tryz.prog 305 = none := by kernel_rfl
theorem ty_s305 : isStr Tryz.prog 305 = false := by kernel_rfl
theorem ty_b305 : isBoolT Tryz.prog 305 = false := by kernel_rfl
theorem ty_e305 : elemT Tryz.prog 305 = none := by kernel_rfl
theorem ty_f305_0 : fieldT Tryz.prog 305 0 = some (12, 0) := by kernel_rfl
theorem ty_f305_1 : fieldT Tryz.prog 305 1 = some (12, 1) := by kernel_rfl
theorem ty_f305_2 : fieldT Tryz.prog 305 2 = some (197, 2) := by kernel_rfl
theorem ty_f305_3 : fieldT Tryz.prog 305 3 = some (299, 3) := by kernel_rfl
theorem ty_f305_4 : fieldT Tryz.prog 305 4 = some (5, 4) := by kernel_rfl
theorem ty_f305_5 : fieldT Tryz.prog 305 5 = some (5, 5) := by kernel_rfl
theorem ty_f305_6 : fieldT Tryz.prog 305 6 = some (300, 6) := by kernel_rfl
theorem ty_f305_7 : fieldT Tryz.prog 305 7 = some (301, 7) := by kernel_rfl
theorem ty_f305_8 : fieldT Tryz.prog 305 8 = some (152, 8) := by kernel_rfl
theorem ty_f305_9 : fieldT Tryz.prog 305 9 = some (302, 9) := by kernel_rfl
theorem ty_f305_10 : fieldT Tryz.prog 305 10 = some (303, 10) := by kernel_rfl
theorem ty_pl305 : placesT Tryz.prog 305 = some [(0, 1), (1, 1), (2, 1), (3, 1), (4, 1), (5, 1), (6, 1), (7, 1), (8, 1), (9, 1), (10, 1)] := by kernel_rfl
theorem ty_t305 : tapp Tryz.prog 305 = some (11, 48) := by kernel_rfl
theorem ty_c305 : tzc Tryz.prog 305 = some [.c (.int .u64 0), .c (.int .u64 0), .c (.int .u32 0), .c (.int .u8 0), .c (.int .u8 0), .c (.int .u8 0), .c (.int .u8 0), .c (.nilFunc), .c (.pointer none), .c (.int .i32 0), .c (.int .i32 0)] := by kernel_rfl
theorem ty_y305 : zelem Tryz.prog 305 = some (.agg [.c (.int .u64 0), .c (.int .u64 0), .c (.int .u32 0), .c (.int .u8 0), .c (.int .u8 0), .c (.int .u8 0), .c (.int .u8 0), .c (.nilFunc), .c (.pointer none), .c (.int .i32 0), .c (.int .i32 0)]) := by kernel_rfl
def tyf := And.intro @ty_u2 (And.intro @ty_z2 (And.intro @ty_a2 (And.intro @ty_i2 (And.intro @ty_s2 (And.intro @ty_b2 (And.intro @ty_e2 (And.intro @ty_t2 (And.intro @ty_c2 (And.intro @ty_y2 (And.intro @ty_u3 (And.intro @ty_z3 (And.intro @ty_a3 (And.intro @ty_i3 (And.intro @ty_s3 (And.intro @ty_b3 (And.intro @ty_e3 (And.intro @ty_t3 (And.intro @ty_c3 (And.intro @ty_y3 (And.intro @ty_u4 (And.intro @ty_z4 (And.intro @ty_a4 (And.intro @ty_i4 (And.intro @ty_s4 (And.intro @ty_b4 (And.intro @ty_e4 (And.intro @ty_t4 (And.intro @ty_c4 (And.intro @ty_y4 (And.intro @ty_u5 (And.intro @ty_z5 (And.intro @ty_a5 (And.intro @ty_i5 (And.intro @ty_s5 (And.intro @ty_b5 (And.intro @ty_e5 (And.intro @ty_t5 (And.intro @ty_c5 (And.intro @ty_y5 (And.intro @ty_u6 (And.intro @ty_z6 (And.intro @ty_a6 (And.intro @ty_i6 (And.intro @ty_s6 (And.intro @ty_b6 (And.intro @ty_e6 (And.intro @ty_t6 (And.intro @ty_c6 (And.intro @ty_y6 (And.intro @ty_u7 (And.intro @ty_z7 (And.intro @ty_a7 (And.intro @ty_i7 (And.intro @ty_s7 (And.intro @ty_b7 (And.intro @ty_e7 (And.intro @ty_f7_0 (And.intro @ty_f7_1 (And.intro @ty_f7_2 (And.intro @ty_f7_3 (And.intro @ty_pl7 (And.intro @ty_eq7 (And.intro @ty_t7 (And.intro @ty_c7 (And.intro @ty_y7 (And.intro @ty_u9 (And.intro @ty_z9 (And.intro @ty_a9 (And.intro @ty_i9 (And.intro @ty_s9 (And.intro @ty_b9 (And.intro @ty_e9 (And.intro @ty_t9 (And.intro @ty_c9 (And.intro @ty_y9 (And.intro @ty_u12 (And.intro @ty_z12 (And.intro @ty_a12 (And.intro @ty_i12 (And.intro @ty_s12 (And.intro @ty_b12 (And.intro @ty_e12 (And.intro @ty_t12 (And.intro @ty_c12 (And.intro @ty_y12 (And.intro @ty_u13 (And.intro @ty_z13 (And.intro @ty_a13 (And.intro @ty_i13 (And.intro @ty_s13 (And.intro @ty_b13 (And.intro @ty_e13 (And.intro @ty_f13_0 (And.intro @ty_f13_1 (And.intro @ty_pl13 (And.intro @ty_t13 (And.intro @ty_c13 (And.intro @ty_y13 (And.intro @ty_u16 (And.intro @ty_z16 (And.intro @ty_a16 (And.intro @ty_i16 (And.intro @ty_s16 (And.intro @ty_b16 (And.intro @ty_e16 (And.intro @ty_p16 (And.intro @ty_q16 (And.intro @ty_t16 (And.intro @ty_c16 (And.intro @ty_y16 (And.intro @ty_u17 (And.intro @ty_z17 (And.intro @ty_a17 (And.intro @ty_i17 (And.intro @ty_s17 (And.intro @ty_b17 (And.intro @ty_e17 (And.intro @ty_p17 (And.intro @ty_q17 (And.intro @ty_t17 (And.intro @ty_c17 (And.intro @ty_y17 (And.intro @ty_u18 (And.intro @ty_z18 (And.intro @ty_a18 (And.intro @ty_i18 (And.intro @ty_s18 (And.intro @ty_b18 (And.intro @ty_e18 (And.intro @ty_f18_0 (And.intro @ty_pl18 (And.intro @ty_t18 (And.intro @ty_c18 (And.intro @ty_y18 (And.intro @ty_u21 (And.intro @ty_z21 (And.intro @ty_a21 (And.intro @ty_i21 (And.intro @ty_s21 (And.intro @ty_b21 (And.intro @ty_e21 (And.intro @ty_t21 (And.intro @ty_c21 (And.intro @ty_y21 (And.intro @ty_u22 (And.intro @ty_z22 (And.intro @ty_a22 (And.intro @ty_i22 (And.intro @ty_s22 (And.intro @ty_b22 (And.intro @ty_e22 (And.intro @ty_t22 (And.intro @ty_c22 (And.intro @ty_y22 (And.intro @ty_u23 (And.intro @ty_z23 (And.intro @ty_a23 (And.intro @ty_i23 (And.intro @ty_s23 (And.intro @ty_b23 (And.intro @ty_e23 (And.intro @ty_t23 (And.intro @ty_c23 (And.intro @ty_y23 (And.intro @ty_u24 (And.intro @ty_z24 (And.intro @ty_a24 (And.intro @ty_i24 (And.intro @ty_s24 (And.intro @ty_b24 (And.intro @ty_e24 (And.intro @ty_t24 (And.intro @ty_c24 (And.intro @ty_y24 (And.intro @ty_u25 (And.intro @ty_z25 (And.intro @ty_a25 (And.intro @ty_i25 (And.intro @ty_s25 (And.intro @ty_b25 (And.intro @ty_e25 (And.intro @ty_f25_0 (And.intro @ty_f25_1 (And.intro @ty_f25_2 (And.intro @ty_f25_3 (And.intro @ty_pl25 (And.intro @ty_eq25 (And.intro @ty_t25 (And.intro @ty_c25 (And.intro @ty_y25 (And.intro @ty_u26 (And.intro @ty_z26 (And.intro @ty_a26 (And.intro @ty_i26 (And.intro @ty_s26 (And.intro @ty_b26 (And.intro @ty_e26 (And.intro @ty_f26_0 (And.intro @ty_f26_1 (And.intro @ty_f26_2 (And.intro @ty_f26_3 (And.intro @ty_pl26 (And.intro @ty_eq26 (And.intro @ty_t26 (And.intro @ty_c26 (And.intro @ty_y26 (And.intro @ty_u27 (And.intro @ty_z27 (And.intro @ty_a27 (And.intro @ty_i27 (And.intro @ty_s27 (And.intro @ty_b27 (And.intro @ty_e27 (And.intro @ty_t27 (And.intro @ty_c27 (And.intro @ty_y27 (And.intro @ty_u28 (And.intro @ty_z28 (And.intro @ty_a28 (And.intro @ty_i28 (And.intro @ty_s28 (And.intro @ty_b28 (And.intro @ty_e28 (And.intro @ty_t28 (And.intro @ty_c28 (And.intro @ty_y28 (And.intro @ty_u29 (And.intro @ty_z29 (And.intro @ty_a29 (And.intro @ty_i29 (And.intro @ty_s29 (And.intro @ty_b29 (And.intro @ty_e29 (And.intro @ty_f29_0 (And.intro @ty_f29_1 (And.intro @ty_f29_2 (And.intro @ty_f29_3 (And.intro @ty_f29_4 (And.intro @ty_pl29 (And.intro @ty_eq29 (And.intro @ty_t29 (And.intro @ty_c29 (And.intro @ty_y29 (And.intro @ty_u30 (And.intro @ty_z30 (And.intro @ty_a30 (And.intro @ty_i30 (And.intro @ty_s30 (And.intro @ty_b30 (And.intro @ty_e30 (And.intro @ty_f30_0 (And.intro @ty_f30_1 (And.intro @ty_f30_2 (And.intro @ty_f30_3 (And.intro @ty_f30_4 (And.intro @ty_pl30 (And.intro @ty_eq30 (And.intro @ty_t30 (And.intro @ty_c30 (And.intro @ty_y30 (And.intro @ty_u31 (And.intro @ty_z31 (And.intro @ty_a31 (And.intro @ty_i31 (And.intro @ty_s31 (And.intro @ty_b31 (And.intro @ty_e31 (And.intro @ty_f31_0 (And.intro @ty_f31_1 (And.intro @ty_f31_2 (And.intro @ty_f31_3 (And.intro @ty_f31_4 (And.intro @ty_f31_5 (And.intro @ty_f31_6 (And.intro @ty_f31_7 (And.intro @ty_f31_8 (And.intro @ty_f31_9 (And.intro @ty_f31_10 (And.intro @ty_f31_11 (And.intro @ty_f31_12 (And.intro @ty_f31_13 (And.intro @ty_f31_14 (And.intro @ty_pl31 (And.intro @ty_t31 (And.intro @ty_c31 (And.intro @ty_y31 (And.intro @ty_u32 (And.intro @ty_z32 (And.intro @ty_a32 (And.intro @ty_i32 (And.intro @ty_s32 (And.intro @ty_b32 (And.intro @ty_e32 (And.intro @ty_f32_0 (And.intro @ty_f32_1 (And.intro @ty_f32_2 (And.intro @ty_f32_3 (And.intro @ty_f32_4 (And.intro @ty_f32_5 (And.intro @ty_f32_6 (And.intro @ty_f32_7 (And.intro @ty_f32_8 (And.intro @ty_f32_9 (And.intro @ty_f32_10 (And.intro @ty_f32_11 (And.intro @ty_f32_12 (And.intro @ty_f32_13 (And.intro @ty_f32_14 (And.intro @ty_pl32 (And.intro @ty_t32 (And.intro @ty_c32 (And.intro @ty_y32 (And.intro @ty_u37 (And.intro @ty_z37 (And.intro @ty_a37 (And.intro @ty_i37 (And.intro @ty_s37 (And.intro @ty_b37 (And.intro @ty_e37 (And.intro @ty_t37 (And.intro @ty_c37 (And.intro @ty_y37 (And.intro @ty_u45 (And.intro @ty_z45 (And.intro @ty_a45 (And.intro @ty_i45 (And.intro @ty_s45 (And.intro @ty_b45 (And.intro @ty_e45 (And.intro @ty_t45 (And.intro @ty_c45 (And.intro @ty_y45 (And.intro @ty_u48 (And.intro @ty_z48 (And.intro @ty_a48 (And.intro @ty_i48 (And.intro @ty_s48 (And.intro @ty_b48 (And.intro @ty_e48 (And.intro @ty_t48 (And.intro @ty_c48 (And.intro @ty_y48 (And.intro @ty_u53 (And.intro @ty_z53 (And.intro @ty_a53 (And.intro @ty_i53 (And.intro @ty_s53 (And.intro @ty_b53 (And.intro @ty_e53 (And.intro @ty_t53 (And.intro @ty_c53 (And.intro @ty_y53 (And.intro @ty_u54 (And.intro @ty_z54 (And.intro @ty_a54 (And.intro @ty_i54 (And.intro @ty_s54 (And.intro @ty_b54 (And.intro @ty_e54 (And.intro @ty_f54_0 (And.intro @ty_f54_1 (And.intro @ty_f54_2 (And.intro @ty_f54_3 (And.intro @ty_f54_4 (And.intro @ty_f54_5 (And.intro @ty_pl54 (And.intro @ty_t54 (And.intro @ty_c54 (And.intro @ty_y54 (And.intro @ty_u55 (And.intro @ty_z55 (And.intro @ty_a55 (And.intro @ty_i55 (And.intro @ty_s55 (And.intro @ty_b55 (And.intro @ty_e55 (And.intro @ty_f55_0 (And.intro @ty_f55_1 (And.intro @ty_f55_2 (And.intro @ty_f55_3 (And.intro @ty_f55_4 (And.intro @ty_f55_5 (And.intro @ty_pl55 (And.intro @ty_t55 (And.intro @ty_c55 (And.intro @ty_y55 (And.intro @ty_u56 (And.intro @ty_z56 (And.intro @ty_a56 (And.intro @ty_i56 (And.intro @ty_s56 (And.intro @ty_b56 (And.intro @ty_e56 (And.intro @ty_f56_0 (And.intro @ty_f56_1 (And.intro @ty_f56_2 (And.intro @ty_f56_3 (And.intro @ty_f56_4 (And.intro @ty_f56_5 (And.intro @ty_f56_6 (And.intro @ty_pl56 (And.intro @ty_t56 (And.intro @ty_c56 (And.intro @ty_y56 (And.intro @ty_u57 (And.intro @ty_z57 (And.intro @ty_a57 (And.intro @ty_i57 (And.intro @ty_s57 (And.intro @ty_b57 (And.intro @ty_e57 (And.intro @ty_f57_0 (And.intro @ty_f57_1 (And.intro @ty_f57_2 (And.intro @ty_f57_3 (And.intro @ty_f57_4 (And.intro @ty_f57_5 (And.intro @ty_f57_6 (And.intro @ty_pl57 (And.intro @ty_t57 (And.intro @ty_c57 (And.intro @ty_y57 (And.intro @ty_u58 (And.intro @ty_z58 (And.intro @ty_a58 (And.intro @ty_i58 (And.intro @ty_s58 (And.intro @ty_b58 (And.intro @ty_e58 (And.intro @ty_f58_0 (And.intro @ty_f58_1 (And.intro @ty_f58_2 (And.intro @ty_pl58 (And.intro @ty_eq58 (And.intro @ty_t58 (And.intro @ty_c58 (And.intro @ty_y58 (And.intro @ty_u59 (And.intro @ty_z59 (And.intro @ty_a59 (And.intro @ty_i59 (And.intro @ty_s59 (And.intro @ty_b59 (And.intro @ty_e59 (And.intro @ty_f59_0 (And.intro @ty_f59_1 (And.intro @ty_f59_2 (And.intro @ty_pl59 (And.intro @ty_eq59 (And.intro @ty_t59 (And.intro @ty_c59 (And.intro @ty_y59 (And.intro @ty_u63 (And.intro @ty_z63 (And.intro @ty_a63 (And.intro @ty_i63 (And.intro @ty_s63 (And.intro @ty_b63 (And.intro @ty_e63 (And.intro @ty_f63_0 (And.intro @ty_f63_1 (And.intro @ty_pl63 (And.intro @ty_eq63 (And.intro @ty_t63 (And.intro @ty_c63 (And.intro @ty_y63 (And.intro @ty_u64 (And.intro @ty_z64 (And.intro @ty_a64 (And.intro @ty_i64 (And.intro @ty_s64 (And.intro @ty_b64 (And.intro @ty_e64 (And.intro @ty_f64_0 (And.intro @ty_f64_1 (And.intro @ty_pl64 (And.intro @ty_eq64 (And.intro @ty_t64 (And.intro @ty_c64 (And.intro @ty_y64 (And.intro @ty_u66 (And.intro @ty_z66 (And.intro @ty_a66 (And.intro @ty_i66 (And.intro @ty_s66 (And.intro @ty_b66 (And.intro @ty_e66 (And.intro @ty_t66 (And.intro @ty_c66 (And.intro @ty_y66 (And.intro @ty_u68 (And.intro @ty_z68 (And.intro @ty_a68 (And.intro @ty_i68 (And.intro @ty_s68 (And.intro @ty_b68 (And.intro @ty_e68 (And.intro @ty_f68_0 (And.intro @ty_f68_1 (And.intro @ty_f68_2 (And.intro @ty_pl68 (And.intro @ty_t68 (And.intro @ty_c68 (And.intro @ty_y68 (And.intro @ty_u69 (And.intro @ty_z69 (And.intro @ty_a69 (And.intro @ty_i69 (And.intro @ty_s69 (And.intro @ty_b69 (And.intro @ty_e69 (And.intro @ty_f69_0 (And.intro @ty_f69_1 (And.intro @ty_f69_2 (And.intro @ty_pl69 (And.intro @ty_t69 (And.intro @ty_c69 (And.intro @ty_y69 (And.intro @ty_u79 (And.intro @ty_z79 (And.intro @ty_a79 (And.intro @ty_i79 (And.intro @ty_s79 (And.intro @ty_b79 (And.intro @ty_e79 (And.intro @ty_f79_0 (And.intro @ty_f79_1 (And.intro @ty_f79_2 (And.intro @ty_pl79 (And.intro @ty_eq79 (And.intro @ty_t79 (And.intro @ty_c79 (And.intro @ty_y79 (And.intro @ty_u80 (And.intro @ty_z80 (And.intro @ty_a80 (And.intro @ty_i80 (And.intro @ty_s80 (And.intro @ty_b80 (And.intro @ty_e80 (And.intro @ty_f80_0 (And.intro @ty_f80_1 (And.intro @ty_f80_2 (And.intro @ty_pl80 (And.intro @ty_eq80 (And.intro @ty_t80 (And.intro @ty_c80 (And.intro @ty_y80 (And.intro @ty_u81 (And.intro @ty_z81 (And.intro @ty_a81 (And.intro @ty_i81 (And.intro @ty_s81 (And.intro @ty_b81 (And.intro @ty_e81 (And.intro @ty_f81_0 (And.intro @ty_f81_1 (And.intro @ty_f81_2 (And.intro @ty_f81_3 (And.intro @ty_f81_4 (And.intro @ty_pl81 (And.intro @ty_t81 (And.intro @ty_c81 (And.intro @ty_y81 (And.intro @ty_u82 (And.intro @ty_z82 (And.intro @ty_a82 (And.intro @ty_i82 (And.intro @ty_s82 (And.intro @ty_b82 (And.intro @ty_e82 (And.intro @ty_f82_0 (And.intro @ty_f82_1 (And.intro @ty_f82_2 (And.intro @ty_f82_3 (And.intro @ty_f82_4 (And.intro @ty_pl82 (And.intro @ty_t82 (And.intro @ty_c82 (And.intro @ty_y82 (And.intro @ty_u83 (And.intro @ty_z83 (And.intro @ty_a83 (And.intro @ty_i83 (And.intro @ty_s83 (And.intro @ty_b83 (And.intro @ty_e83 (And.intro @ty_f83_0 (And.intro @ty_f83_1 (And.intro @ty_f83_2 (And.intro @ty_pl83 (And.intro @ty_t83 (And.intro @ty_c83 (And.intro @ty_y83 (And.intro @ty_u84 (And.intro @ty_z84 (And.intro @ty_a84 (And.intro @ty_i84 (And.intro @ty_s84 (And.intro @ty_b84 (And.intro @ty_e84 (And.intro @ty_f84_0 (And.intro @ty_f84_1 (And.intro @ty_f84_2 (And.intro @ty_pl84 (And.intro @ty_t84 (And.intro @ty_c84 (And.intro @ty_y84 (And.intro @ty_u85 (And.intro @ty_z85 (And.intro @ty_a85 (And.intro @ty_i85 (And.intro @ty_s85 (And.intro @ty_b85 (And.intro @ty_e85 (And.intro @ty_f85_0 (And.intro @ty_f85_1 (And.intro @ty_f85_2 (And.intro @ty_f85_3 (And.intro @ty_pl85 (And.intro @ty_t85 (And.intro @ty_c85 (And.intro @ty_y85 (And.intro @ty_u86 (And.intro @ty_z86 (And.intro @ty_a86 (And.intro @ty_i86 (And.intro @ty_s86 (And.intro @ty_b86 (And.intro @ty_e86 (And.intro @ty_f86_0 (And.intro @ty_f86_1 (And.intro @ty_f86_2 (And.intro @ty_f86_3 (And.intro @ty_pl86 (And.intro @ty_t86 (And.intro @ty_c86 (And.intro @ty_y86 (And.intro @ty_u87 (And.intro @ty_z87 (And.intro @ty_a87 (And.intro @ty_i87 (And.intro @ty_s87 (And.intro @ty_b87 (And.intro @ty_e87 (And.intro @ty_f87_0 (And.intro @ty_f87_1 (And.intro @ty_f87_2 (And.intro @ty_f87_3 (And.intro @ty_f87_4 (And.intro @ty_pl87 (And.intro @ty_t87 (And.intro @ty_c87 (And.intro @ty_y87 (And.intro @ty_u88 (And.intro @ty_z88 (And.intro @ty_a88 (And.intro @ty_i88 (And.intro @ty_s88 (And.intro @ty_b88 (And.intro @ty_e88 (And.intro @ty_f88_0 (And.intro @ty_f88_1 (And.intro @ty_f88_2 (And.intro @ty_f88_3 (And.intro @ty_f88_4 (And.intro @ty_pl88 (And.intro @ty_t88 (And.intro @ty_c88 (And.intro @ty_y88 (And.intro @ty_u89 (And.intro @ty_z89 (And.intro @ty_a89 (And.intro @ty_i89 (And.intro @ty_s89 (And.intro @ty_b89 (And.intro @ty_e89 (And.intro @ty_t89 (And.intro @ty_c89 (And.intro @ty_y89 (And.intro @ty_u90 (And.intro @ty_z90 (And.intro @ty_a90 (And.intro @ty_i90 (And.intro @ty_s90 (And.intro @ty_b90 (And.intro @ty_e90 (And.intro @ty_f90_0 (And.intro @ty_f90_1 (And.intro @ty_f90_2 (And.intro @ty_f90_3 (And.intro @ty_f90_4 (And.intro @ty_pl90 (And.intro @ty_t90 (And.intro @ty_c90 (And.intro @ty_y90 (And.intro @ty_u91 (And.intro @ty_z91 (And.intro @ty_a91 (And.intro @ty_i91 (And.intro @ty_s91 (And.intro @ty_b91 (And.intro @ty_e91 (And.intro @ty_f91_0 (And.intro @ty_f91_1 (And.intro @ty_f91_2 (And.intro @ty_f91_3 (And.intro @ty_f91_4 (And.intro @ty_pl91 (And.intro @ty_t91 (And.intro @ty_c91 (And.intro @ty_y91 (And.intro @ty_u92 (And.intro @ty_z92 (And.intro @ty_a92 (And.intro @ty_i92 (And.intro @ty_s92 (And.intro @ty_b92 (And.intro @ty_e92 (And.intro @ty_f92_0 (And.intro @ty_f92_1 (And.intro @ty_f92_2 (And.intro @ty_f92_3 (And.intro @ty_f92_4 (And.intro @ty_f92_5 (And.intro @ty_f92_6 (And.intro @ty_pl92 (And.intro @ty_t92 (And.intro @ty_c92 (And.intro @ty_y92 (And.intro @ty_u93 (And.intro @ty_z93 (And.intro @ty_a93 (And.intro @ty_i93 (And.intro @ty_s93 (And.intro @ty_b93 (And.intro @ty_e93 (And.intro @ty_f93_0 (And.intro @ty_f93_1 (And.intro @ty_f93_2 (And.intro @ty_f93_3 (And.intro @ty_f93_4 (And.intro @ty_f93_5 (And.intro @ty_f93_6 (And.intro @ty_pl93 (And.intro @ty_t93 (And.intro @ty_c93 (And.intro @ty_y93 (And.intro @ty_u106 (And.intro @ty_z106 (And.intro @ty_a106 (And.intro @ty_i106 (And.intro @ty_s106 (And.intro @ty_b106 (And.intro @ty_e106 (And.intro @ty_p106 (And.intro @ty_q106 (And.intro @ty_t106 (And.intro @ty_c106 (And.intro @ty_y106 (And.intro @ty_u107 (And.intro @ty_z107 (And.intro @ty_a107 (And.intro @ty_i107 (And.intro @ty_s107 (And.intro @ty_b107 (And.intro @ty_e107 (And.intro @ty_f107_0 (And.intro @ty_f107_1 (And.intro @ty_pl107 (And.intro @ty_t107 (And.intro @ty_c107 (And.intro @ty_y107 (And.intro @ty_u108 (And.intro @ty_z108 (And.intro @ty_a108 (And.intro @ty_i108 (And.intro @ty_s108 (And.intro @ty_b108 (And.intro @ty_e108 (And.intro @ty_f108_0 (And.intro @ty_f108_1 (And.intro @ty_pl108 (And.intro @ty_t108 (And.intro @ty_c108 (And.intro @ty_y108 (And.intro @ty_u110 (And.intro @ty_z110 (And.intro @ty_a110 (And.intro @ty_i110 (And.intro @ty_s110 (And.intro @ty_b110 (And.intro @ty_e110 (And.intro @ty_p110 (And.intro @ty_q110 (And.intro @ty_t110 (And.intro @ty_c110 (And.intro @ty_y110 (And.intro @ty_u111 (And.intro @ty_z111 (And.intro @ty_a111 (And.intro @ty_i111 (And.intro @ty_s111 (And.intro @ty_b111 (And.intro @ty_e111 (And.intro @ty_f111_0 (And.intro @ty_f111_1 (And.intro @ty_pl111 (And.intro @ty_t111 (And.intro @ty_c111 (And.intro @ty_y111 (And.intro @ty_u112 (And.intro @ty_z112 (And.intro @ty_a112 (And.intro @ty_i112 (And.intro @ty_s112 (And.intro @ty_b112 (And.intro @ty_e112 (And.intro @ty_f112_0 (And.intro @ty_f112_1 (And.intro @ty_pl112 (And.intro @ty_t112 (And.intro @ty_c112 (And.intro @ty_y112 (And.intro @ty_u113 (And.intro @ty_z113 (And.intro @ty_a113 (And.intro @ty_i113 (And.intro @ty_s113 (And.intro @ty_b113 (And.intro @ty_e113 (And.intro @ty_p113 (And.intro @ty_q113 (And.intro @ty_t113 (And.intro @ty_c113 (And.intro @ty_y113 (And.intro @ty_u114 (And.intro @ty_z114 (And.intro @ty_a114 (And.intro @ty_i114 (And.intro @ty_s114 (And.intro @ty_b114 (And.intro @ty_e114 (And.intro @ty_f114_0 (And.intro @ty_f114_1 (And.intro @ty_pl114 (And.intro @ty_t114 (And.intro @ty_c114 (And.intro @ty_y114 (And.intro @ty_u115 (And.intro @ty_z115 (And.intro @ty_a115 (And.intro @ty_i115 (And.intro @ty_s115 (And.intro @ty_b115 (And.intro @ty_e115 (And.intro @ty_f115_0 (And.intro @ty_f115_1 (And.intro @ty_pl115 (And.intro @ty_t115 (And.intro @ty_c115 (And.intro @ty_y115 (And.intro @ty_u117 (And.intro @ty_u132 (And.intro @ty_z132 (And.intro @ty_a132 (And.intro @ty_i132 (And.intro @ty_s132 (And.intro @ty_b132 (And.intro @ty_e132 (And.intro @ty_r132 (And.intro @ty_t132 (And.intro @ty_c132 (And.intro @ty_y132 (And.intro @ty_u140 (And.intro @ty_z140 (And.intro @ty_a140 (And.intro @ty_i140 (And.intro @ty_s140 (And.intro @ty_b140 (And.intro @ty_e140 (And.intro @ty_r140 (And.intro @ty_t140 (And.intro @ty_c140 (And.intro @ty_y140 (And.intro @ty_u151 (And.intro @ty_z151 (And.intro @ty_a151 (And.intro @ty_i151 (And.intro @ty_s151 (And.intro @ty_b151 (And.intro @ty_e151 (And.intro @ty_p151 (And.intro @ty_q151 (And.intro @ty_t151 (And.intro @ty_c151 (And.intro @ty_y151 (And.intro @ty_u152 (And.intro @ty_z152 (And.intro @ty_a152 (And.intro @ty_i152 (And.intro @ty_s152 (And.intro @ty_b152 (And.intro @ty_e152 (And.intro @ty_p152 (And.intro @ty_q152 (And.intro @ty_t152 (And.intro @ty_c152 (And.intro @ty_y152 (And.intro @ty_u184 (And.intro @ty_z184 (And.intro @ty_a184 (And.intro @ty_i184 (And.intro @ty_s184 (And.intro @ty_b184 (And.intro @ty_e184 (And.intro @ty_t184 (And.intro @ty_c184 (And.intro @ty_y184 (And.intro @ty_u197 (And.intro @ty_z197 (And.intro @ty_a197 (And.intro @ty_i197 (And.intro @ty_s197 (And.intro @ty_b197 (And.intro @ty_e197 (And.intro @ty_t197 (And.intro @ty_c197 (And.intro @ty_y197 (And.intro @ty_u219 (And.intro @ty_z219 (And.intro @ty_a219 (And.intro @ty_i219 (And.intro @ty_s219 (And.intro @ty_b219 (And.intro @ty_e219 (And.intro @ty_r219 (And.intro @ty_t219 (And.intro @ty_c219 (And.intro @ty_y219 (And.intro @ty_u256 (And.intro @ty_z256 (And.intro @ty_a256 (And.intro @ty_i256 (And.intro @ty_s256 (And.intro @ty_b256 (And.intro @ty_e256 (And.intro @ty_r256 (And.intro @ty_t256 (And.intro @ty_c256 (And.intro @ty_y256 (And.intro @ty_u257 (And.intro @ty_z257 (And.intro @ty_a257 (And.intro @ty_i257 (And.intro @ty_s257 (And.intro @ty_b257 (And.intro @ty_e257 (And.intro @ty_r257 (And.intro @ty_t257 (And.intro @ty_c257 (And.intro @ty_y257 (And.intro @ty_u268 (And.intro @ty_z268 (And.intro @ty_a268 (And.intro @ty_i268 (And.intro @ty_s268 (And.intro @ty_b268 (And.intro @ty_e268 (And.intro @ty_t268 (And.intro @ty_c268 (And.intro @ty_y268 (And.intro @ty_u273 (And.intro @ty_z273 (And.intro @ty_a273 (And.intro @ty_i273 (And.intro @ty_s273 (And.intro @ty_b273 (And.intro @ty_e273 (And.intro @ty_t273 (And.intro @ty_c273 (And.intro @ty_y273 (And.intro @ty_u275 (And.intro @ty_z275 (And.intro @ty_a275 (And.intro @ty_i275 (And.intro @ty_s275 (And.intro @ty_b275 (And.intro @ty_e275 (And.intro @ty_p275 (And.intro @ty_q275 (And.intro @ty_t275 (And.intro @ty_c275 (And.intro @ty_y275 (And.intro @ty_u282 (And.intro @ty_z282 (And.intro @ty_a282 (And.intro @ty_i282 (And.intro @ty_s282 (And.intro @ty_b282 (And.intro @ty_e282 (And.intro @ty_r282 (And.intro @ty_t282 (And.intro @ty_c282 (And.intro @ty_y282 (And.intro @ty_u283 (And.intro @ty_z283 (And.intro @ty_a283 (And.intro @ty_i283 (And.intro @ty_s283 (And.intro @ty_b283 (And.intro @ty_e283 (And.intro @ty_r283 (And.intro @ty_t283 (And.intro @ty_c283 (And.intro @ty_y283 (And.intro @ty_u284 (And.intro @ty_z284 (And.intro @ty_a284 (And.intro @ty_i284 (And.intro @ty_s284 (And.intro @ty_b284 (And.intro @ty_e284 (And.intro @ty_f284_0 (And.intro @ty_f284_1 (And.intro @ty_f284_2 (And.intro @ty_pl284 (And.intro @ty_t284 (And.intro @ty_c284 (And.intro @ty_y284 (And.intro @ty_u285 (And.intro @ty_z285 (And.intro @ty_a285 (And.intro @ty_i285 (And.intro @ty_s285 (And.intro @ty_b285 (And.intro @ty_e285 (And.intro @ty_f285_0 (And.intro @ty_f285_1 (And.intro @ty_f285_2 (And.intro @ty_pl285 (And.intro @ty_t285 (And.intro @ty_c285 (And.intro @ty_y285 (And.intro @ty_u287 (And.intro @ty_z287 (And.intro @ty_a287 (And.intro @ty_i287 (And.intro @ty_s287 (And.intro @ty_b287 (And.intro @ty_e287 (And.intro @ty_r287 (And.intro @ty_t287 (And.intro @ty_u288 (And.intro @ty_z288 (And.intro @ty_a288 (And.intro @ty_i288 (And.intro @ty_s288 (And.intro @ty_b288 (And.intro @ty_e288 (And.intro @ty_f288_0 (And.intro @ty_f288_1 (And.intro @ty_pl288 (And.intro @ty_eq288 (And.intro @ty_t288 (And.intro @ty_c288 (And.intro @ty_y288 (And.intro @ty_u289 (And.intro @ty_z289 (And.intro @ty_a289 (And.intro @ty_i289 (And.intro @ty_s289 (And.intro @ty_b289 (And.intro @ty_e289 (And.intro @ty_f289_0 (And.intro @ty_f289_1 (And.intro @ty_pl289 (And.intro @ty_eq289 (And.intro @ty_t289 (And.intro @ty_c289 (And.intro @ty_y289 (And.intro @ty_u290 (And.intro @ty_z290 (And.intro @ty_a290 (And.intro @ty_i290 (And.intro @ty_s290 (And.intro @ty_b290 (And.intro @ty_e290 (And.intro @ty_r290 (And.intro @ty_t290 (And.intro @ty_c290 (And.intro @ty_y290 (And.intro @ty_u291 (And.intro @ty_z291 (And.intro @ty_a291 (And.intro @ty_i291 (And.intro @ty_s291 (And.intro @ty_b291 (And.intro @ty_e291 (And.intro @ty_p291 (And.intro @ty_q291 (And.intro @ty_t291 (And.intro @ty_c291 (And.intro @ty_y291 (And.intro @ty_u292 (And.intro @ty_z292 (And.intro @ty_a292 (And.intro @ty_i292 (And.intro @ty_s292 (And.intro @ty_b292 (And.intro @ty_e292 (And.intro @ty_f292_0 (And.intro @ty_pl292 (And.intro @ty_eq292 (And.intro @ty_t292 (And.intro @ty_c292 (And.intro @ty_y292 (And.intro @ty_u293 (And.intro @ty_z293 (And.intro @ty_a293 (And.intro @ty_i293 (And.intro @ty_s293 (And.intro @ty_b293 (And.intro @ty_e293 (And.intro @ty_f293_0 (And.intro @ty_pl293 (And.intro @ty_eq293 (And.intro @ty_t293 (And.intro @ty_c293 (And.intro @ty_y293 (And.intro @ty_u294 (And.intro @ty_z294 (And.intro @ty_a294 (And.intro @ty_i294 (And.intro @ty_s294 (And.intro @ty_b294 (And.intro @ty_e294 (And.intro @ty_f294_0 (And.intro @ty_f294_1 (And.intro @ty_f294_2 (And.intro @ty_f294_3 (And.intro @ty_pl294 (And.intro @ty_t294 (And.intro @ty_c294 (And.intro @ty_y294 (And.intro @ty_u296 (And.intro @ty_z296 (And.intro @ty_a296 (And.intro @ty_i296 (And.intro @ty_s296 (And.intro @ty_b296 (And.intro @ty_e296 (And.intro @ty_r296 (And.intro @ty_u297 (And.intro @ty_z297 (And.intro @ty_a297 (And.intro @ty_i297 (And.intro @ty_s297 (And.intro @ty_b297 (And.intro @ty_e297 (And.intro @ty_f297_0 (And.intro @ty_pl297 (And.intro @ty_u298 (And.intro @ty_z298 (And.intro @ty_a298 (And.intro @ty_i298 (And.intro @ty_s298 (And.intro @ty_b298 (And.intro @ty_e298 (And.intro @ty_f298_0 (And.intro @ty_pl298 (And.intro @ty_u299 (And.intro @ty_z299 (And.intro @ty_a299 (And.intro @ty_i299 (And.intro @ty_s299 (And.intro @ty_b299 (And.intro @ty_e299 (And.intro @ty_t299 (And.intro @ty_c299 (And.intro @ty_y299 (And.intro @ty_u300 (And.intro @ty_z300 (And.intro @ty_a300 (And.intro @ty_i300 (And.intro @ty_s300 (And.intro @ty_b300 (And.intro @ty_e300 (And.intro @ty_t300 (And.intro @ty_c300 (And.intro @ty_y300 (And.intro @ty_u301 (And.intro @ty_u302 (And.intro @ty_z302 (And.intro @ty_a302 (And.intro @ty_i302 (And.intro @ty_s302 (And.intro @ty_b302 (And.intro @ty_e302 (And.intro @ty_t302 (And.intro @ty_c302 (And.intro @ty_y302 (And.intro @ty_u303 (And.intro @ty_z303 (And.intro @ty_a303 (And.intro @ty_i303 (And.intro @ty_s303 (And.intro @ty_b303 (And.intro @ty_e303 (And.intro @ty_t303 (And.intro @ty_c303 (And.intro @ty_y303 (And.intro @ty_u304 (And.intro @ty_z304 (And.intro @ty_a304 (And.intro @ty_i304 (And.intro @ty_s304 (And.intro @ty_b304 (And.intro @ty_e304 (And.intro @ty_f304_0 (And.intro @ty_f304_1 (And.intro @ty_f304_2 (And.intro @ty_f304_3 (And.intro @ty_f304_4 (And.intro @ty_f304_5 (And.intro @ty_f304_6 (And.intro @ty_f304_7 (And.intro @ty_f304_8 (And.intro @ty_f304_9 (And.intro @ty_f304_10 (And.intro @ty_pl304 (And.intro @ty_t304 (And.intro @ty_c304 (And.intro @ty_y304 (And.intro @ty_u305 (And.intro @ty_z305 (And.intro @ty_a305 (And.intro @ty_i305 (And.intro @ty_s305 (And.intro @ty_b305 (And.intro @ty_e305 (And.intro @ty_f305_0 (And.intro @ty_f305_1 (And.intro @ty_f305_2 (And.intro @ty_f305_3 (And.intro @ty_f305_4 (And.intro @ty_f305_5 (And.intro @ty_f305_6 (And.intro @ty_f305_7 (And.intro @ty_f305_8 (And.intro @ty_f305_9 (And.intro @ty_f305_10 (And.intro @ty_pl305 (And.intro @ty_t305 (And.intro @ty_c305 (@ty_y305))))))))))))))))))))))))))))))))))))))))))))))))))))))))))))))))))))))))))))))))))))))))))))))))))))))))))))))))))))))))))))))))))))))))))))))))))))))))))))))))))))))))))))))))))))))))))))))))))))))))))))))))))))))))))))))))))))))))))))))))))))))))))))))))))))))))))))))))))))))))))))))))))))))))))))))))))))))))))))))))))))))))))))))))))))))))))))))))))))))))))))))))))))))))))))))))))))))))))))))))))))))))))))))))))))))))))))))))))))))))))))))))))))))))))))))))))))))))))))))))))))))))))))))))))))))))))))))))))))))))))))))))))))))))))))))))))))))))))))))))))))))))))))))))))))))))))))))))))))))))))))))))))))))))))))))))))))))))))))))))))))))))))))))))))))))))))))))))))))))))))))))))))))))))))))))))))))))))))))))))))))))))))))))))))))))))))))))))))))))))))))))))))))))))))))))))))))))))))))))))))))))))))))))))))))))))))))))))))))))))))))))))))))))))))))))))))))))))))))))))))))))))))))))))))))))))))))))))))))))))))))))))))))))))))))))))))))))))))))))))))))))))))))))))))))))))))))))))))))))))))))))))))))))))))))))))))))))))))))))))))))))))))))))))))))))))))))))))))))))))))))))))))))))))))))))))))))))))))))))))))))))))))))))))))))))))))))))))))))))))))))))))))))))))))))))))))))))))))))))))))))))))))))))))))))))))))))))))))))))))))))))))))))))))
end Go.Proofs.YtjiolbcdfgclaaaGreatDoor
end

section
/-
  The pure layer: nil may stand for an empty slice: contracts' arguments and results weakened.
-/
namespace Go.Pg
open Go
set_option linter.unusedSectionVars false

/-- One cell that may stand for another. -/
def wk1 (a b : V) : Prop := a = b ∨ (a = .c (.slice none 0 0) ∧ ∃ t k, t.notNN = true ∧ b = .sl t k [])
def wkL : List V → List V → Prop
  | [], [] => True
  | a :: xs, b :: ys => wk1 a b ∧ wkL xs ys
  | _, _ => False
/-- A value that may stand for another. -/
def wkV (a b : V) : Prop := wk1 a b ∨ ∃ cs ds, a = .agg cs ∧ b = .agg ds ∧ wkL cs ds
def wkA : List V → List V → Prop
  | [], [] => True
  | a :: xs, b :: ys => wkV a b ∧ wkA xs ys
  | _, _ => False
theorem wk1_rfl (a : V) : wk1 a a := .inl rfl
theorem wkL_rfl : ∀ l : List V, wkL l l
  | [] => trivial
  | a :: l => ⟨.inl rfl, wkL_rfl l⟩
theorem wkV_rfl (a : V) : wkV a a := .inl (.inl rfl)
theorem wkL_app {a b c d : List V} (h : wkL a b) (h' : wkL c d) : wkL (a ++ c) (b ++ d) := by
  induction a generalizing b with
  | nil => cases b with
    | nil => exact h'
    | cons _ _ => exact h.elim
  | cons x xs ih => cases b with
    | nil => exact h.elim
    | cons y ys => exact ⟨h.1, ih h.2⟩
theorem wkL_cons {a b : V} {xs ys : List V} (h : wk1 a b) (h' : wkL xs ys) : wkL (a :: xs) (b :: ys) := ⟨h, h'⟩
theorem wk_nil (t : Tag) (k : Nat) (h : t.notNN = true := by rfl) : wk1 (.c (.slice none 0 0)) (.sl t k []) := .inr ⟨rfl, t, k, h, rfl⟩
section
variable {L : Lay} {w : World}
theorem rep_wk1 {a b : V} {u : Value} (h : wk1 a b) (hr : Rep L w a u) : Rep L w b u := by
  rcases h with rfl | ⟨rfl, t, k, hnn, rfl⟩
  · exact hr
  · simp only [Rep] at hr
    subst hr
    refine ⟨none, 0, [], rfl, rfl, ?_⟩
    cases t with
    | fz => exact ⟨Nat.le_refl _, .inl rfl⟩
    | nn => cases hnn
    | own id e => exact .inl ⟨rfl, rfl, rfl⟩
theorem reps_wkL : ∀ {xs ys : List V} {us : List Value}, wkL xs ys → Reps L w xs us → Reps L w ys us := by
  intro xs
  induction xs with
  | nil => intro ys us h hr; cases ys with
    | nil => exact hr
    | cons _ _ => exact h.elim
  | cons a xs ih => intro ys us h hr; cases ys with
    | nil => exact h.elim
    | cons b ys =>
      obtain ⟨u, r, rfl, h1, h2⟩ := hr
      exact ⟨u, r, rfl, rep_wk1 h.1 h1, ih h.2 h2⟩
theorem rep_wkV {a b : V} {u : Value} (h : wkV a b) (hr : Rep L w a u) : Rep L w b u := by
  rcases h with h | ⟨cs, ds, rfl, rfl, h⟩
  · exact rep_wk1 h hr
  · obtain ⟨x, rfl, h1⟩ := hr
    exact ⟨x, rfl, reps_wkL h h1⟩
theorem reps_wkA : ∀ {xs ys : List V} {us : List Value}, wkA xs ys → Reps L w xs us → Reps L w ys us := by
  intro xs
  induction xs with
  | nil => intro ys us h hr; cases ys with
    | nil => exact hr
    | cons _ _ => exact h.elim
  | cons a xs ih => intro ys us h hr; cases ys with
    | nil => exact h.elim
    | cons b ys =>
      obtain ⟨u, r, rfl, h1, h2⟩ := hr
      exact ⟨u, r, rfl, rep_wkV h.1 h1, ih h.2 h2⟩
end
/-- A contract at arguments that may stand for its own. -/
theorem Good.wk {P : Program} [Tb P] {f : FuncId} {args args' : List V} {r : V} (h : Good P f args r) (hw : wkA args' args) : Good P f args' r :=
  ⟨h.1, fun A w cargs hT hA hargs => h.2 A w cargs hT hA (reps_wkA hw hargs)⟩
/-- A contract's result weakened. -/
theorem Good.wkr {P : Program} [Tb P] {f : FuncId} {args : List V} {r r' : V} (h : Good P f args r) (hw : wkV r r') : Good P f args r' :=
  ⟨h.1, fun A w cargs hT hA hargs => (h.2 A w cargs hT hA hargs).mono fun _ _ ⟨u, L, he, hr, hk, hl⟩ => ⟨u, L, he, rep_wkV hw hr, hk, hl⟩⟩
theorem Good.wkt {P : Program} [Tb P] {f : FuncId} {args vs ws : List V} (h : Good P f args (.tup vs)) (hw : wkA vs ws) : Good P f args (.tup ws) :=
  ⟨h.1, fun A w cargs hT hA hargs => (h.2 A w cargs hT hA hargs).mono fun _ _ ⟨u, L, he, hr, hk, hl⟩ => by
    obtain ⟨x, rfl, h1⟩ := hr
    exact ⟨_, L, he, ⟨x, rfl, reps_wkA hw h1⟩, hk, hl⟩⟩
end Go.Pg
end

section
/-
  The pure layer: a region that draws its order and makes several variables: the variable made at place i bears the name n0 + i, whatever order is drawn.
-/
namespace Go.Pg
open Go
set_option linter.unusedSectionVars false

/-- How an operation of such a region stands to the others: it computes from what may not turn; it reads the variable b; it makes or writes the variable b. -/
inductive Ka where
  | q
  | rb (b : Nat)
  | xb (b : Nat)
  | z
def Ka.notZ : Ka → Bool
  | .z => false
  | _ => true

/-- The variable's new cells. -/
def wrA (κ : Ka) (c : Option (TypeId × List V)) (s : St) : St := match κ with | .xb b => { s with bx := upd s.bx b c } | _ => s

/-- One operation, its guard aside, at place i. -/
def stepA (P : Program) (n0 i : Nat) (s : St) (o : Oper) : Option (Ka × St) :=
  match o.op with
  | .alloc e => (tzero P e).map fun z => (.xb (n0 + i), ({ s with bx := upd s.bx (n0 + i) (some (e, z.cells.toList.map .c)) } : St).put o.dst (.ref (n0 + i) 0))
  | .store t x y => match s.ev x with
    | .ref b off => (storeB P s t b off (s.ev y)).map fun s' => (.xb b, s'.put o.dst .top)
    | _ => none
  | .load t x => match s.ev x with
    | .ref b off => (loadB P s t b off).map fun r => (.rb b, s.put o.dst r)
    | _ => (qv P s o.op).map fun r => (.q, s.put o.dst r)
  | op => (qv P s op).map fun r => (.q, s.put o.dst r)

section
variable {P : Program} [Tb P] {C : Cx} {s s' : St} {L : Lay} {a : Act} {w : World} {o : Oper}

theorem Wf.leBoxAt (W : Wf C s.nid L w) {m : Nat} (hm : L.box m = none) (g : Nat) : L.Le (L.addBox m g) :=
  ⟨fun _ h => h, fun _ _ h => h, fun i g' h => by
    have : i ≠ m := fun e => by subst e; rw [hm] at h; cases h
    simp [Lay.addBox, upd, this, h]⟩
theorem Wf.addBoxAt {nid m : Nat} (W : Wf C nid L w) (hm : m < nid) (hB : C.B ≤ w.heap.size) {w' : World} (hs : w.heap.size < w'.heap.size) : Wf C nid (L.addBox m w.heap.size) w' where
  nidO := W.nidO
  nidB := fun id g h => by
    simp only [Lay.addBox, upd] at h
    split at h
    · omega
    · exact W.nidB id g h
  own := fun b g h => by obtain ⟨h1, h2, h3⟩ := W.own b g h; exact ⟨by omega, h2, h3⟩
  boxW := fun id g h => by
    simp only [Lay.addBox, upd] at h
    split at h
    · simp only [Option.some.injEq] at h; subst h; exact ⟨hs, .inl hB, fun h => by have := W.old _ h; omega⟩
    · obtain ⟨h1, h2, h3⟩ := W.boxW id g h; exact ⟨by omega, h2, h3⟩
  injO := W.injO
  injB := fun i j g h h' => by
    simp only [Lay.addBox, upd] at h h'
    split at h <;> split at h'
    · omega
    · simp only [Option.some.injEq] at h; subst h; have := (W.boxW j _ h').1; omega
    · simp only [Option.some.injEq] at h'; subst h'; have := (W.boxW i _ h).1; omega
    · exact W.injB i j g h h'
  dis := fun i j g h h' => by
    simp only [Lay.addBox, upd] at h'
    split at h'
    · simp only [Option.some.injEq] at h'; subst h'; have := (W.own i _ h).1; omega
    · exact W.dis i j g h h'
  old := fun g h => by have := W.old g h; omega
  frz := W.frz

theorem newBoxAt_ok {m : Nat} {e : TypeId} {l : List V} {us : Array Value} (S : Sim C s L a w) (hm : m < s.nid) (hf : L.box m = none) (hr : Reps L w l us.toList) :
    Sim C { s with bx := upd s.bx m (some (e, l)) } (L.addBox m w.heap.size) a (w.alloc (.cells us e)) ∧ Rep (L.addBox m w.heap.size) (w.alloc (.cells us e)) (.ref m 0) (.pointer (some ⟨w.heap.size, 0, none⟩)) := by
  have G := Grow.alloc w (.cells us e)
  have E := S.wf.leBoxAt hf w.heap.size
  refine ⟨S.grow G E rfl ?_ (S.wf.addBoxAt hm S.hB (by simp)), w.heap.size, by simp [Lay.addBox, upd], rfl⟩
  intro b cs h
  simp only [upd] at h
  split at h
  · rename_i hb
    subst hb
    simp only [Option.some.injEq] at h
    subst h
    exact .inr ⟨w.heap.size, us, by simp [Lay.addBox, upd], heap_alloc_new w _, hr.whole (S.wf.whole G E)⟩
  · exact .inl h

/-- The operation in the model: the layout stands, but for the name made here. -/
theorem stepA_does {n0 i : Nat} {κ : Ka} (h : stepA P n0 i s o = some (κ, s')) (S : Sim C s L a w) (hm : n0 + i < s.nid) (hf : L.box (n0 + i) = none) (hd : ∀ t, o.dst = some t → t < C.n) :
    ∃ u w' L', Does P o a w u w' ∧ Sim C s' L' (a.put o.dst u) w' ∧ ∀ b, b ≠ n0 + i → L'.box b = L.box b ∧ L'.own b = L.own b := by
  obtain ⟨dst, op, type, pos, after, guard⟩ := o
  simp only at hd
  have qcase : ∀ r, qv P s op = some r → s' = s.put dst r → ∃ u w' L', Does P ⟨dst, op, type, pos, after, guard⟩ a w u w' ∧ Sim C s' L' (a.put dst u) w' ∧ ∀ b, b ≠ n0 + i → L'.box b = L.box b ∧ L'.own b = L.own b := by
    rintro r hr rfl
    obtain ⟨u, h1, h2⟩ := qv_does (o := ⟨dst, op, type, pos, after, guard⟩) hr S
    exact ⟨u, w, L, h1, S.put h2 hd, fun _ _ => ⟨rfl, rfl⟩⟩
  unfold stepA at h
  simp only at h
  split at h
  · rename_i e
    simp only [Option.map_eq_some_iff, Prod.mk.injEq] at h
    obtain ⟨z, hz, rfl, rfl⟩ := h
    obtain ⟨S', hr⟩ := newBoxAt_ok (e := e) (us := z.cells) S hm hf (reps_c L w z.cells.toList)
    refine ⟨_, _, _, .inl ?_, S'.put hr hd, fun b hb => by simp [Lay.addBox, upd, hb]⟩
    have : (Instr.alloc e true (.tuple #[])).run P w = .ok (.pointer (some ⟨w.heap.size, 0, none⟩)) (w.alloc (.cells z.cells e)) := by simp [Instr.alloc, run_tzero hz, newVar, newRow]
    simp only [execOp, Sem.run_bind, this, Result.andThen_ok, Sem.run_pure]
  · rename_i t x y
    split at h
    · rename_i b off hx
      simp only [Option.map_eq_some_iff, Prod.mk.injEq] at h
      obtain ⟨s1, h, rfl, rfl⟩ := h
      have hr := S.ev x
      rw [hx] at hr
      obtain ⟨w', h1, h2⟩ := storeB_ok h S hr (S.ev y)
      exact ⟨undef, w', L, .inr ⟨by simp only [execOp, Sem.run_bind, h1, Result.andThen_ok, Sem.run_pure], rfl⟩, h2.put (v := .top) trivial hd, fun _ _ => ⟨rfl, rfl⟩⟩
    · cases h
  · rename_i t x
    split at h
    · rename_i b off hx
      simp only [Option.map_eq_some_iff, Prod.mk.injEq] at h
      obtain ⟨r, h, rfl, rfl⟩ := h
      have hr := S.ev x
      rw [hx] at hr
      obtain ⟨u, h1, h2⟩ := loadB_ok h S hr
      exact ⟨u, w, L, .inl (by simp only [execOp, Sem.run_bind, h1, Result.andThen_ok, Sem.run_pure]), S.put h2 hd, fun _ _ => ⟨rfl, rfl⟩⟩
    · simp only [Option.map_eq_some_iff, Prod.mk.injEq] at h
      obtain ⟨r, h, _, rfl⟩ := h
      exact qcase r h rfl
  · simp only [Option.map_eq_some_iff, Prod.mk.injEq] at h
    obtain ⟨r, h, _, rfl⟩ := h
    exact qcase r h rfl

theorem wrA_env (κ : Ka) (c : Option (TypeId × List V)) (t : Nat) : (wrA κ c s).env t = s.env t := by cases κ <;> rfl
theorem wrA_put (κ : Ka) (c : Option (TypeId × List V)) (d : Option Nat) (v : V) : wrA κ c (s.put d v) = (wrA κ c s).put d v := by cases κ <;> cases d <;> rfl
theorem wrA_nid (κ : Ka) (c : Option (TypeId × List V)) : (wrA κ c s).nid = s.nid := by cases κ <;> rfl
theorem put_nid (d : Option Nat) (v : V) : (s.put d v).nid = s.nid := by cases d <;> rfl

/-- What an operation looks at, and what it writes. -/
theorem stepA_frame {n0 i : Nat} {κ : Ka} (h : stepA P n0 i s o = some (κ, s')) : ∃ (v : V) (c : Option (TypeId × List V)), s' = (wrA κ c s).put o.dst v ∧
    ∀ s2 : St, (∀ t ∈ lkO o, s2.env t = s.env t) → (∀ b, (κ = .rb b ∨ κ = .xb b) → s2.bx b = s.bx b) → stepA P n0 i s2 o = some (κ, (wrA κ c s2).put o.dst v) := by
  obtain ⟨dst, op, type, pos, after, guard⟩ := o
  have qcase : ∀ r, qv P s op = some r → s' = s.put dst r → κ = .q → (∀ s2 : St, (∀ x ∈ op.operands.toList, s2.ev x = s.ev x) → stepA P n0 i s2 ⟨dst, op, type, pos, after, guard⟩ = (qv P s2 op).map fun r => (.q, s2.put dst r)) →
      ∃ (v : V) (c : Option (TypeId × List V)), s' = (wrA κ c s).put dst v ∧ ∀ s2 : St, (∀ t ∈ lkO ⟨dst, op, type, pos, after, guard⟩, s2.env t = s.env t) → (∀ b, (κ = .rb b ∨ κ = .xb b) → s2.bx b = s.bx b) → stepA P n0 i s2 ⟨dst, op, type, pos, after, guard⟩ = some (κ, (wrA κ c s2).put dst v) := by
    rintro r hr rfl rfl hst
    refine ⟨r, none, rfl, fun s2 he _ => ?_⟩
    have he' := lkO_ev (o := ⟨dst, op, type, pos, after, guard⟩) he
    rw [hst s2 he', qv_congr he', hr]
    rfl
  unfold stepA at h
  simp only at h
  split at h
  · simp only [Option.map_eq_some_iff, Prod.mk.injEq] at h
    obtain ⟨z, hz, rfl, rfl⟩ := h
    refine ⟨.ref (n0 + i) 0, _, rfl, fun s2 _ _ => ?_⟩
    simp only [stepA, hz, Option.map_some]
    rfl
  · rename_i t x y
    split at h
    · rename_i b off hx
      simp only [Option.map_eq_some_iff, Prod.mk.injEq] at h
      obtain ⟨s1, h, rfl, rfl⟩ := h
      simp only [storeB, Option.bind_eq_some_iff, Option.ite_none_right_eq_some, Option.some.injEq] at h
      obtain ⟨⟨e, cs⟩, hcs, l, hl, h1, rfl⟩ := h
      refine ⟨.top, _, rfl, fun s2 he hb => ?_⟩
      have he' := lkO_ev (o := ⟨dst, .store t x y, type, pos, after, guard⟩) he
      have hx2 : s2.ev x = .ref b off := by rw [he' x (by simp [Op.operands]), hx]
      have hy2 : s2.ev y = s.ev y := he' y (by simp [Op.operands])
      simp only [stepA, hx2, storeB, hy2, hb b (.inr rfl), hcs, Option.bind_some, hl, if_pos h1, Option.map_some]
      rfl
    · cases h
  · rename_i t x
    split at h
    · rename_i b off hx
      simp only [Option.map_eq_some_iff, Prod.mk.injEq] at h
      obtain ⟨r, h, rfl, rfl⟩ := h
      refine ⟨r, none, rfl, fun s2 he hb => ?_⟩
      have he' := lkO_ev (o := ⟨dst, .load t x, type, pos, after, guard⟩) he
      have hx2 : s2.ev x = .ref b off := by rw [he' x (by simp [Op.operands]), hx]
      have : loadB P s2 t b off = some r := by unfold loadB at h ⊢; rw [hb b (.inl rfl)]; exact h
      simp only [stepA, hx2, this, Option.map_some]
      rfl
    · rename_i hnr
      simp only [Option.map_eq_some_iff, Prod.mk.injEq] at h
      obtain ⟨r, h, hk, hs⟩ := h
      refine qcase r h hs.symm hk.symm (fun s2 he' => ?_)
      have hx2 : s2.ev x = s.ev x := he' x (by simp [Op.operands])
      simp only [stepA]
      split
      · rename_i b off hx
        exact absurd (hx2 ▸ hx) (hnr b off)
      · rfl
  · rename_i h1 h2 h3
    simp only [Option.map_eq_some_iff, Prod.mk.injEq] at h
    obtain ⟨r, h, hk, hs⟩ := h
    refine qcase r h hs.symm hk.symm (fun s2 _ => ?_)
    unfold stepA
    simp only
theorem Wf.leOwnAt (W : Wf C s.nid L w) {m : Nat} (hm : L.own m = none) (g : Nat) : L.Le (L.addOwn m g) :=
  ⟨fun _ h => h, fun i g' h => by
    have : i ≠ m := fun e => by subst e; rw [hm] at h; cases h
    simp [Lay.addOwn, upd, this, h], fun _ _ h => h⟩
theorem Wf.addOwnAt {nid m : Nat} (W : Wf C nid L w) (hm : m < nid) (hB : C.B ≤ w.heap.size) {w' : World} (hs : w.heap.size < w'.heap.size) : Wf C nid (L.addOwn m w.heap.size) w' where
  nidO := fun id g h => by
    simp only [Lay.addOwn, upd] at h
    split at h
    · omega
    · exact W.nidO id g h
  nidB := W.nidB
  own := fun id g h => by
    simp only [Lay.addOwn, upd] at h
    split at h
    · simp only [Option.some.injEq] at h; subst h; exact ⟨hs, .inl hB, fun h => by have := W.old _ h; omega⟩
    · obtain ⟨h1, h2, h3⟩ := W.own id g h; exact ⟨by omega, h2, h3⟩
  boxW := fun b g h => by obtain ⟨h1, h2, h3⟩ := W.boxW b g h; exact ⟨by omega, h2, h3⟩
  injO := fun i j g h h' => by
    simp only [Lay.addOwn, upd] at h h'
    split at h <;> split at h'
    · omega
    · simp only [Option.some.injEq] at h; subst h; have := (W.own j _ h').1; omega
    · simp only [Option.some.injEq] at h'; subst h'; have := (W.own i _ h).1; omega
    · exact W.injO i j g h h'
  injB := W.injB
  dis := fun i j g h h' => by
    simp only [Lay.addOwn, upd] at h
    split at h
    · simp only [Option.some.injEq] at h; subst h; have := (W.boxW j _ h').1; omega
    · exact W.dis i j g h h'
  old := fun g h => by have := W.old g h; omega
  frz := W.frz
theorem newOwnAt_ok {m : Nat} {e : TypeId} {k cap : Nat} {xs : List V} {arr : Array Value} (S : Sim C s L a w) (hm : m < s.nid) (hf : L.own m = none) (hcap : arr.size = cap * k) (hlen : xs.length ≤ cap) (hx : cap ≤ maxLen) (hr : RepE L w k xs (arr.toList.take (xs.length * k))) :
    Sim C s (L.addOwn m w.heap.size) a (w.alloc (.cells arr e)) ∧ Rep (L.addOwn m w.heap.size) (w.alloc (.cells arr e)) (.sl (.own m e) k xs) (.slice (some ⟨w.heap.size, 0, none⟩) xs.length cap) := by
  have G := Grow.alloc w (.cells arr e)
  have E := S.wf.leOwnAt hf w.heap.size
  have K : Whole L (L.addOwn m w.heap.size) w (w.alloc (.cells arr e)) := S.wf.whole G E
  refine ⟨S.grow G E rfl (fun b cs h => .inl h) (S.wf.addOwnAt hm S.hB (by simp)), _, _, _, rfl, hr.trans (p := fun _ => false) (q := fun _ => false) rfl K, ?_⟩
  exact .inr ⟨w.heap.size, arr, by simp [Lay.addOwn, upd], rfl, heap_alloc_new w _, hlen, hx, hcap, rfl⟩

/-- A call whose own array, if it hands one back, bears the name m. -/
theorem call_stepAt {f : FuncId} {vs : List V} {us : List Value} {r : V} {m : Nat} (hT : C.TOk P) (S : Sim C s L a w) (hm : m < s.nid) (hf : L.own m = none) (h1 : r.idb ≤ 1) (hr : Reps L w vs us) (hg : Good P f (vs.map V.erase) r) (href : noRefs vs = true) (hrr : r.noRef = true) (hof : (ownFree vs || r.flat) = true) :
    Calls P f us.toArray w fun e w' => ∃ u L', e = .returned u ∧ Sim C s L' a w' ∧ Rep L' w' (r.shift m) u ∧ ∀ b, b ≠ m → L'.box b = L.box b ∧ L'.own b = L.own b := by
  have hB := S.hB
  let A1 : Nat → Prop := fun g => L.A g ∨ (r.flat = true ∧ ∃ id, L.own id = some g)
  have hA1 : ∀ g, A1 g → g < w.heap.size := fun g h => h.elim (S.wf.old g) (fun ⟨_, id, h⟩ => (S.wf.own id g h).1)
  have hargs : Reps ⟨A1, fun _ => none, fun _ => none⟩ w (vs.map V.erase) us := by
    cases hfl : r.flat with
    | true =>
      have K : Trans (fun _ => false) (fun _ => true) (fun _ => .fz) id L ⟨A1, fun _ => none, fun _ => none⟩ w w :=
        ⟨rfl, fun g h => ⟨.inl h, .of rfl⟩, fun i e _ g h => ⟨.inr ⟨hfl, i, h⟩, rfl⟩, fun b hb => by simp at hb⟩
      have := hr.trans rfl K (by simpa [noRefs] using href)
      rwa [mapL_eq] at this
    | false =>
      have K : Trans Tag.isOwn (fun _ => true) (fun _ => .fz) id L ⟨A1, fun _ => none, fun _ => none⟩ w w :=
        ⟨rfl, fun g h => ⟨.inl h, .of rfl⟩, fun i e h => by simp [Tag.isOwn] at h, fun b hb => by simp at hb⟩
      have h1 : ownFree vs = true := by simpa [hfl] using hof
      have h3 := (any_or (p := Tag.isOwn) (p' := fun _ => false) (q := fun _ => false) (q' := fun _ => true)).2 vs (by simpa [ownFree] using h1) (by simpa [noRefs] using href)
      have := hr.trans (p := Tag.isOwn) (q := fun _ => true) rfl K (by simpa using h3)
      rwa [mapL_eq] at this
  refine (hg.2 A1 w us (tb_now hT S) hA1 hargs).mono ?_
  rintro e w' ⟨u, L1, rfl, hru, hkp, hlay⟩
  have G : Grow w w' := ⟨hkp.os, hkp.tape, hkp.output, hkp.size, fun k hk => hkp.block k hk (fun h => h)⟩
  let L2 : Lay := { A := fun g => L.A g ∨ (L1.A g ∧ w.heap.size ≤ g), own := fun j => if j = m then (if 0 < r.idb then L1.own 0 else none) else L.own j, box := L.box }
  have E : L.Le L2 := ⟨fun g h => .inl h, fun i g h => by
    have : i ≠ m := fun e => by subst e; rw [hf] at h; cases h
    simp [L2, this, h], fun _ _ h => h⟩
  have W := S.wf
  have wf : Wf C s.nid L2 w' := {
    nidO := fun j g h => by
      simp only [L2] at h
      split at h
      · omega
      · exact W.nidO j g h
    nidB := W.nidB
    own := fun j g h => by
      simp only [L2] at h
      split at h
      · split at h
        · obtain ⟨h1, h2, h3⟩ := hlay.own _ g h
          exact ⟨h2, .inl (by omega), fun h' => h'.elim (fun h' => by have := W.old g h'; omega) (fun ⟨h', _⟩ => h3 h')⟩
        · cases h
      · obtain ⟨h1, h2, h3⟩ := W.own j g h
        exact ⟨by have := G.size; omega, h2, fun h' => h'.elim h3 (fun ⟨_, h'⟩ => by omega)⟩
    boxW := fun b g h => by
      obtain ⟨h1, h2, h3⟩ := W.boxW b g h
      exact ⟨by have := G.size; omega, h2, fun h' => h'.elim h3 (fun ⟨_, h'⟩ => by omega)⟩
    injO := fun i j g h h' => by
      simp only [L2] at h h'
      split at h <;> split at h'
      · omega
      · split at h
        · have := (W.own j g h').1; have := (hlay.own _ g h).1; omega
        · cases h
      · split at h'
        · have := (W.own i g h).1; have := (hlay.own _ g h').1; omega
        · cases h'
      · exact W.injO i j g h h'
    injB := W.injB
    dis := fun i j g h h' => by
      simp only [L2] at h
      split at h
      · split at h
        · have := (hlay.own _ g h).1; have := (W.boxW j g h').1; omega
        · cases h
      · exact W.dis i j g h h'
    old := fun g h => h.elim (fun h => by have := W.old g h; have := G.size; omega) (fun ⟨h, h'⟩ => by
      rcases hlay.A g h with h1 | h1
      · have := hA1 g h1; omega
      · exact h1.2)
    frz := fun g h => h.elim (W.frz g) (fun ⟨_, h'⟩ => .inr (.inl (by omega))) }
  refine ⟨u, L2, rfl, S.grow G E rfl (fun b cs h => .inl h) wf, ?_, fun b hb => ⟨rfl, by simp [L2, hb]⟩⟩
  have hsh : ∀ id e, Tag.ge r.idb (.own id e) = false → ∀ g, L1.own id = some g → L2.own (id + m) = some g := by
    intro id e hid g h
    simp only [Tag.ge, Bool.not_eq_eq_eq_not, Bool.not_false, decide_eq_true_eq] at hid
    have h0 : id = 0 := by omega
    subst h0
    have hp : 0 < r.idb := by omega
    simp [L2, hp, h]
  have hany : r.any (fun t => Tag.ge r.idb t || false) (fun b => false || true) false = false := by
    have := (any_or (p := Tag.ge r.idb) (p' := fun _ => false) (q := fun _ => false) (q' := fun _ => true)).1 r ((idb_any r.idb).1 r (Nat.le_refl _)) (by simpa [V.noRef] using hrr)
    exact this
  cases hfl : r.flat with
  | true =>
    have hru' := (rep_flat (fun _ => False)).1 r u hfl hru
    have K : Trans (fun t => Tag.ge r.idb t || false) (fun b => false || true) (fun t => match t with | .fz => .fz | .nn => .nn | .own id e => .own (id + m) e) id { L1 with A := fun _ => False } L2 w' w' :=
      ⟨rfl, fun g h => h.elim, fun id e hid g h => ⟨⟨rfl, hsh id e (by simpa using hid) g h⟩, rfl⟩, fun b hb => by simp at hb⟩
    exact hru'.trans rfl K hany
  | false =>
    have K : Trans (fun t => Tag.ge r.idb t || false) (fun b => false || true) (fun t => match t with | .fz => .fz | .nn => .nn | .own id e => .own (id + m) e) id L1 L2 w' w' := by
      refine ⟨rfl, fun g h => ⟨?_, .of rfl⟩, fun id e hid g h => ⟨⟨rfl, hsh id e (by simpa using hid) g h⟩, rfl⟩, fun b hb => by simp at hb⟩
      rcases hlay.A g h with h1 | h1
      · rcases h1 with h1 | ⟨h1, _⟩
        · exact .inl h1
        · rw [hfl] at h1; cases h1
      · exact .inr ⟨h, h1.1⟩
    exact hru.trans rfl K hany

/-- One operation of such a region, at place i: what 'stepA' knows; a slice's literal; a call by its contract; a call that turns the caller's state. -/
inductive RA (P : Program) [Tb P] (n0 i : Nat) (s : St) (o : Oper) : Ka → St → Prop
  | st {κ : Ka} {s' : St} (h : stepA P n0 i s o = some (κ, s')) : RA P n0 i s o κ s'
  | bs {t : TypeId} {len : Nat} {parts : Array (Nat × Operand)} {e : TypeId} {k bytes : Nat} {v : V} {xs : List V} (ho : o.op = .buildSlice t len parts) (he : elemT P t = some e) (hk : tapp P e = some (k, bytes)) (hv : zelem P e = some v)
      (hxs : setAll k (List.replicate len v) (parts.toList.map fun p => (p.1, s.ev p.2)) = some xs) (hl : len * k ≤ 16777216) : RA P n0 i s o .q (s.put o.dst (.sl (bsTag len (n0 + i) e) k xs))
  | call {f : Operand} {args : Array Operand} {ts : Array TypeId} {g : FuncId} {fs cs : List V} {r : V} (ho : o.op = .call { callee := .value f, args := args, argTypes := ts }) (hf : s.ev f = .fn g fs cs) (hg : Good P g ((fs ++ args.toList.map s.ev ++ cs).map V.erase) r)
      (h1 : ownFree (fs ++ cs) = true) (h2 : noRefs (fs ++ args.toList.map s.ev ++ cs) = true) (h3 : r.noRef = true) (h4 : (ownFree (args.toList.map s.ev) || r.flat) = true) (h5 : r.idb ≤ 1) : RA P n0 i s o .q (s.put o.dst (r.shift (n0 + i)))
  | z {f : Operand} {args : Array Operand} {ts : Array TypeId} {g : FuncId} {fs cs : List V} {s1 : St} {r : V} (ho : o.op = .call { callee := .value f, args := args, argTypes := ts }) (hf : s.ev f = .fn g fs cs) (hg : GoodZ P g (fs ++ args.toList.map s.ev ++ cs) s s1 r) : RA P n0 i s o .z (s1.put o.dst r)

theorem stepA_notZ {n0 i : Nat} {κ : Ka} (h : stepA P n0 i s o = some (κ, s')) : κ ≠ .z := by
  unfold stepA at h
  split at h
  · simp only [Option.map_eq_some_iff, Prod.mk.injEq] at h; obtain ⟨_, _, rfl, _⟩ := h; exact fun e => by cases e
  · split at h
    · simp only [Option.map_eq_some_iff, Prod.mk.injEq] at h; obtain ⟨_, _, rfl, _⟩ := h; exact fun e => by cases e
    · cases h
  · split at h
    · simp only [Option.map_eq_some_iff, Prod.mk.injEq] at h; obtain ⟨_, _, rfl, _⟩ := h; exact fun e => by cases e
    · simp only [Option.map_eq_some_iff, Prod.mk.injEq] at h; obtain ⟨_, _, rfl, _⟩ := h; exact fun e => by cases e
  · simp only [Option.map_eq_some_iff, Prod.mk.injEq] at h; obtain ⟨_, _, rfl, _⟩ := h; exact fun e => by cases e
theorem RA_frame {n0 i : Nat} {κ : Ka} (h : RA P n0 i s o κ s') (hz : κ ≠ .z) : ∃ (v : V) (c : Option (TypeId × List V)), s' = (wrA κ c s).put o.dst v ∧
    ∀ s2 : St, (∀ t ∈ lkO o, s2.env t = s.env t) → (∀ b, (κ = .rb b ∨ κ = .xb b) → s2.bx b = s.bx b) → RA P n0 i s2 o κ ((wrA κ c s2).put o.dst v) := by
  cases h with
  | st h =>
    obtain ⟨v, c, h1, h2⟩ := stepA_frame h
    exact ⟨v, c, h1, fun s2 ha hb => .st (h2 s2 ha hb)⟩
  | bs ho he hk hv hxs hl =>
    rename_i t len parts e k bytes v xs
    refine ⟨_, none, rfl, fun s2 ha _ => ?_⟩
    have he' := lkO_ev ha
    have : (parts.toList.map fun p => (p.1, s2.ev p.2)) = parts.toList.map fun p => (p.1, s.ev p.2) := by
      refine List.map_congr_left fun p hp => ?_
      rw [he' p.2 (by rw [ho]; simp only [Op.operands]; simpa using ⟨p.1, by simpa using hp⟩)]
    exact .bs ho he hk hv (by rw [this]; exact hxs) hl
  | call ho hf hg h1 h2 h3 h4 h5 =>
    rename_i f args ts g fs cs r
    refine ⟨_, none, rfl, fun s2 ha _ => ?_⟩
    have he' := lkO_ev ha
    rw [ho] at he'
    have hfe : s2.ev f = s.ev f := he' f (by simp [Op.operands, Call.operands])
    have hae : args.toList.map s2.ev = args.toList.map s.ev := List.map_congr_left fun x hx => he' x (by simp [Op.operands, Call.operands] at hx ⊢; simp [hx])
    exact .call ho (by rw [hfe]; exact hf) (by rw [hae]; exact hg) h1 (by rw [hae]; exact h2) h3 (by rw [hae]; exact h4) h5
  | z => exact absurd rfl hz
theorem RA_nid {n0 i : Nat} {κ : Ka} (h : RA P n0 i s o κ s') (hz : κ ≠ .z) : s'.nid = s.nid := by
  obtain ⟨v, c, rfl, _⟩ := RA_frame h hz
  rw [put_nid, wrA_nid]
theorem RA_wp {n0 i : Nat} {κ : Ka} {next : Act → World → Prop} {Q : Exit → Act → World → Prop} (h : RA P n0 i s o κ s') (hT : C.TOk P) (S : Sim C s L a w) (hm : n0 + i < s.nid) (hfb : L.box (n0 + i) = none) (hfo : L.own (n0 + i) = none)
    (hd : ∀ t, o.dst = some t → t < C.n) (hn : ∀ L' a' w', Sim C s' L' a' w' → (κ ≠ .z → ∀ b, b ≠ n0 + i → L'.box b = L.box b ∧ L'.own b = L.own b) → next a' w') : o.wp P a w next Q := by
  cases h with
  | st h =>
    obtain ⟨u, w', L', h1, h2, h3⟩ := stepA_does h S hm hfb hd
    exact h1.wp (hn L' _ _ h2 fun _ => h3)
  | bs ho he hk hv hxs hl =>
    rename_i t len parts e k bytes v xs
    obtain ⟨ur, h1, hul, h3, h2, hx⟩ := buildSlice_run S.ev he hk hv hxs hl
    obtain ⟨S', hr⟩ := newOwnAt_ok (e := e) (k := k) (cap := len) (xs := xs) (arr := ur) S hm hfo hul (by omega) hx (by rw [h3, ← hul, ← Array.length_toList, List.take_length]; exact h2)
    rw [h3] at hr
    have hr' : Rep (L.addOwn (n0 + i) w.heap.size) (w.alloc (.cells ur e)) (.sl (bsTag len (n0 + i) e) k xs) (.slice (some ⟨w.heap.size, 0, none⟩) len len) := by
      cases len with
      | zero =>
        have hx : xs = [] := List.eq_nil_of_length_eq_zero h3
        subst hx
        exact ⟨_, 0, [], rfl, rfl, rfl, rfl⟩
      | succ n => exact hr
    have hdo : Does P o a w (.slice (some ⟨w.heap.size, 0, none⟩) len len) (w.alloc (.cells ur e)) := by
      refine .inl ?_
      simp only [execOp, ho, Sem.run_bind, h1, Result.andThen_ok, Sem.run_pure]
    exact hdo.wp (hn _ _ _ (S'.put hr' hd) fun _ b hb => by simp [Lay.addOwn, upd, hb])
  | call ho hf hg h1 h2 h3 h4 h5 =>
    rename_i f args ts g fs cs r
    have hfv := S.ev f
    rw [hf] at hfv
    obtain ⟨af, ac, hfe, hrf, hrc⟩ := hfv
    have hargs : Reps L w (fs ++ args.toList.map s.ev ++ cs) (af.toList ++ args.toList.map a.eval ++ ac.toList) := (hrf.append (evs S args.toList)).append hrc
    have e1 : (af.toList ++ args.toList.map a.eval ++ ac.toList).toArray = af ++ args.map a.eval ++ ac := by
      apply Array.ext'; simp
    have hof' : (ownFree (fs ++ args.toList.map s.ev ++ cs) || r.flat) = true := by
      rw [ownFree_append, Bool.and_eq_true] at h1
      rw [ownFree_append, ownFree_append, h1.1, h1.2]
      simpa using h4
    have hcall := call_stepAt hT S hm hfo h5 hargs hg h2 h3 hof'
    rw [e1] at hcall
    have hexec : (execOp a.eval o).run P w = .ok (.enter g (af ++ args.map a.eval ++ ac)) w := by
      simp only [execOp, ho, resolve, hfe, Deferred.ofValue, Sem.run_bind, Sem.run_pure, Result.andThen_ok, invoke]
      exact enters_run hg.1 _
    unfold Oper.wp
    rw [hexec]
    simp only [Oper.upon]
    refine hcall.mono ?_
    rintro e w' ⟨u, L2, rfl, S2, hr2, hk⟩
    exact hn _ _ _ (S2.put hr2 hd) fun _ => hk
  | z ho hf hg =>
    rename_i f args ts g fs cs s1 r
    have hfv := S.ev f
    rw [hf] at hfv
    obtain ⟨af, ac, hfe, hrf, hrc⟩ := hfv
    have hargs : Reps L w (fs ++ args.toList.map s.ev ++ cs) (af.toList ++ args.toList.map a.eval ++ ac.toList) := (hrf.append (evs S args.toList)).append hrc
    have e1 : (af.toList ++ args.toList.map a.eval ++ ac.toList).toArray = af ++ args.map a.eval ++ ac := by
      apply Array.ext'; simp
    rcases hg C L a w _ hT S hargs with ⟨hen, hcall⟩ | ⟨u, w', L', hrun, S2, hr2⟩
    · rw [e1] at hcall
      have hexec : (execOp a.eval o).run P w = .ok (.enter g (af ++ args.map a.eval ++ ac)) w := by
        simp only [execOp, ho, resolve, hfe, Deferred.ofValue, Sem.run_bind, Sem.run_pure, Result.andThen_ok, invoke]
        exact enters_run hen _
      unfold Oper.wp
      rw [hexec]
      simp only [Oper.upon]
      refine hcall.mono ?_
      rintro e w' ⟨u, L2, rfl, S2, hr2⟩
      exact hn _ _ _ (S2.put hr2 hd) fun h => absurd rfl h
    · rw [e1] at hrun
      have hexec : (execOp a.eval o).run P w = .ok (.value u) w' := by
        simp only [execOp, ho, resolve, hfe, Deferred.ofValue, Sem.run_bind, Sem.run_pure, Result.andThen_ok, invoke]
        exact hrun
      unfold Oper.wp
      rw [hexec]
      simp only [Oper.upon]
      exact hn _ _ _ (S2.put hr2 hd) fun h => absurd rfl h

def compatA : Ka → Ka → Bool
  | .z, _ => false
  | _, .z => false
  | .rb b, .xb c => b != c
  | .xb b, .rb c => b != c
  | .xb b, .xb c => b != c
  | _, _ => true
theorem wrA_bx {κ1 κ2 : Ka} (hc : compatA κ1 κ2 = true) (c : Option (TypeId × List V)) (b : Nat) (hb : κ2 = .rb b ∨ κ2 = .xb b) : (wrA κ1 c s).bx b = s.bx b := by
  cases κ1 with
  | q => rfl
  | rb b1 => rfl
  | z => simp [compatA] at hc
  | xb b1 =>
    have : b ≠ b1 := by
      rcases hb with rfl | rfl <;> simp [compatA] at hc <;> exact fun e => hc e.symm
    simp [wrA, upd, this]
theorem compatA_symm {κ1 κ2 : Ka} (hc : compatA κ1 κ2 = true) : compatA κ2 κ1 = true := by
  cases κ1 <;> cases κ2 <;> simp [compatA] at hc ⊢ <;> exact fun e => hc e.symm
theorem compatA_notZ {κ1 κ2 : Ka} (hc : compatA κ1 κ2 = true) : κ1 ≠ .z ∧ κ2 ≠ .z := by
  cases κ1 <;> cases κ2 <;> simp [compatA] at hc ⊢
theorem wrA_comm {κ1 κ2 : Ka} (hc : compatA κ1 κ2 = true) (c1 c2 : Option (TypeId × List V)) : wrA κ1 c1 (wrA κ2 c2 s) = wrA κ2 c2 (wrA κ1 c1 s) := by
  cases κ1 with
  | q => rfl
  | rb b1 => rfl
  | z => rfl
  | xb b1 =>
    cases κ2 with
    | q => rfl
    | rb b2 => rfl
    | z => rfl
    | xb b2 =>
      have hne : b1 ≠ b2 := by simpa [compatA] using hc
      simp only [wrA, St.mk.injEq, true_and, and_true]
      funext t
      simp only [upd]
      by_cases h1 : t = b1
      · by_cases h2 : t = b2
        · omega
        · simp [h1, hne]
      · simp [h1]

theorem swapA {dsts : List (Option Nat)} {o1 o2 : Oper} {n0 i j : Nat} {κ1 κ2 : Ka} {s1 s2 : St} (h1 : RA P n0 i s o1 κ1 s1) (h2 : RA P n0 j s1 o2 κ2 s2) (hap : apartB dsts o1 o2 = true) (hc : compatA κ1 κ2 = true) :
    ∃ s1', RA P n0 j s o2 κ2 s1' ∧ RA P n0 i s1' o1 κ1 s2 := by
  obtain ⟨ha, hb, hc'⟩ := apartB_spec hap
  obtain ⟨z1, z2⟩ := compatA_notZ hc
  obtain ⟨v1, c1, rfl, f1⟩ := RA_frame h1 z1
  obtain ⟨v2, c2, rfl, f2⟩ := RA_frame h2 z2
  have g2 := f2 s (fun t ht => by rw [put_env (fun e => ha t e (by simp [lk, ht])), wrA_env]) (fun b hb => by rw [put_bx, wrA_bx hc c1 b hb])
  refine ⟨_, g2, ?_⟩
  have g1 := f1 ((wrA κ2 c2 s).put o2.dst v2) (fun t ht => by rw [put_env (fun e => hc' t e (by simp [lk, ht])), wrA_env]) (fun b hb => by rw [put_bx, wrA_bx (compatA_symm hc) c2 b hb])
  have e : (wrA κ1 c1 ((wrA κ2 c2 s).put o2.dst v2)).put o1.dst v1 = (wrA κ2 c2 ((wrA κ1 c1 s).put o1.dst v1)).put o2.dst v2 := by
    rw [wrA_put, wrA_put, wrA_comm hc, put_comm' (fun d hd => hb d hd)]
  rw [← e]
  exact g1

abbrev EntA := Nat × Oper × Ka
def ChainA (P : Program) [Tb P] (n0 : Nat) : List EntA → St → St → Prop
  | [], s, s' => s = s'
  | e :: r, s, s' => ∃ s1, RA P n0 e.1 s e.2.1 e.2.2 s1 ∧ ChainA P n0 r s1 s'
def BesideA (dsts : List (Option Nat)) (x y : EntA) : Bool := compatA x.2.2 y.2.2 && apartB dsts x.2.1 y.2.1
theorem chain_frontA {dsts : List (Option Nat)} {n0 : Nat} {x : EntA} : ∀ {l1 l2 : List EntA} {s s' : St}, ChainA P n0 (l1 ++ x :: l2) s s' → (∀ y ∈ l1, BesideA dsts y x = true) → ChainA P n0 (x :: (l1 ++ l2)) s s' := by
  intro l1
  induction l1 with
  | nil => intro l2 s s' h _; exact h
  | cons y l1 ih =>
    rintro l2 s s' ⟨s1, h1, h2⟩ hb
    obtain ⟨s2, h3, h4⟩ := ih h2 (fun z hz => hb z (by simp [hz]))
    have hy := hb y (by simp)
    simp only [BesideA, Bool.and_eq_true] at hy
    obtain ⟨s1', h5, h6⟩ := swapA h1 h3 hy.2 hy.1
    exact ⟨s1', h5, s2, h6, h4⟩

theorem stepA_wp {ops : Array Oper} {n0 i : Nat} {κ : Ka} {K : Act → World → Prop} {Q : Exit → Act → World → Prop} (hT : C.TOk P) (ho : ops[i]? = some o) (hg : o.guard = none) (h : RA P n0 i s o κ s') (S : Sim C s L a w) (hm : n0 + i < s.nid) (hf : L.box (n0 + i) = none ∧ L.own (n0 + i) = none)
    (hd : ∀ t, o.dst = some t → t < C.n) (hK : ∀ L' a' w', Sim C s' L' a' w' → (κ ≠ .z → ∀ b, b ≠ n0 + i → L'.box b = L.box b ∧ L'.own b = L.own b) → K a' w') : wpOp P ops Q i K a w := by
  unfold wpOp
  rw [ho]
  simp only
  rw [if_pos (by simp [Region.wanted, hg])]
  exact .inl (RA_wp h hT S hm hf.1 hf.2 hd hK)

theorem any_orderA {C : Cx} {n0 : Nat} {ops : Array Oper} {Q : Exit → Act → World → Prop} (hT : C.TOk P) (hidx : ∀ i o, ops[i]? = some o → ∀ e ∈ edgesOf o, e < i) (hd : ∀ o ∈ ops.toList, ∀ t, o.dst = some t → t < C.n) (hg : ∀ o ∈ ops, o.guard = none)
    (hQ : ∀ L a w, Sim C s' L a w → Q .normal a w) : ∀ (fuel : Nat) (l : List EntA) (listed : Array Bool) (s : St) (L : Lay) (a : Act) (w : World), l.length ≤ fuel → listed.size = ops.size →
    (∀ x ∈ l, ops[x.1]? = some x.2.1 ∧ listed.getD x.1 true = false) → (∀ i, i < ops.size → listed.getD i true = false → ∃ x ∈ l, x.1 = i) → (l.map (·.1)).Pairwise (· < ·) →
    (∀ i o, ops[i]? = some o → listed.getD i false = true → ∀ e ∈ edgesOf o, listed.getD e false = true) →
    l.Pairwise (fun x y => ((x.2.2.notZ && ((befGo [] ops.toList).getD y.1 0).testBit x.1) || BesideA (ops.toList.map (·.dst)) x y) = true) →
    ChainA P n0 l s s' → Sim C s L a w → (l ≠ [] → n0 + ops.size ≤ s.nid) → (∀ x ∈ l, L.box (n0 + x.1) = none ∧ L.own (n0 + x.1) = none) → wpAny P .any ops Q fuel listed a w := by
  intro fuel
  induction fuel with
  | zero =>
    intro l listed s L a w hlen hsz hmem hall hsort hcl hpair hch S hnid hbox
    have hl : l = [] := List.eq_nil_of_length_eq_zero (by omega)
    subst hl
    have hss : s = s' := hch
    subst hss
    refine ⟨?_, hQ L a w S⟩
    rw [List.eq_nil_iff_forall_not_mem]
    intro i hi
    obtain ⟨h0, o, ho, _⟩ := mem_ready.1 hi
    obtain ⟨x, hx, _⟩ := hall i (by have := (Array.getElem?_eq_some_iff.1 ho).1; exact this) h0
    cases hx
  | succ fuel ih =>
    intro l listed s L a w hlen hsz hmem hall hsort hcl hpair hch S hnid hbox
    refine ⟨fun hno => ?_, fun i hi => ?_⟩
    · -- nothing is ready: nothing is left
      cases l with
      | nil => have hss : s = s' := hch; subst hss; exact hQ L a w S
      | cons x r =>
        exfalso
        obtain ⟨h1, h2⟩ := hmem x (by simp)
        have : x.1 ∈ Region.ready .any ops listed := by
          refine mem_ready.2 ⟨h2, x.2.1, h1, fun e he hb => ?_⟩
          have hlt := hidx x.1 x.2.1 h1 e.on (by simp [edgesOf]; exact ⟨e, ⟨by simpa using he, hb⟩, rfl⟩)
          have hx1 : x.1 < ops.size := (Array.getElem?_eq_some_iff.1 h1).1
          cases hle : listed.getD e.on false with
          | true => rfl
          | false =>
            exfalso
            have hle' : listed.getD e.on true = false := by
              have : e.on < listed.size := by omega
              simpa [Array.getD, this] using hle
            obtain ⟨y, hy, hye⟩ := hall e.on (by omega) hle'
            rcases List.mem_cons.1 hy with rfl | hy
            · omega
            · have := (List.pairwise_cons.1 (by simpa using hsort)).1 y.1 (List.mem_map.2 ⟨y, hy, rfl⟩)
              omega
        rw [hno] at this
        cases this
    · obtain ⟨h0, o, ho, hedge⟩ := mem_ready.1 hi
      have hisz : i < ops.size := (Array.getElem?_eq_some_iff.1 ho).1
      obtain ⟨x, hx, rfl⟩ := hall i hisz h0
      obtain ⟨l1, l2, rfl⟩ := List.append_of_mem hx
      have hxo : x.2.1 = o := by
        have := (hmem x hx).1
        rw [ho] at this
        simpa using this.symm
      -- those ahead stand beside it
      have hbes : ∀ y ∈ l1, BesideA (ops.toList.map (·.dst)) y x = true := by
        intro y hy
        have h1 := (List.pairwise_append.1 hpair).2.2 y hy x (by simp)
        simp only [Bool.or_eq_true, Bool.and_eq_true] at h1
        rcases h1 with ⟨_, h1⟩ | h1
        · exfalso
          have hcl' := bef_closed (fun i => listed.getD i false = true) ops.toList [] (fun k j _ h => by simp at h)
            (fun k o hk hD e he => hcl k o (by simpa using hk) (by simpa using hD) e he) x.1 o (by simpa using ho)
            (fun e he => by
              simp only [edgesOf, List.mem_map, List.mem_filter] at he
              obtain ⟨e', ⟨h2, h3⟩, rfl⟩ := he
              exact hedge e' (by simpa using h2) h3) y.1 (by simpa using h1)
          have h2 := (hmem y (by simp [hy])).2
          have h3 : y.1 < listed.size := by
            have := (Array.getElem?_eq_some_iff.1 (hmem y (by simp [hy])).1).1; omega
          simp [Array.getD, h3] at hcl' h2
          rw [h2] at hcl'
          cases hcl'
        · exact h1
      obtain ⟨s1, hstep, hrest⟩ := chain_frontA hch hbes
      rw [hxo] at hstep
      have hnew := hbox x hx
      have hnid0 := hnid (by intro e; rw [e] at hx; cases hx)
      have hlast : x.2.2 = .z → l1 ++ l2 = [] := by
        intro hz
        have e1 : l1 = [] := List.eq_nil_iff_forall_not_mem.2 fun y hy => by
          have := hbes y hy
          simp only [BesideA, Bool.and_eq_true] at this
          exact (compatA_notZ this.1).2 hz
        have e2 : l2 = [] := List.eq_nil_iff_forall_not_mem.2 fun y hy => by
          have h1 := (List.pairwise_cons.1 (List.pairwise_append.1 hpair).2.1).1 y hy
          rw [hz] at h1
          simp only [Ka.notZ, Bool.false_and, Bool.false_or, BesideA, Bool.and_eq_true] at h1
          exact (compatA_notZ h1.1).1 hz
        rw [e1, e2]; rfl
      refine stepA_wp hT ho (hg o (Array.mem_of_getElem? ho)) hstep S (by omega) hnew (hd o (by rw [← Array.mem_toList_iff.symm]; exact Array.mem_of_getElem? ho)) (fun L' a' w' S' hL' => ?_)
      have hne : ∀ y ∈ l1 ++ l2, y.1 ≠ x.1 := by
        intro y hy
        rw [List.map_append, List.map_cons] at hsort
        have hp := List.pairwise_append.1 hsort
        rcases List.mem_append.1 hy with hy | hy
        · have := hp.2.2 y.1 (List.mem_map.2 ⟨y, hy, rfl⟩) x.1 (by simp); omega
        · have := (List.pairwise_cons.1 hp.2.1).1 y.1 (List.mem_map.2 ⟨y, hy, rfl⟩); omega
      refine ih (l1 ++ l2) (listed.setIfInBounds x.1 true) s1 L' a' w' (by simp at hlen ⊢; omega) (by simp [hsz]) ?_ ?_ ?_ ?_ ?_ hrest S' (fun hne' => by rw [RA_nid hstep (fun hz => hne' (hlast hz))]; exact hnid0) (fun y hy => by
        have h6 := hL' (fun hz => by rw [hlast hz] at hy; cases hy) (n0 + y.1) (by have := hne y hy; omega)
        rw [h6.1, h6.2]
        exact hbox y (by rcases List.mem_append.1 hy with h | h <;> simp [h]))
      · intro y hy
        obtain ⟨h4, h5⟩ := hmem y (by rcases List.mem_append.1 hy with h | h <;> simp [h])
        exact ⟨h4, by rw [getD_set_ne true (Ne.symm (hne y hy))]; exact h5⟩
      · intro j hj hjl
        by_cases hji : j = x.1
        · subst hji
          have : x.1 < listed.size := by omega
          simp [Array.getD, this] at hjl
        · rw [getD_set_ne true (fun e => hji e.symm)] at hjl
          obtain ⟨y, hy, rfl⟩ := hall j hj hjl
          refine ⟨y, ?_, rfl⟩
          rcases List.mem_append.1 hy with hy | hy
          · simp [hy]
          · rcases List.mem_cons.1 hy with rfl | hy
            · exact absurd rfl hji
            · simp [hy]
      · exact hsort.sublist (by simp only [List.map_append, List.map_cons]; exact (List.Sublist.refl _).append (List.sublist_cons_self _ _))
      · intro j o' hj hjl e he
        by_cases hji : j = x.1
        · subst hji
          rw [ho] at hj
          simp only [Option.some.injEq] at hj
          subst hj
          simp only [edgesOf, List.mem_map, List.mem_filter] at he
          obtain ⟨e', ⟨h2, h3⟩, rfl⟩ := he
          exact getD_set_true (hedge e' (by simpa using h2) h3)
        · rw [getD_set_ne false (fun e => hji e.symm)] at hjl
          exact getD_set_true (hcl j o' hj hjl e he)
      · exact hpair.sublist ((List.Sublist.refl _).append (List.sublist_cons_self _ _))


end

def chkAllA (dsts : List (Option Nat)) (b : List Nat) : List EntA → Bool
  | [] => true
  | x :: r => (r.all fun y => (x.2.2.notZ && (b.getD y.1 0).testBit x.1) || BesideA dsts x y) && chkAllA dsts b r
def entriesA (k : Nat) : List Oper → List Ka → List EntA
  | o :: os, κ :: ks => (k, o, κ) :: entriesA (k + 1) os ks
  | _, _ => []
/-- What is asked of a region and its operations' kinds: the kernel reckons it. -/
def chkA (ops : List Oper) (ks : List Ka) : Bool :=
  ops.length == ks.length && (ops.zipIdx.all fun x => (edgesOf x.1).all fun e => decide (e < x.2)) && ops.all (fun o => o.guard.isNone) && chkAllA (ops.map (·.dst)) (befGo [] ops) (entriesA 0 ops ks)
/-- A call in such a region. -/
def callAW (P : Program) [Tb P] (m : Nat) (f : V) (args : List Operand) (d : Option Nat) (s : St) (K : Ka → St → Prop) : Prop :=
  match f with
  | .fn g fs cs => (∃ r, Good P g ((fs ++ args.map s.ev ++ cs).map V.erase) r ∧ ownFree (fs ++ cs) = true ∧ noRefs (fs ++ args.map s.ev ++ cs) = true ∧ r.noRef = true ∧ (ownFree (args.map s.ev) || r.flat) = true ∧ r.idb ≤ 1 ∧ K .q (s.put d (r.shift m))) ∨
      ∃ s1 r, GoodZ P g (fs ++ args.map s.ev ++ cs) s s1 r ∧ K .z (s1.put d r)
  | _ => False
def bsA (P : Program) (m t len : Nat) (parts : List (Nat × V)) : Option V :=
  (elemT P t).bind fun e => (tapp P e).bind fun p => (zelem P e).bind fun v => (setAll p.1 (List.replicate len v) parts).bind fun xs => if len * p.1 ≤ 16777216 then some (.sl (bsTag len m e) p.1 xs) else none
def optAK (r : Option (Ka × St)) (K : Ka → St → Prop) : Prop := match r with | some (κ, s') => K κ s' | none => False
/-- One operation and what is asked behind it. -/
def stAK (P : Program) [Tb P] (n0 i : Nat) (s : St) (o : Oper) (K : Ka → St → Prop) : Prop :=
  match o.op with
  | .call { callee := .value f, args, .. } => callAW P (n0 + i) (s.ev f) args.toList o.dst s K
  | .buildSlice t len parts => optAK ((bsA P (n0 + i) t len (parts.toList.map fun p => (p.1, s.ev p.2))).map fun r => (.q, s.put o.dst r)) K
  | _ => optAK (stepA P n0 i s o) K
theorem stAK_ex {P : Program} [Tb P] {n0 i : Nat} {s : St} {o : Oper} {K : Ka → St → Prop} (h : stAK P n0 i s o K) : ∃ κ s', RA P n0 i s o κ s' ∧ K κ s' := by
  unfold stAK at h
  split at h
  · rename_i f args ts ho
    unfold callAW at h
    split at h
    · rename_i g fs cs hf
      rcases h with ⟨r, h1, h2, h3, h4, h5, h6, h7⟩ | ⟨s1, r, h1, h2⟩
      · exact ⟨_, _, .call ho hf h1 h2 h3 h4 h5 h6, h7⟩
      · exact ⟨_, _, .z ho hf h1, h2⟩
    · cases h
  · rename_i t len parts ho
    unfold optAK at h
    split at h
    · rename_i κ s' hs
      simp only [bsA, Option.map_eq_some_iff, Option.bind_eq_some_iff, Option.ite_none_right_eq_some, Option.some.injEq, Prod.mk.injEq] at hs
      obtain ⟨r, ⟨e, he, p, hp, v, hv, xs, hxs, hl, rfl⟩, rfl, rfl⟩ := hs
      exact ⟨_, _, .bs (bytes := p.2) ho he hp hv hxs hl, h⟩
    · cases h
  · unfold optAK at h
    split at h
    · rename_i κ s' hs
      exact ⟨κ, s', .st hs, h⟩
    · cases h
/-- The region, operation by operation in the text's order. -/
def wpAgo (P : Program) [Tb P] (n0 : Nat) (ops : List Oper) (K : St → Prop) : List Oper → List Ka → Nat → St → Prop
  | [], ks, _, s => chkA ops ks.reverse = true ∧ K s
  | o :: rest, ks, i, s => stAK P n0 i s o fun κ s' => wpAgo P n0 ops K rest (κ :: ks) (i + 1) s'
def drawA (P : Program) [Tb P] (ops : Array Oper) (K : St → Prop) (s : St) : Prop := wpAgo P s.nid ops.toList K ops.toList [] 0 { s with nid := s.nid + ops.size }
def isAlloc (o : Oper) : Bool := match o.op with | .alloc _ => true | .buildSlice _ _ _ => true | _ => false
def okA (o : Oper) : Bool := match o.op with
  | .call { callee := .builtin .append, .. } => false
  | .makeSlice _ _ _ => false
  | .slice _ _ _ _ _ => false
  | .box _ _ => false
  | _ => o.guard.isNone
/-- Two made, or one beside a load: and nothing that this way does not know. -/
def twoA (ops : List Oper) : Bool := decide (1 ≤ (ops.filter isAlloc).length) && ops.all okA
def dD (cuts : List Nat) : Dw := ⟨fun P _ ops K s => if twoA ops.toList = true then drawA P ops K s else drawW P ops K s, cuts⟩

section
variable {P : Program} [Tb P] {dsts : List (Option Nat)} {s s' : St} {o : Oper}
theorem wpAgo_chain {n0 : Nat} {ops : List Oper} {K : St → Prop} : ∀ (rest : List Oper) (ks : List Ka) (k : Nat) (s : St), wpAgo P n0 ops K rest ks k s →
    ∃ ks' s', rest.length = ks'.length ∧ ChainA P n0 (entriesA k rest ks') s s' ∧ chkA ops (ks.reverse ++ ks') = true ∧ K s' := by
  intro rest
  induction rest with
  | nil => intro ks k s h; exact ⟨[], s, rfl, rfl, by simpa using h.1, h.2⟩
  | cons o rest ih =>
    intro ks k s h
    obtain ⟨κ, s1, hs, h⟩ := stAK_ex h
    obtain ⟨ks', s', h3, h4, h5, h6⟩ := ih (κ :: ks) (k + 1) s1 h
    exact ⟨κ :: ks', s', by simp [h3], ⟨s1, hs, h4⟩, by simpa using h5, h6⟩
theorem entriesA_get : ∀ (os : List Oper) (ks : List Ka) (k : Nat) (x : EntA), x ∈ entriesA k os ks → k ≤ x.1 ∧ os[x.1 - k]? = some x.2.1 := by
  intro os
  induction os with
  | nil => intro ks k x h; simp [entriesA] at h
  | cons o os ih =>
    intro ks k x h
    cases ks with
    | nil => simp [entriesA] at h
    | cons κ ks =>
      simp only [entriesA, List.mem_cons] at h
      rcases h with rfl | h
      · simp
      · obtain ⟨h1, h2⟩ := ih ks (k + 1) x h
        refine ⟨by omega, ?_⟩
        rw [show x.1 - k = (x.1 - (k + 1)) + 1 by omega]
        simpa using h2
theorem entriesA_nums : ∀ (os : List Oper) (ks : List Ka) (k : Nat), os.length = ks.length → (entriesA k os ks).map (·.1) = List.range' k os.length := by
  intro os
  induction os with
  | nil => intro ks k h; cases ks <;> rfl
  | cons o os ih =>
    intro ks k h
    cases ks with
    | nil => simp at h
    | cons κ ks => simp only [entriesA, List.map_cons, List.length_cons, List.range'_succ]; rw [ih ks (k + 1) (by simpa using h)]
theorem chkAllA_pairs {b : List Nat} : ∀ {l : List EntA}, chkAllA dsts b l = true → l.Pairwise fun x y => ((x.2.2.notZ && (b.getD y.1 0).testBit x.1) || BesideA dsts x y) = true := by
  intro l
  induction l with
  | nil => intro _; exact .nil
  | cons x r ih =>
    intro h
    simp only [chkAllA, Bool.and_eq_true] at h
    exact .cons (fun y hy => List.all_eq_true.1 h.1 y hy) (ih h.2)

theorem drawD_ok (cuts : List Nat) (hm : P.follows .mixedOrders = true) : DrawOk P (dD cuts) := by
  intro id C ops K Q s L a w hT hfit hQK h S
  simp only [dD] at h
  split at h
  case isFalse => exact drawC_ok cuts hm id C ops K Q s L a w hT hfit hQK h S
  unfold drawA at h
  obtain ⟨ks, s', hlen, hch, hchk, hK⟩ := wpAgo_chain ops.toList [] 0 _ h
  simp only [List.reverse_nil, List.nil_append, chkA, Bool.and_eq_true] at hchk
  obtain ⟨⟨⟨_, hidx⟩, hguards⟩, hpairs⟩ := hchk
  have hbox0 : ∀ n, L.box (s.nid + n) = none := by
    intro n
    cases hb : L.box (s.nid + n) with
    | none => rfl
    | some g => have := S.wf.nidB _ g hb; omega
  have hown0 : ∀ n, L.own (s.nid + n) = none := by
    intro n
    cases hb : L.own (s.nid + n) with
    | none => rfl
    | some g => have := S.wf.nidO _ g hb; omega
  have S1 : Sim C { s with nid := s.nid + ops.size } L a { w with drawn := w.drawn + 1 } := by
    have K : Whole L L w w.drew := ⟨rfl, fun g h => ⟨h, .of rfl⟩, fun id e _ g h => ⟨⟨rfl, h⟩, rfl⟩, fun _ _ _ h => h⟩
    exact ⟨S.defers, S.size, fun t => (S.env t).whole K, fun t => (S.hid t).whole K, fun b cs h => by obtain ⟨g, arr, h1, h2, h3⟩ := S.box b cs h; exact ⟨g, arr, h1, h2, h3.whole K⟩, S.wf.mono (Nat.le_add_right _ _) (Nat.le_refl _), S.kp.drew⟩
  have hnums := entriesA_nums ops.toList ks 0 (by simpa using hlen)
  refine wp_region_any hm (any_orderA (s' := s') hT ?_ (opsFit_all hfit) ?_ (fun L a w S' => ⟨s', L, by rw [hQK]; exact hK, S'⟩) ops.size (entriesA 0 ops.toList ks) (Array.replicate ops.size false) _ L a _ ?_ (by simp) ?_ ?_ ?_ ?_ (chkAllA_pairs hpairs) hch S1 (fun _ => Nat.le_refl _) (fun x _ => ⟨hbox0 x.1, hown0 x.1⟩))
  · intro i o ho e he
    have hm : (o, i) ∈ ops.toList.zipIdx := by
      rw [List.mem_zipIdx_iff_getElem?]
      simpa using ho
    have := List.all_eq_true.1 (List.all_eq_true.1 hidx (o, i) hm) e he
    simpa using this
  · intro o ho
    have := List.all_eq_true.1 hguards o (by simpa using ho)
    simpa using this
  · have : (entriesA 0 ops.toList ks).length = ops.size := by
      have := congrArg List.length hnums
      simpa using this
    omega
  · intro x hx
    obtain ⟨_, h2⟩ := entriesA_get ops.toList ks 0 x hx
    simp only [Nat.sub_zero, Array.getElem?_toList] at h2
    have hlt := (Array.getElem?_eq_some_iff.1 h2).1
    exact ⟨h2, by simp [Array.getD, hlt]⟩
  · intro i hi _
    have : i ∈ (entriesA 0 ops.toList ks).map (·.1) := by
      rw [hnums]; simp; exact hi
    obtain ⟨x, hx, rfl⟩ := List.mem_map.1 this
    exact ⟨x, hx, rfl⟩
  · rw [hnums]
    exact List.pairwise_lt_range'
  · intro i o ho hl
    have hlt := (Array.getElem?_eq_some_iff.1 ho).1
    simp [Array.getD, hlt] at hl
end
end Go.Pg
end

section
/-
  The pure layer: how a walk goes through a region that makes several variables or arrays in an order that is drawn.
-/
namespace Go.Pg
open Go
set_option linter.defProp false
set_option linter.unusedSectionVars false
theorem optAK_mono {r : Option (Ka × St)} {K K' : Ka → St → Prop} (h : optAK r K) (hk : ∀ κ s', K κ s' → K' κ s') : optAK r K' := by
  unfold optAK at h ⊢
  split
  · exact hk _ _ h
  · exact h
theorem stAK_mono {P : Program} [Tb P] {n0 i : Nat} {s : St} {o : Oper} {K K' : Ka → St → Prop} (h : stAK P n0 i s o K) (hk : ∀ κ s', K κ s' → K' κ s') : stAK P n0 i s o K' := by
  unfold stAK at h ⊢
  split
  · rename_i f args ts ho
    simp only [ho] at h
    unfold callAW at h ⊢
    split
    · rename_i g fs cs hf
      rw [hf] at h
      simp only at h
      rcases h with ⟨r, h1, h2, h3, h4, h5, h6, h7⟩ | ⟨s1, r, h1, h2⟩
      · exact .inl ⟨r, h1, h2, h3, h4, h5, h6, hk _ _ h7⟩
      · exact .inr ⟨s1, r, h1, hk _ _ h2⟩
    · rename_i hne
      split at h
      · rename_i g fs cs hf; exact absurd hf (hne g fs cs)
      · exact h
  · rename_i t len parts ho
    simp only [ho] at h
    exact optAK_mono h hk
  · rename_i h1 h2
    split at h
    · rename_i f args ts ho; exact absurd ho (h1 _ _ _)
    · rename_i t len parts ho; exact absurd ho (h2 _ _ _)
    · exact optAK_mono h hk
theorem wpAgo_mono {P : Program} [Tb P] {n0 : Nat} {ops : List Oper} {K K' : St → Prop} (hk : ∀ s, K s → K' s) : ∀ (rest : List Oper) (ks : List Ka) (i : Nat) (s : St), wpAgo P n0 ops K rest ks i s → wpAgo P n0 ops K' rest ks i s := by
  intro rest
  induction rest with
  | nil => intro ks i s h; exact ⟨h.1, hk _ h.2⟩
  | cons o rest ih => intro ks i s h; exact stAK_mono h (fun κ s' h' => ih _ _ _ h')
section
variable {P : Program} [Tb P]
theorem wpS_monoD {cuts : List Nat} (c : Code) : ∀ {Q Q' : Exit → St → Prop} {s : St}, wpS (dD cuts) P c Q s → (∀ e s, Q e s → Q' e s) → wpS (dD cuts) P c Q' s := by
  induction c with
  | skip => intro Q Q' s h hq; exact hq _ _ h
  | region id ops draw =>
    intro Q Q' s h hq
    simp only [wpS] at h ⊢
    cases draw with
    | true =>
      simp only [dD, if_true] at h ⊢
      split
      · rename_i ht; rw [if_pos ht] at h; exact wpAgo_mono (hq .normal) _ _ _ _ h
      · rename_i ht; rw [if_neg ht] at h; exact wpDgo_mono (hq .normal) _ _ _ h
    | false => exact wpL_mono (hq .normal) _ _ h
  | seq x y ihx ihy =>
    intro Q Q' s h hq
    refine ihx (Q := thenQ _ Q) h ?_
    intro e s' h'
    cases e with
    | normal =>
      simp only [thenQ] at h' ⊢
      cases hc : cutAt (dD cuts).cuts (fstR y) with
      | true => rw [hc] at h'; obtain ⟨s2, hw, h2⟩ := h'; exact ⟨s2, hw, ihy h2 hq⟩
      | false => rw [hc] at h'; exact ihy h' hq
    | _ => exact hq _ _ h'
  | cond c x y ihx ihy =>
    intro Q Q' s h hq
    simp only [wpS, condK] at h ⊢
    split
    · rename_i b hb
      rw [hb] at h
      simp only at h
      cases b with
      | true => exact ihx (by simpa using h) hq
      | false => exact ihy (by simpa using h) hq
    · rename_i h1
      split at h
      · rename_i b hb; exact absurd hb (h1 b)
      · exact h
  | block id x ih =>
    intro Q Q' s h hq
    refine ih (Q := inB id Q) h ?_
    intro e s' h'
    cases e with
    | exit id' =>
      simp only [inB] at h' ⊢
      split
      · rename_i hi; rw [if_pos hi] at h'; exact hq _ _ h'
      · rename_i hi; rw [if_neg hi] at h'; exact hq _ _ h'
    | _ => exact hq _ _ h'
  | loop x ih =>
    intro Q Q' s h hq
    obtain ⟨I, n, h0, hr⟩ := h
    refine ⟨I, n, h0, fun n s1 hi => ih (hr n s1 hi) ?_⟩
    intro e s' h'
    cases e with
    | normal => exact h'
    | _ => exact hq _ _ h'
  | exit id => intro Q Q' s h hq; exact hq _ _ h
  | label l => intro Q Q' s h hq; exact hq _ _ h
  | goto l => intro Q Q' s h hq; exact hq _ _ h
  | ret => intro Q Q' s h hq; exact hq _ _ h
  | rangeFunc => intro Q Q' s h; exact h.elim
  | scope => intro Q Q' s h; exact h.elim
  | refuse => intro Q Q' s h; exact h.elim
end
/-- A call of a function value that has captured variables. -/
theorem callY {P : Program} [Tb P] {g : FuncId} {fs cs : List V} {args : List Operand} {d : Option Nat} {s s' : St} {K : Kd → St → Prop} {vs : List V} (r : V) (hg : GoodZ P g vs s s' r) (hvs : fs ++ args.map s.ev ++ cs = vs) (hK : K .z (s'.put d r)) : callW P (.fn g fs cs) args d s K :=
  .inr ⟨s', r, by rw [hvs]; exact hg, hK⟩
section
variable (P : Program) [Tb P]
def alC (n0 : Nat) (ops : List Oper) (Q : Exit → St → Prop) (rest : List Oper) (ks : List Ka) (i : Nat) (s : St) : Prop := wpAgo P n0 ops (Q .normal) rest ks i s
def alN (n0 : Nat) (ops : List Oper) (Q : Exit → St → Prop) (rest : List Oper) (ks : List Ka) (i : Nat) (κ : Ka) (s : St) : Prop := wpAgo P n0 ops (Q .normal) rest (κ :: ks) (i + 1) s
theorem wpS_seqD (x y : Code) (Q : Exit → St → Prop) (s : St) : wpS (dD []) P (.seq x y) Q s = wpS (dD []) P x (thenC (dD []) P y Q) s := by
  have : cutAt (dD []).cuts (fstR y) = false := by cases h : fstR y <;> rfl
  simp only [wpS, this, thenC, cond_false]
def seqV (cuts : List Nat) (x y : Code) (Q : Exit → St → Prop) (s : St) : Prop := wpS (dD cuts) P (.seq x y) Q s
theorem wpS_seqE (n : Nat) (cuts : List Nat) (x y : Code) (Q : Exit → St → Prop) (s : St) : wpS (dD (n :: cuts)) P (.seq x y) Q s = bif cutAt (n :: cuts) (fstR y) then seqV P (n :: cuts) x y Q s else wpS (dD (n :: cuts)) P x (thenC (dD (n :: cuts)) P y Q) s := by
  cases h : cutAt (n :: cuts) (fstR y) with
  | true => rfl
  | false =>
    have h' : cutAt (dD (n :: cuts)).cuts (fstR y) = false := h
    simp only [wpS, h', thenC, cond_false]
theorem seq_cutD {ι : Type} {cuts : List Nat} {x y : Code} {Q : Exit → St → Prop} {s : St} (S : ι → St) (Inv : ι → Prop) (hc : cutAt cuts (fstR y) = true) (hy : ∀ i, Inv i → wpS (dD cuts) P y Q (S i)) (hx : wpS (dD cuts) P x (cutC S Inv Q) s) : seqV P cuts x y Q s := by
  have h' : cutAt (dD cuts).cuts (fstR y) = true := hc
  simp only [seqV, wpS, h', cond_true]
  refine wpS_monoD x hx ?_
  intro e s' h
  cases e with
  | normal => obtain ⟨i, hi, hw⟩ := h; exact ⟨S i, hw, hy i hi⟩
  | _ => exact h
def drwE (b : Bool) (l : List Oper) (Q : Exit → St → Prop) (s : St) : Prop := match b with | true => alC P s.nid l Q l [] 0 ⟨s.env, s.bx, s.nid + l.length, s.hd⟩ | false => drwC P (l.map (·.dst)) l Q l [] s
theorem wpS_drawD (cuts : List Nat) (id : Nat) (l : List Oper) (Q : Exit → St → Prop) (s : St) : wpS (dD cuts) P (.region id l.toArray true) Q s = drwE P (twoA l) l Q s := by
  simp only [wpS, if_true, dD, drwE]
  cases h : twoA l with
  | true => simp [drawA, alC]
  | false => simp [drawW, drwC]
theorem drwE_t (e : Nat → V) (b : Nat → Option (TypeId × List V)) (n : Nat) (h : Nat → V) (l : List Oper) (Q : Exit → St → Prop) : drwE P true l Q ⟨e, b, n, h⟩ = alC P n l Q l [] 0 ⟨e, b, n + l.length, h⟩ := rfl
theorem drwE_f (l : List Oper) (Q : Exit → St → Prop) (s : St) : drwE P false l Q s = drwC P (l.map (·.dst)) l Q l [] s := rfl
theorem alC_nil (n0 : Nat) (ops : List Oper) (Q : Exit → St → Prop) (ks : List Ka) (i : Nat) (s : St) : alC P n0 ops Q [] ks i s = (chkA ops ks.reverse = true ∧ Q .normal s) := rfl
theorem alC_cons (n0 : Nat) (ops : List Oper) (Q : Exit → St → Prop) (o : Oper) (rest : List Oper) (ks : List Ka) (i : Nat) (s : St) : alC P n0 ops Q (o :: rest) ks i s = stAK P n0 i s o (alN P n0 ops Q rest ks i) := rfl
theorem alN_at (n0 : Nat) (ops : List Oper) (Q : Exit → St → Prop) (rest : List Oper) (ks : List Ka) (i : Nat) (κ : Ka) (s : St) : alN P n0 ops Q rest ks i κ s = alC P n0 ops Q rest (κ :: ks) (i + 1) s := rfl
theorem optAK_some (κ : Ka) (s : St) (K : Ka → St → Prop) : optAK (some (κ, s)) K = K κ s := rfl
theorem chkA_at {ops : List Oper} {ks : List Ka} {q : Prop} (h1 : chkA ops ks = true) (h2 : q) : chkA ops ks = true ∧ q := ⟨h1, h2⟩
section
variable (n0 i : Nat) (s : St) (d : Option Nat) (ty : TypeId) (pos : String) (af : Array Edge) (g : Option (Nat × Bool)) (K : Ka → St → Prop)
def stA (t : TypeId) (x y : V) : Option (Ka × St) := match x with | .ref b off => (storeB P s t b off y).map fun s' => (.xb b, s'.put d .top) | _ => none
def ldA (t : TypeId) (x : V) (r : Option V) : Option (Ka × St) := match x with | .ref b off => (loadB P s t b off).map fun r => (.rb b, s.put d r) | _ => r.map fun r => (.q, s.put d r)
def optAV (s : St) (d : Option Nat) (r : Option V) (K : Ka → St → Prop) : Prop := match r with | some v => K .q (s.put d v) | none => False
theorem optAV_some (s : St) (d : Option Nat) (v : V) (K : Ka → St → Prop) : optAV s d (some v) K = K .q (s.put d v) := rfl
theorem optAV_at (s : St) (d : Option Nat) (r : Option V) (K : Ka → St → Prop) : optAK (r.map fun r => (.q, s.put d r)) K = optAV s d r K := by cases r <;> rfl
theorem stA_ref (t : TypeId) (b off : Nat) (y : V) : stA P s d t (.ref b off) y = (storeB P s t b off y).map fun s' => (.xb b, s'.put d .top) := rfl
theorem ldA_ref (t : TypeId) (b off : Nat) (r : Option V) : ldA P s d t (.ref b off) r = (loadB P s t b off).map fun r => (.rb b, s.put d r) := rfl
theorem ldA_el (t : TypeId) (tg : Tag) (k : Nat) (xs : List V) (j off : Nat) (r : Option V) : ldA P s d t (.el tg k xs j off) r = r.map fun r => (.q, s.put d r) := rfl
theorem ldQ_el (t : TypeId) (x : Operand) (tg : Tag) (k : Nat) (xs : List V) (j off : Nat) (h : s.ev x = .el tg k xs j off) : qv P s (.load t x) = (xs[j]?).bind fun y => y.cs.bind fun cs => ldCells P t cs off := by simp only [qv, h]
/-- A load, its place known. -/
def ldS (t : TypeId) (x : V) : Option (Ka × V) := match x with | .ref b off => (loadB P s t b off).map fun r => (.rb b, r) | .el _ _ xs j off => ((xs[j]?).bind fun y => y.cs.bind fun cs => ldCells P t cs off).map fun r => (.q, r) | _ => none
def optAL (r : Option (Ka × V)) : Prop := match r with | some (κ, v) => K κ (s.put d v) | none => False
theorem optAL_some (κ : Ka) (v : V) : optAL s d K (some (κ, v)) = K κ (s.put d v) := rfl
theorem ldS_ref (t : TypeId) (b off : Nat) : ldS P s t (.ref b off) = (loadB P s t b off).map fun r => (.rb b, r) := rfl
theorem ldS_el (t : TypeId) (tg : Tag) (k : Nat) (xs : List V) (j off : Nat) : ldS P s t (.el tg k xs j off) = ((xs[j]?).bind fun y => y.cs.bind fun cs => ldCells P t cs off).map fun r => (.q, r) := rfl
theorem stepA_alloc (e : Nat → V) (b : Nat → Option (TypeId × List V)) (n : Nat) (h : Nat → V) (t : TypeId) : stAK P n0 i ⟨e, b, n, h⟩ ⟨d, .alloc t, ty, pos, af, g⟩ K = optAK ((tzc P t).map fun l => (.xb (n0 + i), St.put ⟨e, upd b (n0 + i) (some (t, l)), n, h⟩ d (.ref (n0 + i) 0))) K := by
  simp only [stAK, stepA, tzc, Option.map_map]; rfl
theorem stepA_store (t : TypeId) (x y : Operand) : stAK P n0 i s ⟨d, .store t x y, ty, pos, af, g⟩ K = optAK (stA P s d t (s.ev x) (s.ev y)) K := rfl
theorem stepA_load (t : TypeId) (x : Operand) : stAK P n0 i s ⟨d, .load t x, ty, pos, af, g⟩ K = optAL s d K (ldS P s t (s.ev x)) := by
  have e : stAK P n0 i s ⟨d, .load t x, ty, pos, af, g⟩ K = optAK (ldA P s d t (s.ev x) (qv P s (.load t x))) K := rfl
  rw [e]
  unfold ldA ldS
  simp only [qv]
  cases s.ev x with
  | ref b off => cases h : loadB P s t b off <;> simp only [optAK, optAL, h, Option.map_some, Option.map_none]
  | el tg k xs j off =>
    simp only
    generalize ((xs[j]?).bind fun y => y.cs.bind fun cs => ldCells P t cs off) = r
    cases r <;> rfl
  | _ => rfl
theorem stepA_move (x : Operand) : stAK P n0 i s ⟨d, .move x, ty, pos, af, g⟩ K = K .q (s.put d (s.ev x)) := rfl
theorem stepA_assign (x : Operand) : stAK P n0 i s ⟨d, .assign x, ty, pos, af, g⟩ K = K .q (s.put d (s.ev x)) := rfl
theorem stepA_fieldAddr (t : TypeId) (x : Operand) (f : Nat) : stAK P n0 i s ⟨d, .fieldAddr t x f, ty, pos, af, g⟩ K = optAV s d (faV P t (s.ev x) f) K := optAV_at _ _ _ _
theorem stepA_field (t : TypeId) (x : Operand) (f : Nat) : stAK P n0 i s ⟨d, .field t x f, ty, pos, af, g⟩ K = optAV s d (fieldV P t (s.ev x) f) K := optAV_at _ _ _ _
theorem stepA_index (t : TypeId) (x y : Operand) : stAK P n0 i s ⟨d, .index t x y, ty, pos, af, g⟩ K = optAV s d (ixV P t (s.ev x) (s.ev y)) K := optAV_at _ _ _ _
theorem stepA_indexAddr (t : TypeId) (x y : Operand) : stAK P n0 i s ⟨d, .indexAddr t x y, ty, pos, af, g⟩ K = optAV s d (iaV P t (s.ev x) (s.ev y)) K := optAV_at _ _ _ _
theorem stepA_build (t : TypeId) (ps : Array (Nat × Operand)) : stAK P n0 i s ⟨d, .build t ps, ty, pos, af, g⟩ K = optAV s d (buildV P t (ps.toList.map fun p => (p.1, s.ev p.2))) K := optAV_at _ _ _ _
theorem stepA_binOp (op : BinOp) (t t2 : TypeId) (x y : Operand) : stAK P n0 i s ⟨d, .binOp op t x y t2, ty, pos, af, g⟩ K = optAV s d (binO P op t (s.ev x) (s.ev y) y) K := optAV_at _ _ _ _
theorem stepA_unOp (op : UnOp) (t : TypeId) (x : Operand) : stAK P n0 i s ⟨d, .unOp op t x, ty, pos, af, g⟩ K = optAV s d (unV op (s.ev x)) K := optAV_at _ _ _ _
theorem stepA_convert (t t2 : TypeId) (x : Operand) : stAK P n0 i s ⟨d, .convert t t2 x, ty, pos, af, g⟩ K = optAV s d (convV P t t2 (s.ev x)) K := optAV_at _ _ _ _
theorem stepA_extract (x : Operand) (k : Nat) : stAK P n0 i s ⟨d, .extract x k, ty, pos, af, g⟩ K = optAV s d (exV (s.ev x) k) K := optAV_at _ _ _ _
theorem stepA_makeFunc (f : FuncId) (fs cs : Array Operand) : stAK P n0 i s ⟨d, .makeFunc (.func f) fs cs, ty, pos, af, g⟩ K = K .q (s.put d (.fn f (fs.toList.map s.ev) (cs.toList.map s.ev))) := rfl
theorem stepA_len (x : Operand) (t : TypeId) : stAK P n0 i s ⟨d, .call { callee := .builtin .len, args := #[x], argTypes := #[t] }, ty, pos, af, g⟩ K = optAV s d (lenV P t (s.ev x)) K := optAV_at _ _ _ _
theorem stepA_call (f : Operand) (args : Array Operand) (ts : Array TypeId) : stAK P n0 i s ⟨d, .call { callee := .value f, args := args, argTypes := ts }, ty, pos, af, g⟩ K = callAW P (n0 + i) (s.ev f) args.toList d s K := rfl
theorem stepA_bs (t : TypeId) (len : Nat) (parts : Array (Nat × Operand)) : stAK P n0 i s ⟨d, .buildSlice t len parts, ty, pos, af, g⟩ K = optAV s d (bsA P (n0 + i) t len (parts.toList.map fun p => (p.1, s.ev p.2))) K := optAV_at _ _ _ _
theorem bsA_w (m t len : Nat) (parts : List (Nat × V)) : bsA P m t len parts = (elemT P t).bind fun e => (tapp P e).bind fun p => (zelem P e).bind fun v => (setAll p.1 (List.replicate len v) parts).bind fun xs => if len * p.1 ≤ 16777216 then some (.sl (bsTag len m e) p.1 xs) else none := rfl
end
end
theorem callA_use {P : Program} [Tb P] {m : Nat} {g : FuncId} {fs cs : List V} {args : List Operand} {d : Option Nat} {s : St} {K : Ka → St → Prop} {vs : List V} (r : V) (hg : Good P g vs r) (hvs : (fs ++ args.map s.ev ++ cs).map V.erase = vs) (h0 : ownFree (fs ++ cs) = true) (h1 : noRefs (fs ++ args.map s.ev ++ cs) = true)
    (h2 : r.noRef = true) (h3 : (ownFree (args.map s.ev) || r.flat) = true) (h5 : r.idb ≤ 1) (hK : K .q (St.put s d (r.shift m))) : callAW P m (.fn g fs cs) args d s K := .inl ⟨r, by rw [hvs]; exact hg, h0, h1, h2, h3, h5, hK⟩
theorem callA_z {P : Program} [Tb P] {m : Nat} {g : FuncId} {fs cs : List V} {args : List Operand} {d : Option Nat} {s s1 : St} {K : Ka → St → Prop} {vs : List V} (r : V) (hg : GoodZ P g vs s s1 r) (hvs : fs ++ args.map s.ev ++ cs = vs) (hK : K .z (s1.put d r)) : callAW P m (.fn g fs cs) args d s K := .inr ⟨s1, r, by rw [hvs]; exact hg, hK⟩
theorem drwE_tt {P : Program} [Tb P] {e : Nat → V} {b : Nat → Option (TypeId × List V)} {n : Nat} {h : Nat → V} {l : List Oper} {Q : Exit → St → Prop} (h1 : twoA l = true) (h2 : alC P n l Q l [] 0 ⟨e, b, n + l.length, h⟩) : drwE P (twoA l) l Q ⟨e, b, n, h⟩ := by rw [h1]; exact h2
theorem drwE_ff {P : Program} [Tb P] {l : List Oper} {Q : Exit → St → Prop} {s : St} (h1 : twoA l = false) (h2 : drwC P (l.map (·.dst)) l Q l [] s) : drwE P (twoA l) l Q s := by rw [h1]; exact h2
def pga := And.intro @wpS_seqD (And.intro @wpS_seqE (And.intro @wpS_drawD (And.intro @drwE_t (And.intro @drwE_f (And.intro @alC_nil (And.intro @alC_cons (And.intro @alN_at (And.intro @optAK_some (And.intro @optAV_some (And.intro @optAL_some (And.intro @stA_ref (And.intro @ldS_ref (And.intro @ldS_el (And.intro @stepA_alloc (And.intro @stepA_store (And.intro @stepA_load (And.intro @stepA_move (And.intro @stepA_assign (And.intro @stepA_fieldAddr (And.intro @stepA_field (And.intro @stepA_index (And.intro @stepA_indexAddr (And.intro @stepA_build (And.intro @stepA_binOp (And.intro @stepA_unOp (And.intro @stepA_convert (And.intro @stepA_extract (And.intro @stepA_makeFunc (And.intro @stepA_len (And.intro @stepA_call (And.intro @stepA_bs @bsA_w)))))))))))))))))))))))))))))))
end Go.Pg
end

section
/-
  Lists parted at a letter: what strings.Split, Cut and TrimSuffix come to at a separator of one octet.
-/
namespace Go.Pg
open Go

section
variable {α : Type} [DecidableEq α]
def spl (c : α) : List α → List (List α)
  | [] => [[]]
  | a :: l => if a = c then [] :: spl c l else match spl c l with | h :: t => (a :: h) :: t | [] => [[a]]
theorem spl_nil (c : α) : spl c ([] : List α) = [[]] := rfl
theorem spl_hit (c : α) (l : List α) : spl c (c :: l) = [] :: spl c l := by simp [spl]
theorem spl_cons (c : α) (l : List α) : ∃ h t, spl c l = h :: t := by
  cases l with
  | nil => exact ⟨_, _, rfl⟩
  | cons a l =>
    simp only [spl]
    split
    · exact ⟨_, _, rfl⟩
    · split <;> exact ⟨_, _, rfl⟩
theorem spl_miss (c a : α) (l : List α) (h : a ≠ c) {x : List α} {t : List (List α)} (hl : spl c l = x :: t) : spl c (a :: l) = (a :: x) :: t := by
  simp [spl, h, hl]
theorem spl_mid (c : α) : ∀ (a b : List α), spl c (a ++ c :: b) = spl c a ++ spl c b := by
  intro a
  induction a with
  | nil => intro b; simp [spl_hit, spl_nil]
  | cons x a ih =>
    intro b
    by_cases hx : x = c
    · subst hx; rw [List.cons_append, spl_hit, spl_hit, ih]; rfl
    · obtain ⟨h, t, e⟩ := spl_cons c a
      rw [List.cons_append, spl_miss c x _ hx (show spl c (a ++ c :: b) = h :: (t ++ spl c b) by rw [ih, e]; rfl), spl_miss c x a hx e]
      rfl
theorem spl_none (c : α) (l : List α) (h : ∀ x ∈ l, x ≠ c) : spl c l = [l] := by
  induction l with
  | nil => rfl
  | cons a l ih => exact spl_miss c a l (h a (by simp)) (ih fun x hx => h x (by simp [hx]))
theorem spl_at (c : α) (a b : List α) (h : ∀ x ∈ a, x ≠ c) : spl c (a ++ c :: b) = a :: spl c b := by rw [spl_mid, spl_none c a h]; rfl
theorem spl_snoc (c : α) (l : List α) : spl c (l ++ [c]) = spl c l ++ [[]] := spl_mid c l []
/-- One letter more. -/
theorem spl_one (c a : α) (h : a ≠ c) : ∀ (l : List α) (ps : List (List α)) (w : List α), spl c l = ps ++ [w] → spl c (l ++ [a]) = ps ++ [w ++ [a]] := by
  intro l
  induction l with
  | nil =>
    intro ps w e
    rw [spl_nil] at e
    cases ps with
    | nil => simp at e; subst e; simp [spl_none c [a] (by simpa using h)]
    | cons p ps => simp at e
  | cons x l ih =>
    intro ps w e
    obtain ⟨y, t, ey⟩ := spl_cons c l
    by_cases hx : x = c
    · subst hx
      rw [spl_hit] at e
      rw [List.cons_append, spl_hit]
      cases ps with
      | nil => rw [ey] at e; simp at e
      | cons p ps =>
        simp only [List.cons_append, List.cons.injEq] at e
        rw [ih ps w e.2, e.1]; rfl
    · rw [spl_miss c x l hx ey] at e
      cases ps with
      | nil =>
        simp only [List.nil_append, List.cons.injEq] at e
        obtain ⟨rfl, rfl⟩ := e
        have := ih [] y (by rw [ey]; rfl)
        rw [List.cons_append, spl_miss c x _ hx this]
        rfl
      | cons p ps =>
        simp only [List.cons_append, List.cons.injEq] at e
        obtain ⟨rfl, rfl⟩ := e
        have := ih (y :: ps) w (by rw [ey]; rfl)
        rw [List.cons_append, spl_miss c x _ hx this]
        rfl
theorem spl_last (c : α) (l : List α) : ∃ ps w, spl c l = ps ++ [w] := by
  obtain ⟨h, t, e⟩ := spl_cons c l
  rcases List.eq_nil_or_concat (spl c l) with h1 | ⟨ps, w, h1⟩
  · rw [h1] at e; cases e
  · exact ⟨ps, w, by rw [h1, List.concat_eq_append]⟩
theorem spl_mem (c : α) : ∀ (l : List α) (p : List α), p ∈ spl c l → ∀ x ∈ p, x ∈ l ∧ x ≠ c := by
  intro l
  induction l with
  | nil => intro p hp; simp [spl_nil] at hp; subst hp; intro x hx; cases hx
  | cons a l ih =>
    intro p hp x hx
    by_cases ha : a = c
    · subst ha
      rw [spl_hit] at hp
      rcases List.mem_cons.1 hp with rfl | hp
      · cases hx
      · have := ih p hp x hx; exact ⟨by simp [this.1], this.2⟩
    · obtain ⟨y, t, ey⟩ := spl_cons c l
      rw [spl_miss c a l ha ey] at hp
      rcases List.mem_cons.1 hp with rfl | hp
      · rcases List.mem_cons.1 hx with rfl | hx
        · exact ⟨by simp, ha⟩
        · have := ih y (by rw [ey]; simp) x hx; exact ⟨by simp [this.1], this.2⟩
      · have := ih p (by rw [ey]; simp [hp]) x hx; exact ⟨by simp [this.1], this.2⟩
theorem spl_len (c : α) : ∀ (l : List α), (spl c l).length ≤ l.length + 1 := by
  intro l
  induction l with
  | nil => simp [spl_nil]
  | cons a l ih =>
    obtain ⟨y, t, ey⟩ := spl_cons c l
    by_cases ha : a = c
    · subst ha; rw [spl_hit]; simp; omega
    · rw [spl_miss c a l ha ey]; rw [ey] at ih; simp at ih ⊢; omega
theorem spl_plen (c : α) : ∀ (l : List α) (p : List α), p ∈ spl c l → p.length ≤ l.length := by
  intro l
  induction l with
  | nil => intro p hp; simp [spl_nil] at hp; subst hp; simp
  | cons a l ih =>
    intro p hp
    obtain ⟨y, t, ey⟩ := spl_cons c l
    by_cases ha : a = c
    · subst ha
      rw [spl_hit] at hp
      rcases List.mem_cons.1 hp with rfl | hp
      · simp
      · have := ih p hp; simp; omega
    · rw [spl_miss c a l ha ey] at hp
      rcases List.mem_cons.1 hp with rfl | hp
      · have := ih y (by rw [ey]; simp); simp; omega
      · have := ih p (by rw [ey]; simp [hp]); simp; omega
end

theorem spl_map {α β : Type} [DecidableEq α] [DecidableEq β] (f : α → β) (c : α) (l : List α) (hf : ∀ x ∈ l, f x = f c → x = c) : spl (f c) (l.map f) = (spl c l).map (List.map f) := by
  induction l with
  | nil => rfl
  | cons a l ih =>
    have ih := ih fun x hx => hf x (by simp [hx])
    obtain ⟨y, t, ey⟩ := spl_cons c l
    by_cases ha : a = c
    · subst ha
      rw [List.map_cons, spl_hit, spl_hit, ih]; rfl
    · have hfa : f a ≠ f c := fun h => ha (hf a (by simp) h)
      rw [List.map_cons, spl_miss (f c) (f a) _ hfa (by rw [ih, ey]; rfl), spl_miss c a l ha ey]; rfl

/-- Where a letter stands first. -/
theorem idx1 (c : UInt8) : ∀ u : List UInt8, (Lib.index u [c] = -1 ∧ ∀ x ∈ u, x ≠ c) ∨ ∃ a b, u = a ++ c :: b ∧ (∀ x ∈ a, x ≠ c) ∧ Lib.index u [c] = (a.length : Nat) := by
  intro u
  induction u with
  | nil => exact .inl ⟨rfl, fun x hx => by cases hx⟩
  | cons x u ih =>
    by_cases hx : x = c
    · subst hx
      refine .inr ⟨[], u, rfl, fun y hy => (by cases hy), ?_⟩
      unfold Lib.index
      have hp : [x].isPrefixOf (x :: u) = true := by
        show (x == x && [].isPrefixOf u) = true
        simp
      rw [hp]; rfl
    · have hp : [c].isPrefixOf (x :: u) = false := by
        show (c == x && [].isPrefixOf u) = false
        rw [beq_eq_false_iff_ne.2 (Ne.symm hx)]; rfl
      rcases ih with ⟨h1, h2⟩ | ⟨a, b, rfl, h2, h3⟩
      · refine .inl ⟨?_, fun y hy => ?_⟩
        · unfold Lib.index
          rw [hp, h1]; rfl
        · rcases List.mem_cons.1 hy with rfl | hy
          · exact hx
          · exact h2 y hy
      · refine .inr ⟨x :: a, b, rfl, fun y hy => ?_, ?_⟩
        · rcases List.mem_cons.1 hy with rfl | hy
          · exact hx
          · exact h2 y hy
        · unfold Lib.index
          rw [hp, h3]
          have : ¬ ((a.length : Int) == -1) = true := by rw [beq_iff_eq]; omega
          rw [if_neg (by simp), if_neg this]
          simp
theorem splitK_one (c : UInt8) : ∀ (k : Nat) (u : List UInt8), Lib.count u [c] = k → Lib.splitK [c] 0 k u = spl c u := by
  intro k
  induction k with
  | zero =>
    intro u h
    rcases idx1 c u with ⟨h1, h2⟩ | ⟨a, b, rfl, h2, h3⟩
    · rw [spl_none c u h2]; rfl
    · rw [Lib.count_hit (by simp) h3] at h; omega
  | succ k ih =>
    intro u h
    rcases idx1 c u with ⟨h1, h2⟩ | ⟨a, b, rfl, h2, h3⟩
    · rw [Lib.count_miss h1] at h; omega
    · rw [Lib.count_hit (by simp) h3] at h
      have hd : (a ++ c :: b).drop (a.length + [c].length) = b := by simp
      rw [hd] at h
      have := ih b (by omega)
      unfold Lib.splitK
      rw [h3]
      have hm : ¬ (((a.length : Nat) : Int) == -1) = true := by rw [beq_iff_eq]; omega
      rw [if_neg hm, Int.toNat_natCast, Nat.add_zero, hd, this, spl_at c a b h2]
      simp
theorem sB_data (l : List Nat) : (sB l).data.toList = l.map UInt8.ofNat := by simp [sB]
theorem ofNat_inj {a b : Nat} (ha : a < 256) (hb : b < 256) (h : UInt8.ofNat a = UInt8.ofNat b) : a = b := by
  have := congrArg UInt8.toNat h
  rw [UInt8.toNat_ofNat', UInt8.toNat_ofNat'] at this
  omega
theorem split_sB (l : List Nat) (c : Nat) (ho : oct l) (hc : c < 256) : Lib.splitB (sB [c]) 0 (Lib.countB (sB l) (sB [c])) (sB l) = (spl c l).map sB := by
  have h1 := Lib.splitB_data (sB [c]) 0 (Lib.countB (sB l) (sB [c])) (sB l)
  rw [sB_data, sB_data] at h1
  have h2 : Lib.countB (sB l) (sB [c]) = Lib.count (l.map UInt8.ofNat) [UInt8.ofNat c] := by
    unfold Lib.countB
    rw [sB_data, sB_data]; rfl
  have h3 : Lib.splitK ([c].map UInt8.ofNat) 0 (Lib.countB (sB l) (sB [c])) (l.map UInt8.ofNat) = spl (UInt8.ofNat c) (l.map UInt8.ofNat) := splitK_one _ _ _ h2.symm
  rw [h3, spl_map UInt8.ofNat c l (fun x hx h => ofNat_inj (ho x hx) hc h)] at h1
  have h4 : ((spl c l).map sB).map (fun z : ByteArray => z.data.toList) = (spl c l).map (List.map UInt8.ofNat) := by
    rw [List.map_map]
    refine List.map_congr_left fun x _ => ?_
    exact sB_data x
  rw [← h4] at h1
  refine List.map_inj_right (f := fun z : ByteArray => z.data.toList) ?_ |>.1 h1
  intro x y h
  exact ByteArray.ext (Array.ext' h)
/-- What stands before a letter. -/
def bef (c : Nat) (l : List Nat) : List Nat := l.takeWhile (· != c)
theorem bef_none (c : Nat) (l : List Nat) (h : ∀ x ∈ l, x ≠ c) : bef c l = l := by
  induction l with
  | nil => rfl
  | cons a l ih =>
    have := h a (by simp)
    simp only [bef, List.takeWhile_cons]
    rw [if_pos (by simpa using this)]
    congr 1
    exact ih fun x hx => h x (by simp [hx])
theorem bef_at (c : Nat) (a b : List Nat) (h : ∀ x ∈ a, x ≠ c) : bef c (a ++ c :: b) = a := by
  induction a with
  | nil => simp [bef]
  | cons x a ih =>
    have := h x (by simp)
    simp only [bef, List.cons_append, List.takeWhile_cons]
    rw [if_pos (by simpa using this)]
    congr 1
    exact ih fun y hy => h y (by simp [hy])
theorem cut_sB (l : List Nat) (c : Nat) (ho : oct l) (hc : c < 256) : (⟨(Lib.cut (sB l).data.toList (sB [c]).data.toList).1.toArray⟩ : ByteArray) = sB (bef c l) := by
  rw [sB_data, sB_data]
  unfold Lib.cut
  rcases idx1 (UInt8.ofNat c) (l.map UInt8.ofNat) with ⟨h1, h2⟩ | ⟨a, b, h1, h2, h3⟩
  · rw [show ([c].map UInt8.ofNat) = [UInt8.ofNat c] from rfl, h1, if_neg (by omega)]
    have : ∀ x ∈ l, x ≠ c := fun x hx e => h2 _ (List.mem_map.2 ⟨x, hx, rfl⟩) (by rw [e])
    rw [bef_none c l this]
    rfl
  · rw [show ([c].map UInt8.ofNat) = [UInt8.ofNat c] from rfl, h3, if_pos (by omega)]
    simp only [Int.toNat_natCast]
    have e1 : l.map UInt8.ofNat = a ++ UInt8.ofNat c :: b := h1
    obtain ⟨l1, l2, rfl, e2, e3⟩ := List.map_eq_append_iff.1 e1
    obtain ⟨y, l3, rfl, e4, e5⟩ := List.map_eq_cons_iff.1 e3
    have hy : y = c := ofNat_inj (ho y (by simp)) hc e4
    subst hy
    have hne : ∀ x ∈ l1, x ≠ y := by
      intro x hx e
      subst e
      exact h2 (UInt8.ofNat x) (by rw [← e2]; exact List.mem_map.2 ⟨x, hx, rfl⟩) rfl
    rw [bef_at y l1 l3 hne, h1, List.take_left, ← e2]
    rfl
/-- A last letter struck. -/
def trm (c : Nat) (l : List Nat) : List Nat := if l.getLast? = some c then l.dropLast else l
theorem trim_sB (l : List Nat) (c : Nat) (ho : oct l) (hc : c < 256) : (⟨(Lib.trimSuffix (sB l).data.toList (sB [c]).data.toList).toArray⟩ : ByteArray) = sB (trm c l) := by
  rw [sB_data, sB_data]
  unfold Lib.trimSuffix Lib.hasSuffix trm
  have key : [c].map UInt8.ofNat = [UInt8.ofNat c] := rfl
  rw [key]
  rcases List.eq_nil_or_concat l with rfl | ⟨L, b, rfl⟩
  · rfl
  · rw [List.concat_eq_append]
    have hb : b < 256 := ho b (by simp)
    have e1 : (L ++ [b]).getLast? = some b := by simp
    have e2 : ([UInt8.ofNat c].isSuffixOf ((L ++ [b]).map UInt8.ofNat) = true) ↔ b = c := by
      rw [List.isSuffixOf_iff_suffix, List.map_append]
      constructor
      · rintro ⟨t, ht⟩
        have := List.append_inj_right' ht (by simp)
        simp only [List.map_cons, List.map_nil, List.cons.injEq, and_true] at this
        exact (ofNat_inj hc hb this).symm
      · rintro rfl
        exact ⟨_, rfl⟩
    rw [e1]
    by_cases hbc : b = c
    · rw [if_pos (e2.2 hbc), if_pos (by rw [hbc])]
      simp [sB]
    · rw [if_neg (fun h => hbc (e2.1 h)), if_neg (by simpa using hbc)]
      simp [sB]
end Go.Pg
end

section
/-
  Lines and fields: plain laws.
-/
namespace Go.Pg
open Go

/-- The last piece struck if it is empty. -/
def dropE (xs : List (List Nat)) : List (List Nat) := if xs.getLast? = some [] then xs.dropLast else xs
theorem dropE_snoc (ps : List (List Nat)) (w : List Nat) : dropE (ps ++ [w]) = if w = [] then ps else ps ++ [w] := by
  unfold dropE
  by_cases h : w = []
  · subst h; simp
  · simp [h]
theorem lines_eq (c : Nat) (l : List Nat) (h : l ≠ []) : spl c (trm c l) = dropE (spl c l) := by
  rcases List.eq_nil_or_concat l with rfl | ⟨L, b, rfl⟩
  · exact absurd rfl h
  · rw [List.concat_eq_append]
    unfold trm
    by_cases hb : b = c
    · subst hb
      rw [if_pos (by simp), List.dropLast_concat, spl_snoc, dropE_snoc, if_pos rfl]
    · rw [if_neg (by simpa using hb)]
      obtain ⟨ps, w, e⟩ := spl_last c L
      rw [spl_one c b hb L ps w e, dropE_snoc, if_neg (by simp)]
def nonE (w : List Nat) : Bool := !w.isEmpty
theorem nonE_ne (w : List Nat) : nonE w = decide (w ≠ []) := by cases w <;> simp [nonE]
/-- A line's fields. -/
def fld (l : List Nat) : List (List Nat) := (spl 32 (bef 35 l)).filter nonE
theorem bef_len (c : Nat) (l : List Nat) : (bef c l).length ≤ l.length := by
  unfold bef
  induction l with
  | nil => simp
  | cons a l ih =>
    rw [List.takeWhile_cons]
    split
    · simp; omega
    · simp
theorem bef_mem (c : Nat) (l : List Nat) : ∀ x ∈ bef c l, x ∈ l ∧ x ≠ c := by
  unfold bef
  induction l with
  | nil => intro x hx; cases hx
  | cons a l ih =>
    intro x hx
    rw [List.takeWhile_cons] at hx
    split at hx
    · rename_i ha
      rcases List.mem_cons.1 hx with rfl | hx
      · exact ⟨by simp, by simpa using ha⟩
      · have := ih x hx; exact ⟨by simp [this.1], this.2⟩
    · cases hx
/-- How far it goes. -/
theorem bef_take (c : Nat) (l : List Nat) : bef c l = l.take (bef c l).length ∧ ((bef c l).length < l.length → l.getD (bef c l).length 0 = c) := by
  unfold bef
  induction l with
  | nil => simp
  | cons a l ih =>
    rw [List.takeWhile_cons]
    split
    · rename_i ha
      refine ⟨?_, fun h => ?_⟩
      · rw [List.length_cons, List.take_succ_cons, ← ih.1]
      · have := ih.2 (by simpa using h)
        simpa [List.getD] using this
    · rename_i ha
      have : a = c := by simpa using ha
      simp [this]
/-- Words between blanks. -/
theorem fld_word (s b w : List Nat) (hs : ∀ x ∈ s, x ≠ 35) (hb : ∀ x ∈ b, x = 32) (hb0 : b ≠ []) (hw : ∀ x ∈ w, x ≠ 32 ∧ x ≠ 35) (hw0 : w ≠ []) : fld (s ++ b ++ w) = fld s ++ [w] := by
  have h1 : ∀ x ∈ s ++ b ++ w, x ≠ 35 := by
    intro x hx
    simp only [List.mem_append] at hx
    rcases hx with (hx | hx) | hx
    · exact hs x hx
    · rw [hb x hx]; decide
    · exact (hw x hx).2
  unfold fld
  rw [bef_none 35 _ h1, bef_none 35 s hs]
  obtain ⟨y, b', rfl⟩ : ∃ y b', b = y :: b' := by cases b with | nil => exact absurd rfl hb0 | cons y b' => exact ⟨y, b', rfl⟩
  have hy : y = 32 := hb y (by simp)
  subst hy
  rw [List.append_assoc, List.cons_append, spl_mid, List.filter_append]
  congr 1
  have hb' : ∀ x ∈ b', x = 32 := fun x hx => hb x (by simp [hx])
  clear hb hb0 h1
  induction b' with
  | nil =>
    rw [List.nil_append, spl_none 32 w (fun x hx => (hw x hx).1)]
    simp [nonE, hw0]
  | cons z b' ih =>
    have hz : z = 32 := hb' z (by simp)
    subst hz
    rw [List.cons_append, spl_hit, List.filter_cons]
    have : nonE [] = false := rfl
    rw [this, if_neg (by simp)]
    exact ih fun x hx => hb' x (by simp [hx])
theorem fld_first (b w : List Nat) (hb : ∀ x ∈ b, x = 32) (hw : ∀ x ∈ w, x ≠ 32 ∧ x ≠ 35) (hw0 : w ≠ []) : fld (b ++ w) = [w] := by
  cases b with
  | nil =>
    unfold fld
    rw [List.nil_append, bef_none 35 w (fun x hx => (hw x hx).2), spl_none 32 w (fun x hx => (hw x hx).1)]
    simp [nonE, hw0]
  | cons y b =>
    have := fld_word [] (y :: b) w (fun x hx => by cases hx) hb (by simp) hw hw0
    rw [List.nil_append] at this
    rw [this]
    simp [fld, bef, spl, nonE]
theorem fld_comment (s t : List Nat) (hs : ∀ x ∈ s, x ≠ 35) : fld (s ++ 35 :: t) = fld s := by
  unfold fld
  rw [bef_at 35 s t hs, bef_none 35 s hs]
end Go.Pg
end

section
/-
  The pure layer: words joined by blanks (plain).
-/
namespace Go.Pg
open Go

def jt (l : List (List Nat)) : List Nat := (l.map (32 :: ·)).flatten
/-- Words joined by blanks. -/
def jn : List (List Nat) → List Nat
  | [] => []
  | a :: l => a ++ jt l
theorem jt_nil : jt [] = [] := rfl
theorem jt_cons (w : List Nat) (l : List (List Nat)) : jt (w :: l) = 32 :: (w ++ jt l) := by simp [jt]
theorem jt_app (a b : List (List Nat)) : jt (a ++ b) = jt a ++ jt b := by simp [jt]
theorem jn_cons (w : List Nat) (l : List (List Nat)) : jn (w :: l) = w ++ jt l := rfl
theorem jn_app {a : List (List Nat)} (h : a ≠ []) (b : List (List Nat)) : jn (a ++ b) = jn a ++ jt b := by
  cases a with
  | nil => exact absurd rfl h
  | cons x xs => simp [jn, jt_app]
theorem jn_snoc {a : List (List Nat)} (h : a ≠ []) (w : List Nat) : jn (a ++ [w]) = jn a ++ 32 :: w := by rw [jn_app h, jt_cons]; simp [jt]
theorem jn_jn {a : List (List Nat)} (h : a ≠ []) (b : List (List Nat)) : jn (jn a :: b) = jn (a ++ b) := by rw [jn_app h]; rfl
/-- The words' octets, and one more for each. -/
def tot (l : List (List Nat)) : Nat := (l.map fun w => w.length + 1).sum
theorem tot_nil : tot [] = 0 := rfl
theorem tot_cons (w : List Nat) (l : List (List Nat)) : tot (w :: l) = w.length + 1 + tot l := by simp [tot]
theorem tot_app (a b : List (List Nat)) : tot (a ++ b) = tot a + tot b := by simp [tot]
theorem len_tot (l : List (List Nat)) : l.length ≤ tot l := by
  induction l with
  | nil => exact Nat.le_refl _
  | cons w l ih => rw [tot_cons, List.length_cons]; omega
theorem jt_len (l : List (List Nat)) : (jt l).length = tot l := by
  induction l with
  | nil => rfl
  | cons w l ih => rw [jt_cons, tot_cons, ← ih]; simp; omega
theorem jn_len (l : List (List Nat)) : (jn l).length ≤ tot l := by
  cases l with
  | nil => exact Nat.le_refl _
  | cons w l => rw [jn_cons, tot_cons, ← jt_len]; simp <;> omega
theorem tot_take (l : List (List Nat)) (i : Nat) : tot (l.take i) ≤ tot l := by
  have := congrArg tot (List.take_append_drop i l)
  rw [tot_app] at this
  omega
theorem getD_tot (l : List (List Nat)) (i : Nat) : (l.getD i []).length ≤ tot l := by
  induction l generalizing i with
  | nil => simp [List.getD]
  | cons w l ih =>
    cases i with
    | zero => rw [tot_cons]; show w.length ≤ _; omega
    | succ i => have := ih i; simp only [List.getD_cons_succ, tot_cons]; omega
theorem tot_bound {l : List (List Nat)} {n : Nat} (h : ∀ w ∈ l, w.length ≤ n) : tot l ≤ l.length * (n + 1) := by
  induction l with
  | nil => simp [tot_nil]
  | cons w l ih =>
    have h1 := h w (by simp)
    have h2 := ih fun x hx => h x (by simp [hx])
    rw [tot_cons, List.length_cons, Nat.add_mul]
    omega
theorem oct_jt {l : List (List Nat)} (h : ∀ w ∈ l, oct w) : oct (jt l) := by
  induction l with
  | nil => exact oct_nil
  | cons w l ih => rw [jt_cons]; exact oct_cons (by omega) (oct_app (h w (by simp)) (ih fun x hx => h x (by simp [hx])))
theorem oct_jn {l : List (List Nat)} (h : ∀ w ∈ l, oct w) : oct (jn l) := by
  cases l with
  | nil => exact oct_nil
  | cons w l => exact oct_app (h w (by simp)) (oct_jt fun x hx => h x (by simp [hx]))
theorem take_next (l : List (List Nat)) (i : Nat) (h : i < l.length) : l.take (i + 1) = l.take i ++ [l.getD i []] := by
  rw [List.take_succ_eq_append_getElem h]; simp [List.getD, h]
theorem jn_take {l : List (List Nat)} {i : Nat} (h : i < l.length) (h0 : 0 < i) : jn (l.take (i + 1)) = jn (l.take i) ++ 32 :: l.getD i [] := by
  rw [take_next l i h, jn_snoc]
  intro e
  have h2 : (l.take i).length = 0 := by rw [e]; rfl
  rw [List.length_take] at h2
  omega
theorem jn_take1 {l : List (List Nat)} (h : 0 < l.length) : jn (l.take 1) = l.getD 0 [] := by
  cases l with
  | nil => simp at h
  | cons w l => simp [jn, jt, List.getD]
theorem oct_getD {l : List (List Nat)} (h : ∀ w ∈ l, oct w) (i : Nat) : oct (l.getD i []) := by
  rcases Nat.lt_or_ge i l.length with hi | hi
  · have : l.getD i [] = l[i] := by simp [List.getD, hi]
    rw [this]; exact h _ (List.getElem_mem hi)
  · have : l.getD i [] = [] := by simp [List.getD, hi]
    rw [this]; exact oct_nil
theorem join_sB (l : List (List Nat)) : (⟨(Lib.join ((l.map sB).map (·.data.toList)) (sB [32]).data.toList).toArray⟩ : ByteArray) = sB (jn l) := by
  have hd : ∀ w : List Nat, (sB w).data.toList = w.map UInt8.ofNat := fun w => by simp [sB]
  have ht : ∀ l : List (List Nat), Lib.joinTail [32] ((l.map sB).map (·.data.toList)) = (jt l).map UInt8.ofNat := by
    intro l
    induction l with
    | nil => rfl
    | cons w l ih =>
      simp only [Lib.joinTail, List.map_cons, List.flatten_cons, jt_cons, List.map_append] at ih ⊢
      rw [ih, hd]
      rfl
  have h32 : (sB [32]).data.toList = [32] := rfl
  rw [h32]
  apply ByteArray.ext
  apply Array.ext'
  cases l with
  | nil => rfl
  | cons w l =>
    simp only [List.map_cons, Lib.join_cons]
    have := ht l
    simp only [List.map_map] at this
    simp only [List.map_map, this, hd]
    simp [sB, jn]
theorem spl_jn {l : List (List Nat)} (hl : l ≠ []) (h : ∀ w ∈ l, ∀ x ∈ w, x ≠ 32) : spl 32 (jn l) = l := by
  induction l with
  | nil => exact absurd rfl hl
  | cons w l ih =>
    cases l with
    | nil => rw [jn_cons, jt_nil, List.append_nil]; exact spl_none _ _ (h w (by simp))
    | cons v l =>
      have : jn (w :: v :: l) = w ++ 32 :: jn (v :: l) := by rw [jn_cons, jt_cons, jn_cons]
      rw [this, spl_at _ _ _ (h w (by simp)), ih (by simp) fun x hx => h x (by simp [hx])]
end Go.Pg
end

section
/-
  Scripts: short names for values; operations and responses as plain data.
-/
namespace Go.Proofs.YtjiolbcdfgclaaaGreatDoor
open Go Go.Pg
set_option maxRecDepth 100000
set_option linter.unusedSimpArgs false
set_option linter.unusedVariables false

abbrev vi (n : Int) : V := .c (.int .i64 n)
abbrev vu (n : Int) : V := .c (.int .u64 n)
abbrev vb (b : Bool) : V := .c (.bool b)
abbrev vs (l : List Nat) : V := .c (.string (sB l))
abbrev nls : V := .c (.slice none 0 0)
abbrev fzs (l : List (List Nat)) : V := .sl .fz 1 (sv l)
abbrev fzb (l : List Nat) : V := .sl .fz 1 (bv l)
/-- Numbers as cells. -/
def iv (l : List Int) : List V := l.map fun n => V.c (.int .i64 n)
theorem iv_len (l : List Int) : (iv l).length = l.length := by simp [iv]
theorem iv_get (l : List Int) (i : Nat) (h : i < l.length) : (iv l)[i]? = some (.c (.int .i64 (l.getD i 0))) := by simp [iv, h, List.getD]
theorem iv_app (a b : List Int) : iv a ++ iv b = iv (a ++ b) := by simp [iv]
abbrev fzi (l : List Int) : V := .sl .fz 1 (iv l)
/-- Items as cells. -/
def itv (l : List (List Nat × Int)) : List V := l.map fun x => V.agg [vs x.1, vi x.2]
theorem itv_len (l : List (List Nat × Int)) : (itv l).length = l.length := by simp [itv]
theorem itv_get (l : List (List Nat × Int)) (i : Nat) (h : i < l.length) : (itv l)[i]? = some (.agg [vs (l.getD i ([], 0)).1, vi (l.getD i ([], 0)).2]) := by simp [itv, h, List.getD]
abbrev fzt (l : List (List Nat × Int)) : V := .sl .fz 2 (itv l)
theorem flat_itv (l : List (List Nat × Int)) : V.flatL (itv l) = true := by
  induction l with
  | nil => rfl
  | cons a l ih => simp only [itv, List.map_cons, V.flatL, V.flat] at ih ⊢; simpa using ih
/-- An empty string's own form. -/
theorem sB_nil : sB [] = ⟨#[]⟩ := rfl
theorem str_nil : (⟨#[]⟩ : ByteArray) = sB [] := rfl
theorem seq_nil (l : List Nat) : decide (sB l = sB []) = decide (l.length = 0) := by
  have : sB l = sB [] ↔ l.length = 0 := by
    constructor
    · intro h
      have := congrArg ByteArray.size h
      rw [sB_size, sB_size] at this
      simpa using this
    · intro h; rw [List.eq_nil_of_length_eq_zero h]
  exact decide_eq_decide.2 this
theorem seq_nl (l : List Nat) : decide (sB l = ⟨#[]⟩) = decide (l.length = 0) := seq_nil l
/-- An operation. -/
structure O where
  kind : Int
  name : List Nat
  other : List Nat
  names : List (List Nat)
  pk : Int
  pz : Int
  pd : Int
  ps : Int
  items : List (List Nat × Int)
  coins : List Nat
  exp : Int
  src : Int
  hnd : Int
  idx : Int
  cur : Int
  cnt : Int
  qk : Int
  qkey : List Nat
  qc : Int
  qn : Int
  qd : Int
  data : List Nat
/-- Its cells, the slices' as they are given. -/
abbrev opC (o : O) (nm it co da : V) : List V := [vi o.kind, vs o.name, vs o.other, nm, vi o.pk, vi o.pz, vi o.pd, vu o.ps, it, co, vi o.exp, vi o.src, vi o.hnd, vi o.idx, vi o.cur, vi o.cnt, vi o.qk, vs o.qkey, vi o.qc, vi o.qn, vi o.qd, da]
abbrev opF (o : O) : List V := opC o (fzs o.names) (fzt o.items) (fzb o.coins) (fzb o.data)
end Go.Proofs.YtjiolbcdfgclaaaGreatDoor
end

section
/-
  Names: octets' classes; IsName, IsKey, plain, of the program and of the reference.
-/
namespace Go.Proofs.YtjiolbcdfgclaaaGreatDoor
open Go Go.Pg
set_option maxRecDepth 10000
set_option linter.unusedSimpArgs false

theorem is9 : isStr Tryz.prog 9 = true := by kernel_rfl
theorem it5 : intT Tryz.prog 5 = some .u8 := by kernel_rfl
theorem it3 : intT Tryz.prog 3 = some .i64 := by kernel_rfl
theorem un3 : (Tryz.prog.underlying 3).isSome = true := by kernel_rfl
theorem un5 : (Tryz.prog.underlying 5).isSome = true := by kernel_rfl
theorem ib4 : isBoolT Tryz.prog 4 = true := by kernel_rfl

theorem ixs (l : List Nat) (k : IntKind) (n : Int) (ho : oct l) (h0 : 0 ≤ n) (h : n < l.length) : ixV Tryz.prog 9 (.c (.string (sB l))) (.c (.int k n)) = some (.c (.int .u8 (l.getD n.toNat 0 : Nat))) := by
  unfold ixV
  simp only
  rw [if_pos ⟨is9, h0, by rw [sB_size]; exact h⟩, sB_get ho]
theorem i64w (n : Int) (h : -9223372036854775808 ≤ n ∧ n ≤ 9223372036854775807) : IntKind.i64.wrap n = n := IntWalk.i64_in n h
theorem unNot (b : Bool) : unV .not (.c (.bool b)) = some (.c (.bool (!b))) := rfl

/-- From 'a' to 'b'. -/
def bt (c a b : Nat) : Bool := decide (a ≤ c) && decide (c ≤ b)
theorem dle (a b : Nat) : decide ((a : Int) ≤ (b : Int)) = decide (a ≤ b) := by
  by_cases h : a ≤ b
  · rw [decide_eq_true h, decide_eq_true (by omega)]
  · rw [decide_eq_false h, decide_eq_false (by omega)]

theorem good40 (c a b : Nat) : Pg.Good Tryz.prog 137 [.c (.int .u8 (c : Int)), .c (.int .u8 (a : Int)), .c (.int .u8 (b : Int))] (.c (.bool (bt c a b))) := by
  refine good_intro (drawW_ok mix) Tryz.func137 rfl Tryz.results137 rfl (by kernel_rfl) (Nat.le_of_ble_eq_true (by kernel_rfl)) ?_
  have e1 := dle a c
  have e2 := dle c b
  unfold bt
  cases h : decide (a ≤ c) <;> rw [h] at e1
  all_goals
    simp only [Tryz.f137, pgs, pgl, pgx, pgf, Nat.reduceEqDiff, reduceIte, e1, e2]
    refine ret_at [] _ (retV_one _ _ _) .nil ?_ ?_
    · simp only [pgs, pgl, pgx, pgf, Nat.reduceEqDiff, reduceIte]
    · simp only [pgs, pgl, pgx, pgf, Nat.reduceEqDiff, reduceIte]
theorem good38 (c : Nat) : Pg.Good Tryz.prog 186 [.c (.int .u8 (c : Int))] (.c (.bool (bt c 97 122))) := by
  refine good_intro (drawW_ok mix) Tryz.func186 rfl Tryz.results186 rfl (by kernel_rfl) (Nat.le_of_ble_eq_true (by kernel_rfl)) ?_
  have e1 : decide ((97 : Int) ≤ (c : Int)) = decide (97 ≤ c) := dle 97 c
  have e2 : decide ((c : Int) ≤ 122) = decide (c ≤ 122) := dle c 122
  unfold bt
  cases h : decide (97 ≤ c) <;> rw [h] at e1
  all_goals
    simp only [Tryz.f186, pgs, pgl, pgx, pgf, Nat.reduceEqDiff, reduceIte, e1, e2]
    refine ret_at [] _ (retV_one _ _ _) .nil ?_ ?_
    · simp only [pgs, pgl, pgx, pgf, Nat.reduceEqDiff, reduceIte]
    · simp only [pgs, pgl, pgx, pgf, Nat.reduceEqDiff, reduceIte]
theorem good39 (c : Nat) : Pg.Good Tryz.prog 188 [.c (.int .u8 (c : Int))] (.c (.bool (bt c 48 57))) := by
  refine good_intro (drawW_ok mix) Tryz.func188 rfl Tryz.results188 rfl (by kernel_rfl) (Nat.le_of_ble_eq_true (by kernel_rfl)) ?_
  have e1 : decide ((48 : Int) ≤ (c : Int)) = decide (48 ≤ c) := dle 48 c
  have e2 : decide ((c : Int) ≤ 57) = decide (c ≤ 57) := dle c 57
  unfold bt
  cases h : decide (48 ≤ c) <;> rw [h] at e1
  all_goals
    simp only [Tryz.f188, pgs, pgl, pgx, pgf, Nat.reduceEqDiff, reduceIte, e1, e2]
    refine ret_at [] _ (retV_one _ _ _) .nil ?_ ?_
    · simp only [pgs, pgl, pgx, pgf, Nat.reduceEqDiff, reduceIte]
    · simp only [pgs, pgl, pgx, pgf, Nat.reduceEqDiff, reduceIte]
theorem good45 (c : Nat) : Pg.Good Tryz.prog 187 [.c (.int .u8 (c : Int))] (.c (.bool (bt c 65 90))) := by
  refine good_intro (drawW_ok mix) Tryz.func187 rfl Tryz.results187 rfl (by kernel_rfl) (Nat.le_of_ble_eq_true (by kernel_rfl)) ?_
  have e1 : decide ((65 : Int) ≤ (c : Int)) = decide (65 ≤ c) := dle 65 c
  have e2 : decide ((c : Int) ≤ 90) = decide (c ≤ 90) := dle c 90
  unfold bt
  cases h : decide (65 ≤ c) <;> rw [h] at e1
  all_goals
    simp only [Tryz.f187, pgs, pgl, pgx, pgf, Nat.reduceEqDiff, reduceIte, e1, e2]
    refine ret_at [] _ (retV_one _ _ _) .nil ?_ ?_
    · simp only [pgs, pgl, pgx, pgf, Nat.reduceEqDiff, reduceIte]
    · simp only [pgs, pgl, pgx, pgf, Nat.reduceEqDiff, reduceIte]

def isKey (l : List Nat) : Bool := decide (1 ≤ l.length) && decide (l.length ≤ 32)
theorem good15 (l : List Nat) : Pg.Good Tryz.prog 133 [.c (.string (sB l))] (.c (.bool (isKey l))) := by
  refine good_intro (drawW_ok mix) Tryz.func133 rfl Tryz.results133 rfl (by kernel_rfl) (Nat.le_of_ble_eq_true (by kernel_rfl)) ?_
  have e1 : decide ((1 : Int) ≤ (l.length : Int)) = decide (1 ≤ l.length) := dle 1 _
  have e2 : decide ((l.length : Int) ≤ 32) = decide (l.length ≤ 32) := dle _ 32
  unfold isKey
  cases h : decide (1 ≤ l.length) <;> rw [h] at e1
  all_goals
    simp only [Tryz.f133, pgs, pgl, pgx, pgf, Nat.reduceEqDiff, reduceIte, is9, sB_size, e1, e2]
    refine ret_at [] _ (retV_one _ _ _) .nil ?_ ?_
    · simp only [pgs, pgl, pgx, pgf, Nat.reduceEqDiff, reduceIte]
    · simp only [pgs, pgl, pgx, pgf, Nat.reduceEqDiff, reduceIte]
theorem good18 (l : List Nat) : Pg.Good Tryz.prog 140 [.c (.string (sB l))] (.c (.bool (isKey l))) := by
  refine good_intro (drawW_ok mix) Tryz.func140 rfl Tryz.results140 rfl (by kernel_rfl) (Nat.le_of_ble_eq_true (by kernel_rfl)) ?_
  have e1 : decide ((1 : Int) ≤ (l.length : Int)) = decide (1 ≤ l.length) := dle 1 _
  have e2 : decide ((l.length : Int) ≤ 32) = decide (l.length ≤ 32) := dle _ 32
  unfold isKey
  cases h : decide (1 ≤ l.length) <;> rw [h] at e1
  all_goals
    simp only [Tryz.f140, pgs, pgl, pgx, pgf, Nat.reduceEqDiff, reduceIte, is9, sB_size, e1, e2]
    refine ret_at [] _ (retV_one _ _ _) .nil ?_ ?_
    · simp only [pgs, pgl, pgx, pgf, Nat.reduceEqDiff, reduceIte]
    · simp only [pgs, pgl, pgx, pgf, Nat.reduceEqDiff, reduceIte]
end Go.Proofs.YtjiolbcdfgclaaaGreatDoor
end
