/-
  Texts of this claim, merged: PgZT. Each bears its own remark.
-/
import Derived.Test.YtjiolbcdfgclaaaGreatB0
set_option linter.unusedVariables false
set_option linter.unusedSimpArgs false
set_option linter.unusedSectionVars false
section
/-
  The seat's types: what the walks ask of them (written by a program of mine off the dump's table of types).
-/
namespace Go.Proofs.YtjiolbcdfgclaaaGreat
open Go Go.Pg
set_option linter.defProp false
set_option maxRecDepth 10000

theorem ty_u2 : (Tryz.prog.underlying 2).isSome = true := by kernel_rfl
theorem ty_z2 : tsz Tryz.prog 2 = some 1 := by kernel_rfl
theorem ty_a2 : isAggT Tryz.prog 2 = some false := by kernel_rfl
theorem ty_i2 : intT Tryz.prog 2 = some .i64 := by kernel_rfl
theorem ty_s2 : isStr Tryz.prog 2 = false := by kernel_rfl
theorem ty_b2 : isBoolT Tryz.prog 2 = false := by kernel_rfl
theorem ty_e2 : elemT Tryz.prog 2 = none := by kernel_rfl
theorem ty_t2 : tapp Tryz.prog 2 = some (1, 8) := by kernel_rfl
theorem ty_c2 : tzc Tryz.prog 2 = some [.c (.int .i64 0)] := by kernel_rfl
theorem ty_y2 : zelem Tryz.prog 2 = some (.c (.int .i64 0)) := by kernel_rfl
theorem ty_u3 : (Tryz.prog.underlying 3).isSome = true := by kernel_rfl
theorem ty_z3 : tsz Tryz.prog 3 = some 1 := by kernel_rfl
theorem ty_a3 : isAggT Tryz.prog 3 = some false := by kernel_rfl
theorem ty_i3 : intT Tryz.prog 3 = some .i64 := by kernel_rfl
theorem ty_s3 : isStr Tryz.prog 3 = false := by kernel_rfl
theorem ty_b3 : isBoolT Tryz.prog 3 = false := by kernel_rfl
theorem ty_e3 : elemT Tryz.prog 3 = none := by kernel_rfl
theorem ty_t3 : tapp Tryz.prog 3 = some (1, 8) := by kernel_rfl
theorem ty_c3 : tzc Tryz.prog 3 = some [.c (.int .i64 0)] := by kernel_rfl
theorem ty_y3 : zelem Tryz.prog 3 = some (.c (.int .i64 0)) := by kernel_rfl
theorem ty_u4 : (Tryz.prog.underlying 4).isSome = true := by kernel_rfl
theorem ty_z4 : tsz Tryz.prog 4 = some 1 := by kernel_rfl
theorem ty_a4 : isAggT Tryz.prog 4 = some false := by kernel_rfl
theorem ty_i4 : intT Tryz.prog 4 = none := by kernel_rfl
theorem ty_s4 : isStr Tryz.prog 4 = false := by kernel_rfl
theorem ty_b4 : isBoolT Tryz.prog 4 = true := by kernel_rfl
theorem ty_e4 : elemT Tryz.prog 4 = none := by kernel_rfl
theorem ty_t4 : tapp Tryz.prog 4 = some (1, 1) := by kernel_rfl
theorem ty_c4 : tzc Tryz.prog 4 = some [.c (.bool false)] := by kernel_rfl
theorem ty_y4 : zelem Tryz.prog 4 = some (.c (.bool false)) := by kernel_rfl
theorem ty_u5 : (Tryz.prog.underlying 5).isSome = true := by kernel_rfl
theorem ty_z5 : tsz Tryz.prog 5 = some 1 := by kernel_rfl
theorem ty_a5 : isAggT Tryz.prog 5 = some false := by kernel_rfl
theorem ty_i5 : intT Tryz.prog 5 = some .u8 := by kernel_rfl
theorem ty_s5 : isStr Tryz.prog 5 = false := by kernel_rfl
theorem ty_b5 : isBoolT Tryz.prog 5 = false := by kernel_rfl
theorem ty_e5 : elemT Tryz.prog 5 = none := by kernel_rfl
theorem ty_t5 : tapp Tryz.prog 5 = some (1, 1) := by kernel_rfl
theorem ty_c5 : tzc Tryz.prog 5 = some [.c (.int .u8 0)] := by kernel_rfl
theorem ty_y5 : zelem Tryz.prog 5 = some (.c (.int .u8 0)) := by kernel_rfl
theorem ty_u6 : (Tryz.prog.underlying 6).isSome = true := by kernel_rfl
theorem ty_z6 : tsz Tryz.prog 6 = some 1 := by kernel_rfl
theorem ty_a6 : isAggT Tryz.prog 6 = some false := by kernel_rfl
theorem ty_i6 : intT Tryz.prog 6 = some .u8 := by kernel_rfl
theorem ty_s6 : isStr Tryz.prog 6 = false := by kernel_rfl
theorem ty_b6 : isBoolT Tryz.prog 6 = false := by kernel_rfl
theorem ty_e6 : elemT Tryz.prog 6 = none := by kernel_rfl
theorem ty_t6 : tapp Tryz.prog 6 = some (1, 1) := by kernel_rfl
theorem ty_c6 : tzc Tryz.prog 6 = some [.c (.int .u8 0)] := by kernel_rfl
theorem ty_y6 : zelem Tryz.prog 6 = some (.c (.int .u8 0)) := by kernel_rfl
theorem ty_u7 : (Tryz.prog.underlying 7).isSome = true := by kernel_rfl
theorem ty_z7 : tsz Tryz.prog 7 = some 4 := by kernel_rfl
theorem ty_a7 : isAggT Tryz.prog 7 = some true := by kernel_rfl
theorem ty_i7 : intT Tryz.prog 7 = none := by kernel_rfl
theorem ty_s7 : isStr Tryz.prog 7 = false := by kernel_rfl
theorem ty_b7 : isBoolT Tryz.prog 7 = false := by kernel_rfl
theorem ty_e7 : elemT Tryz.prog 7 = none := by kernel_rfl
theorem ty_f7_0 : fieldT Tryz.prog 7 0 = some (2, 0) := by kernel_rfl
theorem ty_f7_1 : fieldT Tryz.prog 7 1 = some (3, 1) := by kernel_rfl
theorem ty_f7_2 : fieldT Tryz.prog 7 2 = some (4, 2) := by kernel_rfl
theorem ty_f7_3 : fieldT Tryz.prog 7 3 = some (6, 3) := by kernel_rfl
theorem ty_pl7 : placesT Tryz.prog 7 = some [(0, 1), (1, 1), (2, 1), (3, 1)] := by kernel_rfl
theorem ty_eq7 : eqPl Tryz.prog 7 = some [(0, .n), (1, .n), (2, .b), (3, .n)] := by kernel_rfl
theorem ty_t7 : tapp Tryz.prog 7 = some (4, 24) := by kernel_rfl
theorem ty_c7 : tzc Tryz.prog 7 = some [.c (.int .i64 0), .c (.int .i64 0), .c (.bool false), .c (.int .u8 0)] := by kernel_rfl
theorem ty_y7 : zelem Tryz.prog 7 = some (.agg [.c (.int .i64 0), .c (.int .i64 0), .c (.bool false), .c (.int .u8 0)]) := by kernel_rfl
theorem ty_u9 : (Tryz.prog.underlying 9).isSome = true := by kernel_rfl
theorem ty_z9 : tsz Tryz.prog 9 = some 1 := by kernel_rfl
theorem ty_a9 : isAggT Tryz.prog 9 = some false := by kernel_rfl
theorem ty_i9 : intT Tryz.prog 9 = none := by kernel_rfl
theorem ty_s9 : isStr Tryz.prog 9 = true := by kernel_rfl
theorem ty_b9 : isBoolT Tryz.prog 9 = false := by kernel_rfl
theorem ty_e9 : elemT Tryz.prog 9 = none := by kernel_rfl
theorem ty_t9 : tapp Tryz.prog 9 = some (1, 16) := by kernel_rfl
theorem ty_c9 : tzc Tryz.prog 9 = some [.c (.string ⟨#[]⟩)] := by kernel_rfl
theorem ty_y9 : zelem Tryz.prog 9 = some (.c (.string ⟨#[]⟩)) := by kernel_rfl
theorem ty_u12 : (Tryz.prog.underlying 12).isSome = true := by kernel_rfl
theorem ty_z12 : tsz Tryz.prog 12 = some 1 := by kernel_rfl
theorem ty_a12 : isAggT Tryz.prog 12 = some false := by kernel_rfl
theorem ty_i12 : intT Tryz.prog 12 = some .u64 := by kernel_rfl
theorem ty_s12 : isStr Tryz.prog 12 = false := by kernel_rfl
theorem ty_b12 : isBoolT Tryz.prog 12 = false := by kernel_rfl
theorem ty_e12 : elemT Tryz.prog 12 = none := by kernel_rfl
theorem ty_t12 : tapp Tryz.prog 12 = some (1, 8) := by kernel_rfl
theorem ty_c12 : tzc Tryz.prog 12 = some [.c (.int .u64 0)] := by kernel_rfl
theorem ty_y12 : zelem Tryz.prog 12 = some (.c (.int .u64 0)) := by kernel_rfl
theorem ty_u13 : (Tryz.prog.underlying 13).isSome = true := by kernel_rfl
theorem ty_z13 : tsz Tryz.prog 13 = some 2 := by kernel_rfl
theorem ty_a13 : isAggT Tryz.prog 13 = some true := by kernel_rfl
theorem ty_i13 : intT Tryz.prog 13 = none := by kernel_rfl
theorem ty_s13 : isStr Tryz.prog 13 = false := by kernel_rfl
theorem ty_b13 : isBoolT Tryz.prog 13 = false := by kernel_rfl
theorem ty_e13 : elemT Tryz.prog 13 = none := by kernel_rfl
theorem ty_f13_0 : fieldT Tryz.prog 13 0 = some (9, 0) := by kernel_rfl
theorem ty_f13_1 : fieldT Tryz.prog 13 1 = some (12, 1) := by kernel_rfl
theorem ty_pl13 : placesT Tryz.prog 13 = some [(0, 1), (1, 1)] := by kernel_rfl
theorem ty_t13 : tapp Tryz.prog 13 = some (2, 24) := by kernel_rfl
theorem ty_c13 : tzc Tryz.prog 13 = some [.c (.string ⟨#[]⟩), .c (.int .u64 0)] := by kernel_rfl
theorem ty_y13 : zelem Tryz.prog 13 = some (.agg [.c (.string ⟨#[]⟩), .c (.int .u64 0)]) := by kernel_rfl
theorem ty_u16 : (Tryz.prog.underlying 16).isSome = true := by kernel_rfl
theorem ty_z16 : tsz Tryz.prog 16 = some 1 := by kernel_rfl
theorem ty_a16 : isAggT Tryz.prog 16 = some false := by kernel_rfl
theorem ty_i16 : intT Tryz.prog 16 = none := by kernel_rfl
theorem ty_s16 : isStr Tryz.prog 16 = false := by kernel_rfl
theorem ty_b16 : isBoolT Tryz.prog 16 = false := by kernel_rfl
theorem ty_e16 : elemT Tryz.prog 16 = none := by kernel_rfl
theorem ty_p16 : isPtr Tryz.prog 16 = true := by kernel_rfl
theorem ty_q16 : ptrTo Tryz.prog 16 = some 181 := by kernel_rfl
theorem ty_t16 : tapp Tryz.prog 16 = some (1, 8) := by kernel_rfl
theorem ty_c16 : tzc Tryz.prog 16 = some [.c (.pointer none)] := by kernel_rfl
theorem ty_y16 : zelem Tryz.prog 16 = some (.c (.pointer none)) := by kernel_rfl
theorem ty_u17 : (Tryz.prog.underlying 17).isSome = true := by kernel_rfl
theorem ty_z17 : tsz Tryz.prog 17 = some 1 := by kernel_rfl
theorem ty_a17 : isAggT Tryz.prog 17 = some false := by kernel_rfl
theorem ty_i17 : intT Tryz.prog 17 = none := by kernel_rfl
theorem ty_s17 : isStr Tryz.prog 17 = false := by kernel_rfl
theorem ty_b17 : isBoolT Tryz.prog 17 = false := by kernel_rfl
theorem ty_e17 : elemT Tryz.prog 17 = none := by kernel_rfl
theorem ty_p17 : isPtr Tryz.prog 17 = true := by kernel_rfl
theorem ty_q17 : ptrTo Tryz.prog 17 = some 190 := by kernel_rfl
theorem ty_t17 : tapp Tryz.prog 17 = some (1, 8) := by kernel_rfl
theorem ty_c17 : tzc Tryz.prog 17 = some [.c (.pointer none)] := by kernel_rfl
theorem ty_y17 : zelem Tryz.prog 17 = some (.c (.pointer none)) := by kernel_rfl
theorem ty_u18 : (Tryz.prog.underlying 18).isSome = true := by kernel_rfl
theorem ty_z18 : tsz Tryz.prog 18 = some 1 := by kernel_rfl
theorem ty_a18 : isAggT Tryz.prog 18 = some true := by kernel_rfl
theorem ty_i18 : intT Tryz.prog 18 = none := by kernel_rfl
theorem ty_s18 : isStr Tryz.prog 18 = false := by kernel_rfl
theorem ty_b18 : isBoolT Tryz.prog 18 = false := by kernel_rfl
theorem ty_e18 : elemT Tryz.prog 18 = none := by kernel_rfl
theorem ty_f18_0 : fieldT Tryz.prog 18 0 = some (17, 0) := by kernel_rfl
theorem ty_pl18 : placesT Tryz.prog 18 = some [(0, 1)] := by kernel_rfl
theorem ty_t18 : tapp Tryz.prog 18 = some (1, 8) := by kernel_rfl
theorem ty_c18 : tzc Tryz.prog 18 = some [.c (.pointer none)] := by kernel_rfl
theorem ty_y18 : zelem Tryz.prog 18 = some (.agg [.c (.pointer none)]) := by kernel_rfl
theorem ty_u21 : (Tryz.prog.underlying 21).isSome = true := by kernel_rfl
theorem ty_z21 : tsz Tryz.prog 21 = some 1 := by kernel_rfl
theorem ty_a21 : isAggT Tryz.prog 21 = some false := by kernel_rfl
theorem ty_i21 : intT Tryz.prog 21 = some .i32 := by kernel_rfl
theorem ty_s21 : isStr Tryz.prog 21 = false := by kernel_rfl
theorem ty_b21 : isBoolT Tryz.prog 21 = false := by kernel_rfl
theorem ty_e21 : elemT Tryz.prog 21 = none := by kernel_rfl
theorem ty_t21 : tapp Tryz.prog 21 = some (1, 4) := by kernel_rfl
theorem ty_c21 : tzc Tryz.prog 21 = some [.c (.int .i32 0)] := by kernel_rfl
theorem ty_y21 : zelem Tryz.prog 21 = some (.c (.int .i32 0)) := by kernel_rfl
theorem ty_u22 : (Tryz.prog.underlying 22).isSome = true := by kernel_rfl
theorem ty_z22 : tsz Tryz.prog 22 = some 1 := by kernel_rfl
theorem ty_a22 : isAggT Tryz.prog 22 = some false := by kernel_rfl
theorem ty_i22 : intT Tryz.prog 22 = some .u64 := by kernel_rfl
theorem ty_s22 : isStr Tryz.prog 22 = false := by kernel_rfl
theorem ty_b22 : isBoolT Tryz.prog 22 = false := by kernel_rfl
theorem ty_e22 : elemT Tryz.prog 22 = none := by kernel_rfl
theorem ty_t22 : tapp Tryz.prog 22 = some (1, 8) := by kernel_rfl
theorem ty_c22 : tzc Tryz.prog 22 = some [.c (.int .u64 0)] := by kernel_rfl
theorem ty_y22 : zelem Tryz.prog 22 = some (.c (.int .u64 0)) := by kernel_rfl
theorem ty_u23 : (Tryz.prog.underlying 23).isSome = true := by kernel_rfl
theorem ty_z23 : tsz Tryz.prog 23 = some 4 := by kernel_rfl
theorem ty_a23 : isAggT Tryz.prog 23 = some true := by kernel_rfl
theorem ty_i23 : intT Tryz.prog 23 = none := by kernel_rfl
theorem ty_s23 : isStr Tryz.prog 23 = false := by kernel_rfl
theorem ty_b23 : isBoolT Tryz.prog 23 = false := by kernel_rfl
theorem ty_e23 : elemT Tryz.prog 23 = none := by kernel_rfl
theorem ty_f23_0 : fieldT Tryz.prog 23 0 = some (3, 0) := by kernel_rfl
theorem ty_f23_1 : fieldT Tryz.prog 23 1 = some (3, 1) := by kernel_rfl
theorem ty_f23_2 : fieldT Tryz.prog 23 2 = some (3, 2) := by kernel_rfl
theorem ty_f23_3 : fieldT Tryz.prog 23 3 = some (22, 3) := by kernel_rfl
theorem ty_pl23 : placesT Tryz.prog 23 = some [(0, 1), (1, 1), (2, 1), (3, 1)] := by kernel_rfl
theorem ty_eq23 : eqPl Tryz.prog 23 = some [(0, .n), (1, .n), (2, .n), (3, .n)] := by kernel_rfl
theorem ty_t23 : tapp Tryz.prog 23 = some (4, 32) := by kernel_rfl
theorem ty_c23 : tzc Tryz.prog 23 = some [.c (.int .i64 0), .c (.int .i64 0), .c (.int .i64 0), .c (.int .u64 0)] := by kernel_rfl
theorem ty_y23 : zelem Tryz.prog 23 = some (.agg [.c (.int .i64 0), .c (.int .i64 0), .c (.int .i64 0), .c (.int .u64 0)]) := by kernel_rfl
theorem ty_u24 : (Tryz.prog.underlying 24).isSome = true := by kernel_rfl
theorem ty_z24 : tsz Tryz.prog 24 = some 4 := by kernel_rfl
theorem ty_a24 : isAggT Tryz.prog 24 = some true := by kernel_rfl
theorem ty_i24 : intT Tryz.prog 24 = none := by kernel_rfl
theorem ty_s24 : isStr Tryz.prog 24 = false := by kernel_rfl
theorem ty_b24 : isBoolT Tryz.prog 24 = false := by kernel_rfl
theorem ty_e24 : elemT Tryz.prog 24 = none := by kernel_rfl
theorem ty_f24_0 : fieldT Tryz.prog 24 0 = some (3, 0) := by kernel_rfl
theorem ty_f24_1 : fieldT Tryz.prog 24 1 = some (3, 1) := by kernel_rfl
theorem ty_f24_2 : fieldT Tryz.prog 24 2 = some (3, 2) := by kernel_rfl
theorem ty_f24_3 : fieldT Tryz.prog 24 3 = some (22, 3) := by kernel_rfl
theorem ty_pl24 : placesT Tryz.prog 24 = some [(0, 1), (1, 1), (2, 1), (3, 1)] := by kernel_rfl
theorem ty_eq24 : eqPl Tryz.prog 24 = some [(0, .n), (1, .n), (2, .n), (3, .n)] := by kernel_rfl
theorem ty_t24 : tapp Tryz.prog 24 = some (4, 32) := by kernel_rfl
theorem ty_c24 : tzc Tryz.prog 24 = some [.c (.int .i64 0), .c (.int .i64 0), .c (.int .i64 0), .c (.int .u64 0)] := by kernel_rfl
theorem ty_y24 : zelem Tryz.prog 24 = some (.agg [.c (.int .i64 0), .c (.int .i64 0), .c (.int .i64 0), .c (.int .u64 0)]) := by kernel_rfl
theorem ty_u26 : (Tryz.prog.underlying 26).isSome = true := by kernel_rfl
theorem ty_z26 : tsz Tryz.prog 26 = some 3 := by kernel_rfl
theorem ty_a26 : isAggT Tryz.prog 26 = some true := by kernel_rfl
theorem ty_i26 : intT Tryz.prog 26 = none := by kernel_rfl
theorem ty_s26 : isStr Tryz.prog 26 = false := by kernel_rfl
theorem ty_b26 : isBoolT Tryz.prog 26 = false := by kernel_rfl
theorem ty_e26 : elemT Tryz.prog 26 = none := by kernel_rfl
theorem ty_f26_0 : fieldT Tryz.prog 26 0 = some (3, 0) := by kernel_rfl
theorem ty_f26_1 : fieldT Tryz.prog 26 1 = some (3, 1) := by kernel_rfl
theorem ty_f26_2 : fieldT Tryz.prog 26 2 = some (4, 2) := by kernel_rfl
theorem ty_pl26 : placesT Tryz.prog 26 = some [(0, 1), (1, 1), (2, 1)] := by kernel_rfl
theorem ty_eq26 : eqPl Tryz.prog 26 = some [(0, .n), (1, .n), (2, .b)] := by kernel_rfl
theorem ty_t26 : tapp Tryz.prog 26 = some (3, 24) := by kernel_rfl
theorem ty_c26 : tzc Tryz.prog 26 = some [.c (.int .i64 0), .c (.int .i64 0), .c (.bool false)] := by kernel_rfl
theorem ty_y26 : zelem Tryz.prog 26 = some (.agg [.c (.int .i64 0), .c (.int .i64 0), .c (.bool false)]) := by kernel_rfl
theorem ty_u27 : (Tryz.prog.underlying 27).isSome = true := by kernel_rfl
theorem ty_z27 : tsz Tryz.prog 27 = some 3 := by kernel_rfl
theorem ty_a27 : isAggT Tryz.prog 27 = some true := by kernel_rfl
theorem ty_i27 : intT Tryz.prog 27 = none := by kernel_rfl
theorem ty_s27 : isStr Tryz.prog 27 = false := by kernel_rfl
theorem ty_b27 : isBoolT Tryz.prog 27 = false := by kernel_rfl
theorem ty_e27 : elemT Tryz.prog 27 = none := by kernel_rfl
theorem ty_f27_0 : fieldT Tryz.prog 27 0 = some (3, 0) := by kernel_rfl
theorem ty_f27_1 : fieldT Tryz.prog 27 1 = some (3, 1) := by kernel_rfl
theorem ty_f27_2 : fieldT Tryz.prog 27 2 = some (4, 2) := by kernel_rfl
theorem ty_pl27 : placesT Tryz.prog 27 = some [(0, 1), (1, 1), (2, 1)] := by kernel_rfl
theorem ty_eq27 : eqPl Tryz.prog 27 = some [(0, .n), (1, .n), (2, .b)] := by kernel_rfl
theorem ty_t27 : tapp Tryz.prog 27 = some (3, 24) := by kernel_rfl
theorem ty_c27 : tzc Tryz.prog 27 = some [.c (.int .i64 0), .c (.int .i64 0), .c (.bool false)] := by kernel_rfl
theorem ty_y27 : zelem Tryz.prog 27 = some (.agg [.c (.int .i64 0), .c (.int .i64 0), .c (.bool false)]) := by kernel_rfl
theorem ty_u28 : (Tryz.prog.underlying 28).isSome = true := by kernel_rfl
theorem ty_z28 : tsz Tryz.prog 28 = some 1 := by kernel_rfl
theorem ty_a28 : isAggT Tryz.prog 28 = some false := by kernel_rfl
theorem ty_i28 : intT Tryz.prog 28 = none := by kernel_rfl
theorem ty_s28 : isStr Tryz.prog 28 = false := by kernel_rfl
theorem ty_b28 : isBoolT Tryz.prog 28 = false := by kernel_rfl
theorem ty_e28 : elemT Tryz.prog 28 = some 3 := by kernel_rfl
theorem ty_t28 : tapp Tryz.prog 28 = some (1, 24) := by kernel_rfl
theorem ty_c28 : tzc Tryz.prog 28 = some [.c (.slice none 0 0)] := by kernel_rfl
theorem ty_y28 : zelem Tryz.prog 28 = some (.c (.slice none 0 0)) := by kernel_rfl
theorem ty_u29 : (Tryz.prog.underlying 29).isSome = true := by kernel_rfl
theorem ty_z29 : tsz Tryz.prog 29 = some 5 := by kernel_rfl
theorem ty_a29 : isAggT Tryz.prog 29 = some true := by kernel_rfl
theorem ty_i29 : intT Tryz.prog 29 = none := by kernel_rfl
theorem ty_s29 : isStr Tryz.prog 29 = false := by kernel_rfl
theorem ty_b29 : isBoolT Tryz.prog 29 = false := by kernel_rfl
theorem ty_e29 : elemT Tryz.prog 29 = none := by kernel_rfl
theorem ty_f29_0 : fieldT Tryz.prog 29 0 = some (3, 0) := by kernel_rfl
theorem ty_f29_1 : fieldT Tryz.prog 29 1 = some (3, 1) := by kernel_rfl
theorem ty_f29_2 : fieldT Tryz.prog 29 2 = some (22, 2) := by kernel_rfl
theorem ty_f29_3 : fieldT Tryz.prog 29 3 = some (28, 3) := by kernel_rfl
theorem ty_f29_4 : fieldT Tryz.prog 29 4 = some (4, 4) := by kernel_rfl
theorem ty_pl29 : placesT Tryz.prog 29 = some [(0, 1), (1, 1), (2, 1), (3, 1), (4, 1)] := by kernel_rfl
theorem ty_t29 : tapp Tryz.prog 29 = some (5, 56) := by kernel_rfl
theorem ty_c29 : tzc Tryz.prog 29 = some [.c (.int .i64 0), .c (.int .i64 0), .c (.int .u64 0), .c (.slice none 0 0), .c (.bool false)] := by kernel_rfl
theorem ty_y29 : zelem Tryz.prog 29 = some (.agg [.c (.int .i64 0), .c (.int .i64 0), .c (.int .u64 0), .c (.slice none 0 0), .c (.bool false)]) := by kernel_rfl
theorem ty_u30 : (Tryz.prog.underlying 30).isSome = true := by kernel_rfl
theorem ty_z30 : tsz Tryz.prog 30 = some 5 := by kernel_rfl
theorem ty_a30 : isAggT Tryz.prog 30 = some true := by kernel_rfl
theorem ty_i30 : intT Tryz.prog 30 = none := by kernel_rfl
theorem ty_s30 : isStr Tryz.prog 30 = false := by kernel_rfl
theorem ty_b30 : isBoolT Tryz.prog 30 = false := by kernel_rfl
theorem ty_e30 : elemT Tryz.prog 30 = none := by kernel_rfl
theorem ty_f30_0 : fieldT Tryz.prog 30 0 = some (3, 0) := by kernel_rfl
theorem ty_f30_1 : fieldT Tryz.prog 30 1 = some (3, 1) := by kernel_rfl
theorem ty_f30_2 : fieldT Tryz.prog 30 2 = some (22, 2) := by kernel_rfl
theorem ty_f30_3 : fieldT Tryz.prog 30 3 = some (28, 3) := by kernel_rfl
theorem ty_f30_4 : fieldT Tryz.prog 30 4 = some (4, 4) := by kernel_rfl
theorem ty_pl30 : placesT Tryz.prog 30 = some [(0, 1), (1, 1), (2, 1), (3, 1), (4, 1)] := by kernel_rfl
theorem ty_t30 : tapp Tryz.prog 30 = some (5, 56) := by kernel_rfl
theorem ty_c30 : tzc Tryz.prog 30 = some [.c (.int .i64 0), .c (.int .i64 0), .c (.int .u64 0), .c (.slice none 0 0), .c (.bool false)] := by kernel_rfl
theorem ty_y30 : zelem Tryz.prog 30 = some (.agg [.c (.int .i64 0), .c (.int .i64 0), .c (.int .u64 0), .c (.slice none 0 0), .c (.bool false)]) := by kernel_rfl
theorem ty_u31 : (Tryz.prog.underlying 31).isSome = true := by kernel_rfl
theorem ty_z31 : tsz Tryz.prog 31 = some 3 := by kernel_rfl
theorem ty_a31 : isAggT Tryz.prog 31 = some true := by kernel_rfl
theorem ty_i31 : intT Tryz.prog 31 = none := by kernel_rfl
theorem ty_s31 : isStr Tryz.prog 31 = false := by kernel_rfl
theorem ty_b31 : isBoolT Tryz.prog 31 = false := by kernel_rfl
theorem ty_e31 : elemT Tryz.prog 31 = none := by kernel_rfl
theorem ty_f31_0 : fieldT Tryz.prog 31 0 = some (3, 0) := by kernel_rfl
theorem ty_f31_1 : fieldT Tryz.prog 31 1 = some (22, 1) := by kernel_rfl
theorem ty_f31_2 : fieldT Tryz.prog 31 2 = some (28, 2) := by kernel_rfl
theorem ty_pl31 : placesT Tryz.prog 31 = some [(0, 1), (1, 1), (2, 1)] := by kernel_rfl
theorem ty_t31 : tapp Tryz.prog 31 = some (3, 40) := by kernel_rfl
theorem ty_c31 : tzc Tryz.prog 31 = some [.c (.int .i64 0), .c (.int .u64 0), .c (.slice none 0 0)] := by kernel_rfl
theorem ty_y31 : zelem Tryz.prog 31 = some (.agg [.c (.int .i64 0), .c (.int .u64 0), .c (.slice none 0 0)]) := by kernel_rfl
theorem ty_u32 : (Tryz.prog.underlying 32).isSome = true := by kernel_rfl
theorem ty_z32 : tsz Tryz.prog 32 = some 3 := by kernel_rfl
theorem ty_a32 : isAggT Tryz.prog 32 = some true := by kernel_rfl
theorem ty_i32 : intT Tryz.prog 32 = none := by kernel_rfl
theorem ty_s32 : isStr Tryz.prog 32 = false := by kernel_rfl
theorem ty_b32 : isBoolT Tryz.prog 32 = false := by kernel_rfl
theorem ty_e32 : elemT Tryz.prog 32 = none := by kernel_rfl
theorem ty_f32_0 : fieldT Tryz.prog 32 0 = some (3, 0) := by kernel_rfl
theorem ty_f32_1 : fieldT Tryz.prog 32 1 = some (22, 1) := by kernel_rfl
theorem ty_f32_2 : fieldT Tryz.prog 32 2 = some (28, 2) := by kernel_rfl
theorem ty_pl32 : placesT Tryz.prog 32 = some [(0, 1), (1, 1), (2, 1)] := by kernel_rfl
theorem ty_t32 : tapp Tryz.prog 32 = some (3, 40) := by kernel_rfl
theorem ty_c32 : tzc Tryz.prog 32 = some [.c (.int .i64 0), .c (.int .u64 0), .c (.slice none 0 0)] := by kernel_rfl
theorem ty_y32 : zelem Tryz.prog 32 = some (.agg [.c (.int .i64 0), .c (.int .u64 0), .c (.slice none 0 0)]) := by kernel_rfl
theorem ty_u33 : (Tryz.prog.underlying 33).isSome = true := by kernel_rfl
theorem ty_z33 : tsz Tryz.prog 33 = some 1 := by kernel_rfl
theorem ty_a33 : isAggT Tryz.prog 33 = some false := by kernel_rfl
theorem ty_i33 : intT Tryz.prog 33 = none := by kernel_rfl
theorem ty_s33 : isStr Tryz.prog 33 = false := by kernel_rfl
theorem ty_b33 : isBoolT Tryz.prog 33 = false := by kernel_rfl
theorem ty_e33 : elemT Tryz.prog 33 = some 91 := by kernel_rfl
theorem ty_t33 : tapp Tryz.prog 33 = some (1, 24) := by kernel_rfl
theorem ty_c33 : tzc Tryz.prog 33 = some [.c (.slice none 0 0)] := by kernel_rfl
theorem ty_y33 : zelem Tryz.prog 33 = some (.c (.slice none 0 0)) := by kernel_rfl
theorem ty_u34 : (Tryz.prog.underlying 34).isSome = true := by kernel_rfl
theorem ty_z34 : tsz Tryz.prog 34 = some 4 := by kernel_rfl
theorem ty_a34 : isAggT Tryz.prog 34 = some true := by kernel_rfl
theorem ty_i34 : intT Tryz.prog 34 = none := by kernel_rfl
theorem ty_s34 : isStr Tryz.prog 34 = false := by kernel_rfl
theorem ty_b34 : isBoolT Tryz.prog 34 = false := by kernel_rfl
theorem ty_e34 : elemT Tryz.prog 34 = none := by kernel_rfl
theorem ty_f34_0 : fieldT Tryz.prog 34 0 = some (3, 0) := by kernel_rfl
theorem ty_f34_1 : fieldT Tryz.prog 34 1 = some (3, 1) := by kernel_rfl
theorem ty_f34_2 : fieldT Tryz.prog 34 2 = some (33, 2) := by kernel_rfl
theorem ty_f34_3 : fieldT Tryz.prog 34 3 = some (4, 3) := by kernel_rfl
theorem ty_pl34 : placesT Tryz.prog 34 = some [(0, 1), (1, 1), (2, 1), (3, 1)] := by kernel_rfl
theorem ty_t34 : tapp Tryz.prog 34 = some (4, 48) := by kernel_rfl
theorem ty_c34 : tzc Tryz.prog 34 = some [.c (.int .i64 0), .c (.int .i64 0), .c (.slice none 0 0), .c (.bool false)] := by kernel_rfl
theorem ty_y34 : zelem Tryz.prog 34 = some (.agg [.c (.int .i64 0), .c (.int .i64 0), .c (.slice none 0 0), .c (.bool false)]) := by kernel_rfl
theorem ty_u35 : (Tryz.prog.underlying 35).isSome = true := by kernel_rfl
theorem ty_z35 : tsz Tryz.prog 35 = some 4 := by kernel_rfl
theorem ty_a35 : isAggT Tryz.prog 35 = some true := by kernel_rfl
theorem ty_i35 : intT Tryz.prog 35 = none := by kernel_rfl
theorem ty_s35 : isStr Tryz.prog 35 = false := by kernel_rfl
theorem ty_b35 : isBoolT Tryz.prog 35 = false := by kernel_rfl
theorem ty_e35 : elemT Tryz.prog 35 = none := by kernel_rfl
theorem ty_f35_0 : fieldT Tryz.prog 35 0 = some (3, 0) := by kernel_rfl
theorem ty_f35_1 : fieldT Tryz.prog 35 1 = some (3, 1) := by kernel_rfl
theorem ty_f35_2 : fieldT Tryz.prog 35 2 = some (33, 2) := by kernel_rfl
theorem ty_f35_3 : fieldT Tryz.prog 35 3 = some (4, 3) := by kernel_rfl
theorem ty_pl35 : placesT Tryz.prog 35 = some [(0, 1), (1, 1), (2, 1), (3, 1)] := by kernel_rfl
theorem ty_t35 : tapp Tryz.prog 35 = some (4, 48) := by kernel_rfl
theorem ty_c35 : tzc Tryz.prog 35 = some [.c (.int .i64 0), .c (.int .i64 0), .c (.slice none 0 0), .c (.bool false)] := by kernel_rfl
theorem ty_y35 : zelem Tryz.prog 35 = some (.agg [.c (.int .i64 0), .c (.int .i64 0), .c (.slice none 0 0), .c (.bool false)]) := by kernel_rfl
theorem ty_u36 : (Tryz.prog.underlying 36).isSome = true := by kernel_rfl
theorem ty_z36 : tsz Tryz.prog 36 = some 5 := by kernel_rfl
theorem ty_a36 : isAggT Tryz.prog 36 = some true := by kernel_rfl
theorem ty_i36 : intT Tryz.prog 36 = none := by kernel_rfl
theorem ty_s36 : isStr Tryz.prog 36 = false := by kernel_rfl
theorem ty_b36 : isBoolT Tryz.prog 36 = false := by kernel_rfl
theorem ty_e36 : elemT Tryz.prog 36 = none := by kernel_rfl
theorem ty_f36_0 : fieldT Tryz.prog 36 0 = some (3, 0) := by kernel_rfl
theorem ty_f36_1 : fieldT Tryz.prog 36 1 = some (3, 1) := by kernel_rfl
theorem ty_f36_2 : fieldT Tryz.prog 36 2 = some (3, 2) := by kernel_rfl
theorem ty_f36_3 : fieldT Tryz.prog 36 3 = some (33, 3) := by kernel_rfl
theorem ty_f36_4 : fieldT Tryz.prog 36 4 = some (4, 4) := by kernel_rfl
theorem ty_pl36 : placesT Tryz.prog 36 = some [(0, 1), (1, 1), (2, 1), (3, 1), (4, 1)] := by kernel_rfl
theorem ty_t36 : tapp Tryz.prog 36 = some (5, 56) := by kernel_rfl
theorem ty_c36 : tzc Tryz.prog 36 = some [.c (.int .i64 0), .c (.int .i64 0), .c (.int .i64 0), .c (.slice none 0 0), .c (.bool false)] := by kernel_rfl
theorem ty_y36 : zelem Tryz.prog 36 = some (.agg [.c (.int .i64 0), .c (.int .i64 0), .c (.int .i64 0), .c (.slice none 0 0), .c (.bool false)]) := by kernel_rfl
theorem ty_u37 : (Tryz.prog.underlying 37).isSome = true := by kernel_rfl
theorem ty_z37 : tsz Tryz.prog 37 = some 5 := by kernel_rfl
theorem ty_a37 : isAggT Tryz.prog 37 = some true := by kernel_rfl
theorem ty_i37 : intT Tryz.prog 37 = none := by kernel_rfl
theorem ty_s37 : isStr Tryz.prog 37 = false := by kernel_rfl
theorem ty_b37 : isBoolT Tryz.prog 37 = false := by kernel_rfl
theorem ty_e37 : elemT Tryz.prog 37 = none := by kernel_rfl
theorem ty_f37_0 : fieldT Tryz.prog 37 0 = some (3, 0) := by kernel_rfl
theorem ty_f37_1 : fieldT Tryz.prog 37 1 = some (3, 1) := by kernel_rfl
theorem ty_f37_2 : fieldT Tryz.prog 37 2 = some (3, 2) := by kernel_rfl
theorem ty_f37_3 : fieldT Tryz.prog 37 3 = some (33, 3) := by kernel_rfl
theorem ty_f37_4 : fieldT Tryz.prog 37 4 = some (4, 4) := by kernel_rfl
theorem ty_pl37 : placesT Tryz.prog 37 = some [(0, 1), (1, 1), (2, 1), (3, 1), (4, 1)] := by kernel_rfl
theorem ty_t37 : tapp Tryz.prog 37 = some (5, 56) := by kernel_rfl
theorem ty_c37 : tzc Tryz.prog 37 = some [.c (.int .i64 0), .c (.int .i64 0), .c (.int .i64 0), .c (.slice none 0 0), .c (.bool false)] := by kernel_rfl
theorem ty_y37 : zelem Tryz.prog 37 = some (.agg [.c (.int .i64 0), .c (.int .i64 0), .c (.int .i64 0), .c (.slice none 0 0), .c (.bool false)]) := by kernel_rfl
theorem ty_u38 : (Tryz.prog.underlying 38).isSome = true := by kernel_rfl
theorem ty_z38 : tsz Tryz.prog 38 = some 1 := by kernel_rfl
theorem ty_a38 : isAggT Tryz.prog 38 = some false := by kernel_rfl
theorem ty_i38 : intT Tryz.prog 38 = none := by kernel_rfl
theorem ty_s38 : isStr Tryz.prog 38 = false := by kernel_rfl
theorem ty_b38 : isBoolT Tryz.prog 38 = false := by kernel_rfl
theorem ty_e38 : elemT Tryz.prog 38 = some 78 := by kernel_rfl
theorem ty_t38 : tapp Tryz.prog 38 = some (1, 24) := by kernel_rfl
theorem ty_c38 : tzc Tryz.prog 38 = some [.c (.slice none 0 0)] := by kernel_rfl
theorem ty_y38 : zelem Tryz.prog 38 = some (.c (.slice none 0 0)) := by kernel_rfl
theorem ty_u39 : (Tryz.prog.underlying 39).isSome = true := by kernel_rfl
theorem ty_z39 : tsz Tryz.prog 39 = some 5 := by kernel_rfl
theorem ty_a39 : isAggT Tryz.prog 39 = some true := by kernel_rfl
theorem ty_i39 : intT Tryz.prog 39 = none := by kernel_rfl
theorem ty_s39 : isStr Tryz.prog 39 = false := by kernel_rfl
theorem ty_b39 : isBoolT Tryz.prog 39 = false := by kernel_rfl
theorem ty_e39 : elemT Tryz.prog 39 = none := by kernel_rfl
theorem ty_f39_0 : fieldT Tryz.prog 39 0 = some (3, 0) := by kernel_rfl
theorem ty_f39_1 : fieldT Tryz.prog 39 1 = some (3, 1) := by kernel_rfl
theorem ty_f39_2 : fieldT Tryz.prog 39 2 = some (3, 2) := by kernel_rfl
theorem ty_f39_3 : fieldT Tryz.prog 39 3 = some (38, 3) := by kernel_rfl
theorem ty_f39_4 : fieldT Tryz.prog 39 4 = some (4, 4) := by kernel_rfl
theorem ty_pl39 : placesT Tryz.prog 39 = some [(0, 1), (1, 1), (2, 1), (3, 1), (4, 1)] := by kernel_rfl
theorem ty_t39 : tapp Tryz.prog 39 = some (5, 56) := by kernel_rfl
theorem ty_c39 : tzc Tryz.prog 39 = some [.c (.int .i64 0), .c (.int .i64 0), .c (.int .i64 0), .c (.slice none 0 0), .c (.bool false)] := by kernel_rfl
theorem ty_y39 : zelem Tryz.prog 39 = some (.agg [.c (.int .i64 0), .c (.int .i64 0), .c (.int .i64 0), .c (.slice none 0 0), .c (.bool false)]) := by kernel_rfl
theorem ty_u40 : (Tryz.prog.underlying 40).isSome = true := by kernel_rfl
theorem ty_z40 : tsz Tryz.prog 40 = some 5 := by kernel_rfl
theorem ty_a40 : isAggT Tryz.prog 40 = some true := by kernel_rfl
theorem ty_i40 : intT Tryz.prog 40 = none := by kernel_rfl
theorem ty_s40 : isStr Tryz.prog 40 = false := by kernel_rfl
theorem ty_b40 : isBoolT Tryz.prog 40 = false := by kernel_rfl
theorem ty_e40 : elemT Tryz.prog 40 = none := by kernel_rfl
theorem ty_f40_0 : fieldT Tryz.prog 40 0 = some (3, 0) := by kernel_rfl
theorem ty_f40_1 : fieldT Tryz.prog 40 1 = some (3, 1) := by kernel_rfl
theorem ty_f40_2 : fieldT Tryz.prog 40 2 = some (3, 2) := by kernel_rfl
theorem ty_f40_3 : fieldT Tryz.prog 40 3 = some (38, 3) := by kernel_rfl
theorem ty_f40_4 : fieldT Tryz.prog 40 4 = some (4, 4) := by kernel_rfl
theorem ty_pl40 : placesT Tryz.prog 40 = some [(0, 1), (1, 1), (2, 1), (3, 1), (4, 1)] := by kernel_rfl
theorem ty_t40 : tapp Tryz.prog 40 = some (5, 56) := by kernel_rfl
theorem ty_c40 : tzc Tryz.prog 40 = some [.c (.int .i64 0), .c (.int .i64 0), .c (.int .i64 0), .c (.slice none 0 0), .c (.bool false)] := by kernel_rfl
theorem ty_y40 : zelem Tryz.prog 40 = some (.agg [.c (.int .i64 0), .c (.int .i64 0), .c (.int .i64 0), .c (.slice none 0 0), .c (.bool false)]) := by kernel_rfl
theorem ty_u41 : (Tryz.prog.underlying 41).isSome = true := by kernel_rfl
theorem ty_z41 : tsz Tryz.prog 41 = some 29 := by kernel_rfl
theorem ty_a41 : isAggT Tryz.prog 41 = some true := by kernel_rfl
theorem ty_i41 : intT Tryz.prog 41 = none := by kernel_rfl
theorem ty_s41 : isStr Tryz.prog 41 = false := by kernel_rfl
theorem ty_b41 : isBoolT Tryz.prog 41 = false := by kernel_rfl
theorem ty_e41 : elemT Tryz.prog 41 = none := by kernel_rfl
theorem ty_f41_0 : fieldT Tryz.prog 41 0 = some (24, 0) := by kernel_rfl
theorem ty_f41_1 : fieldT Tryz.prog 41 1 = some (27, 4) := by kernel_rfl
theorem ty_f41_2 : fieldT Tryz.prog 41 2 = some (30, 7) := by kernel_rfl
theorem ty_f41_3 : fieldT Tryz.prog 41 3 = some (32, 12) := by kernel_rfl
theorem ty_f41_4 : fieldT Tryz.prog 41 4 = some (35, 15) := by kernel_rfl
theorem ty_f41_5 : fieldT Tryz.prog 41 5 = some (37, 19) := by kernel_rfl
theorem ty_f41_6 : fieldT Tryz.prog 41 6 = some (40, 24) := by kernel_rfl
theorem ty_pl41 : placesT Tryz.prog 41 = some [(0, 4), (4, 3), (7, 5), (12, 3), (15, 4), (19, 5), (24, 5)] := by kernel_rfl
theorem ty_t41 : tapp Tryz.prog 41 = some (29, 312) := by kernel_rfl
theorem ty_c41 : tzc Tryz.prog 41 = some [.c (.int .i64 0), .c (.int .i64 0), .c (.int .i64 0), .c (.int .u64 0), .c (.int .i64 0), .c (.int .i64 0), .c (.bool false), .c (.int .i64 0), .c (.int .i64 0), .c (.int .u64 0), .c (.slice none 0 0), .c (.bool false), .c (.int .i64 0), .c (.int .u64 0), .c (.slice none 0 0), .c (.int .i64 0), .c (.int .i64 0), .c (.slice none 0 0), .c (.bool false), .c (.int .i64 0), .c (.int .i64 0), .c (.int .i64 0), .c (.slice none 0 0), .c (.bool false), .c (.int .i64 0), .c (.int .i64 0), .c (.int .i64 0), .c (.slice none 0 0), .c (.bool false)] := by kernel_rfl
theorem ty_y41 : zelem Tryz.prog 41 = some (.agg [.c (.int .i64 0), .c (.int .i64 0), .c (.int .i64 0), .c (.int .u64 0), .c (.int .i64 0), .c (.int .i64 0), .c (.bool false), .c (.int .i64 0), .c (.int .i64 0), .c (.int .u64 0), .c (.slice none 0 0), .c (.bool false), .c (.int .i64 0), .c (.int .u64 0), .c (.slice none 0 0), .c (.int .i64 0), .c (.int .i64 0), .c (.slice none 0 0), .c (.bool false), .c (.int .i64 0), .c (.int .i64 0), .c (.int .i64 0), .c (.slice none 0 0), .c (.bool false), .c (.int .i64 0), .c (.int .i64 0), .c (.int .i64 0), .c (.slice none 0 0), .c (.bool false)]) := by kernel_rfl
theorem ty_u42 : (Tryz.prog.underlying 42).isSome = true := by kernel_rfl
theorem ty_z42 : tsz Tryz.prog 42 = some 29 := by kernel_rfl
theorem ty_a42 : isAggT Tryz.prog 42 = some true := by kernel_rfl
theorem ty_i42 : intT Tryz.prog 42 = none := by kernel_rfl
theorem ty_s42 : isStr Tryz.prog 42 = false := by kernel_rfl
theorem ty_b42 : isBoolT Tryz.prog 42 = false := by kernel_rfl
theorem ty_e42 : elemT Tryz.prog 42 = none := by kernel_rfl
theorem ty_f42_0 : fieldT Tryz.prog 42 0 = some (24, 0) := by kernel_rfl
theorem ty_f42_1 : fieldT Tryz.prog 42 1 = some (27, 4) := by kernel_rfl
theorem ty_f42_2 : fieldT Tryz.prog 42 2 = some (30, 7) := by kernel_rfl
theorem ty_f42_3 : fieldT Tryz.prog 42 3 = some (32, 12) := by kernel_rfl
theorem ty_f42_4 : fieldT Tryz.prog 42 4 = some (35, 15) := by kernel_rfl
theorem ty_f42_5 : fieldT Tryz.prog 42 5 = some (37, 19) := by kernel_rfl
theorem ty_f42_6 : fieldT Tryz.prog 42 6 = some (40, 24) := by kernel_rfl
theorem ty_pl42 : placesT Tryz.prog 42 = some [(0, 4), (4, 3), (7, 5), (12, 3), (15, 4), (19, 5), (24, 5)] := by kernel_rfl
theorem ty_t42 : tapp Tryz.prog 42 = some (29, 312) := by kernel_rfl
theorem ty_c42 : tzc Tryz.prog 42 = some [.c (.int .i64 0), .c (.int .i64 0), .c (.int .i64 0), .c (.int .u64 0), .c (.int .i64 0), .c (.int .i64 0), .c (.bool false), .c (.int .i64 0), .c (.int .i64 0), .c (.int .u64 0), .c (.slice none 0 0), .c (.bool false), .c (.int .i64 0), .c (.int .u64 0), .c (.slice none 0 0), .c (.int .i64 0), .c (.int .i64 0), .c (.slice none 0 0), .c (.bool false), .c (.int .i64 0), .c (.int .i64 0), .c (.int .i64 0), .c (.slice none 0 0), .c (.bool false), .c (.int .i64 0), .c (.int .i64 0), .c (.int .i64 0), .c (.slice none 0 0), .c (.bool false)] := by kernel_rfl
theorem ty_y42 : zelem Tryz.prog 42 = some (.agg [.c (.int .i64 0), .c (.int .i64 0), .c (.int .i64 0), .c (.int .u64 0), .c (.int .i64 0), .c (.int .i64 0), .c (.bool false), .c (.int .i64 0), .c (.int .i64 0), .c (.int .u64 0), .c (.slice none 0 0), .c (.bool false), .c (.int .i64 0), .c (.int .u64 0), .c (.slice none 0 0), .c (.int .i64 0), .c (.int .i64 0), .c (.slice none 0 0), .c (.bool false), .c (.int .i64 0), .c (.int .i64 0), .c (.int .i64 0), .c (.slice none 0 0), .c (.bool false), .c (.int .i64 0), .c (.int .i64 0), .c (.int .i64 0), .c (.slice none 0 0), .c (.bool false)]) := by kernel_rfl
theorem ty_u43 : (Tryz.prog.underlying 43).isSome = true := by kernel_rfl
theorem ty_z43 : tsz Tryz.prog 43 = some 1 := by kernel_rfl
theorem ty_a43 : isAggT Tryz.prog 43 = some false := by kernel_rfl
theorem ty_i43 : intT Tryz.prog 43 = some .i64 := by kernel_rfl
theorem ty_s43 : isStr Tryz.prog 43 = false := by kernel_rfl
theorem ty_b43 : isBoolT Tryz.prog 43 = false := by kernel_rfl
theorem ty_e43 : elemT Tryz.prog 43 = none := by kernel_rfl
theorem ty_t43 : tapp Tryz.prog 43 = some (1, 8) := by kernel_rfl
theorem ty_c43 : tzc Tryz.prog 43 = some [.c (.int .i64 0)] := by kernel_rfl
theorem ty_y43 : zelem Tryz.prog 43 = some (.c (.int .i64 0)) := by kernel_rfl
theorem ty_u50 : (Tryz.prog.underlying 50).isSome = true := by kernel_rfl
theorem ty_z50 : tsz Tryz.prog 50 = some 1 := by kernel_rfl
theorem ty_a50 : isAggT Tryz.prog 50 = some false := by kernel_rfl
theorem ty_i50 : intT Tryz.prog 50 = some .u64 := by kernel_rfl
theorem ty_s50 : isStr Tryz.prog 50 = false := by kernel_rfl
theorem ty_b50 : isBoolT Tryz.prog 50 = false := by kernel_rfl
theorem ty_e50 : elemT Tryz.prog 50 = none := by kernel_rfl
theorem ty_t50 : tapp Tryz.prog 50 = some (1, 8) := by kernel_rfl
theorem ty_c50 : tzc Tryz.prog 50 = some [.c (.int .u64 0)] := by kernel_rfl
theorem ty_y50 : zelem Tryz.prog 50 = some (.c (.int .u64 0)) := by kernel_rfl
theorem ty_u71 : (Tryz.prog.underlying 71).isSome = true := by kernel_rfl
theorem ty_z71 : tsz Tryz.prog 71 = some 2 := by kernel_rfl
theorem ty_a71 : isAggT Tryz.prog 71 = some true := by kernel_rfl
theorem ty_i71 : intT Tryz.prog 71 = none := by kernel_rfl
theorem ty_s71 : isStr Tryz.prog 71 = false := by kernel_rfl
theorem ty_b71 : isBoolT Tryz.prog 71 = false := by kernel_rfl
theorem ty_e71 : elemT Tryz.prog 71 = none := by kernel_rfl
theorem ty_f71_0 : fieldT Tryz.prog 71 0 = some (9, 0) := by kernel_rfl
theorem ty_f71_1 : fieldT Tryz.prog 71 1 = some (3, 1) := by kernel_rfl
theorem ty_pl71 : placesT Tryz.prog 71 = some [(0, 1), (1, 1)] := by kernel_rfl
theorem ty_eq71 : eqPl Tryz.prog 71 = some [(0, .s), (1, .n)] := by kernel_rfl
theorem ty_t71 : tapp Tryz.prog 71 = some (2, 24) := by kernel_rfl
theorem ty_c71 : tzc Tryz.prog 71 = some [.c (.string ⟨#[]⟩), .c (.int .i64 0)] := by kernel_rfl
theorem ty_y71 : zelem Tryz.prog 71 = some (.agg [.c (.string ⟨#[]⟩), .c (.int .i64 0)]) := by kernel_rfl
theorem ty_u72 : (Tryz.prog.underlying 72).isSome = true := by kernel_rfl
theorem ty_z72 : tsz Tryz.prog 72 = some 2 := by kernel_rfl
theorem ty_a72 : isAggT Tryz.prog 72 = some true := by kernel_rfl
theorem ty_i72 : intT Tryz.prog 72 = none := by kernel_rfl
theorem ty_s72 : isStr Tryz.prog 72 = false := by kernel_rfl
theorem ty_b72 : isBoolT Tryz.prog 72 = false := by kernel_rfl
theorem ty_e72 : elemT Tryz.prog 72 = none := by kernel_rfl
theorem ty_f72_0 : fieldT Tryz.prog 72 0 = some (9, 0) := by kernel_rfl
theorem ty_f72_1 : fieldT Tryz.prog 72 1 = some (3, 1) := by kernel_rfl
theorem ty_pl72 : placesT Tryz.prog 72 = some [(0, 1), (1, 1)] := by kernel_rfl
theorem ty_eq72 : eqPl Tryz.prog 72 = some [(0, .s), (1, .n)] := by kernel_rfl
theorem ty_t72 : tapp Tryz.prog 72 = some (2, 24) := by kernel_rfl
theorem ty_c72 : tzc Tryz.prog 72 = some [.c (.string ⟨#[]⟩), .c (.int .i64 0)] := by kernel_rfl
theorem ty_y72 : zelem Tryz.prog 72 = some (.agg [.c (.string ⟨#[]⟩), .c (.int .i64 0)]) := by kernel_rfl
theorem ty_u78 : (Tryz.prog.underlying 78).isSome = true := by kernel_rfl
theorem ty_z78 : tsz Tryz.prog 78 = some 1 := by kernel_rfl
theorem ty_a78 : isAggT Tryz.prog 78 = some false := by kernel_rfl
theorem ty_i78 : intT Tryz.prog 78 = none := by kernel_rfl
theorem ty_s78 : isStr Tryz.prog 78 = false := by kernel_rfl
theorem ty_b78 : isBoolT Tryz.prog 78 = false := by kernel_rfl
theorem ty_e78 : elemT Tryz.prog 78 = some 9 := by kernel_rfl
theorem ty_t78 : tapp Tryz.prog 78 = some (1, 24) := by kernel_rfl
theorem ty_c78 : tzc Tryz.prog 78 = some [.c (.slice none 0 0)] := by kernel_rfl
theorem ty_y78 : zelem Tryz.prog 78 = some (.c (.slice none 0 0)) := by kernel_rfl
theorem ty_u79 : (Tryz.prog.underlying 79).isSome = true := by kernel_rfl
theorem ty_z79 : tsz Tryz.prog 79 = some 1 := by kernel_rfl
theorem ty_a79 : isAggT Tryz.prog 79 = some false := by kernel_rfl
theorem ty_i79 : intT Tryz.prog 79 = none := by kernel_rfl
theorem ty_s79 : isStr Tryz.prog 79 = false := by kernel_rfl
theorem ty_b79 : isBoolT Tryz.prog 79 = false := by kernel_rfl
theorem ty_e79 : elemT Tryz.prog 79 = some 5 := by kernel_rfl
theorem ty_t79 : tapp Tryz.prog 79 = some (1, 24) := by kernel_rfl
theorem ty_c79 : tzc Tryz.prog 79 = some [.c (.slice none 0 0)] := by kernel_rfl
theorem ty_y79 : zelem Tryz.prog 79 = some (.c (.slice none 0 0)) := by kernel_rfl
theorem ty_u90 : (Tryz.prog.underlying 90).isSome = true := by kernel_rfl
theorem ty_z90 : tsz Tryz.prog 90 = some 3 := by kernel_rfl
theorem ty_a90 : isAggT Tryz.prog 90 = some true := by kernel_rfl
theorem ty_i90 : intT Tryz.prog 90 = none := by kernel_rfl
theorem ty_s90 : isStr Tryz.prog 90 = false := by kernel_rfl
theorem ty_b90 : isBoolT Tryz.prog 90 = false := by kernel_rfl
theorem ty_e90 : elemT Tryz.prog 90 = none := by kernel_rfl
theorem ty_f90_0 : fieldT Tryz.prog 90 0 = some (9, 0) := by kernel_rfl
theorem ty_f90_1 : fieldT Tryz.prog 90 1 = some (3, 1) := by kernel_rfl
theorem ty_f90_2 : fieldT Tryz.prog 90 2 = some (3, 2) := by kernel_rfl
theorem ty_pl90 : placesT Tryz.prog 90 = some [(0, 1), (1, 1), (2, 1)] := by kernel_rfl
theorem ty_eq90 : eqPl Tryz.prog 90 = some [(0, .s), (1, .n), (2, .n)] := by kernel_rfl
theorem ty_t90 : tapp Tryz.prog 90 = some (3, 32) := by kernel_rfl
theorem ty_c90 : tzc Tryz.prog 90 = some [.c (.string ⟨#[]⟩), .c (.int .i64 0), .c (.int .i64 0)] := by kernel_rfl
theorem ty_y90 : zelem Tryz.prog 90 = some (.agg [.c (.string ⟨#[]⟩), .c (.int .i64 0), .c (.int .i64 0)]) := by kernel_rfl
theorem ty_u91 : (Tryz.prog.underlying 91).isSome = true := by kernel_rfl
theorem ty_z91 : tsz Tryz.prog 91 = some 3 := by kernel_rfl
theorem ty_a91 : isAggT Tryz.prog 91 = some true := by kernel_rfl
theorem ty_i91 : intT Tryz.prog 91 = none := by kernel_rfl
theorem ty_s91 : isStr Tryz.prog 91 = false := by kernel_rfl
theorem ty_b91 : isBoolT Tryz.prog 91 = false := by kernel_rfl
theorem ty_e91 : elemT Tryz.prog 91 = none := by kernel_rfl
theorem ty_f91_0 : fieldT Tryz.prog 91 0 = some (9, 0) := by kernel_rfl
theorem ty_f91_1 : fieldT Tryz.prog 91 1 = some (3, 1) := by kernel_rfl
theorem ty_f91_2 : fieldT Tryz.prog 91 2 = some (3, 2) := by kernel_rfl
theorem ty_pl91 : placesT Tryz.prog 91 = some [(0, 1), (1, 1), (2, 1)] := by kernel_rfl
theorem ty_eq91 : eqPl Tryz.prog 91 = some [(0, .s), (1, .n), (2, .n)] := by kernel_rfl
theorem ty_t91 : tapp Tryz.prog 91 = some (3, 32) := by kernel_rfl
theorem ty_c91 : tzc Tryz.prog 91 = some [.c (.string ⟨#[]⟩), .c (.int .i64 0), .c (.int .i64 0)] := by kernel_rfl
theorem ty_y91 : zelem Tryz.prog 91 = some (.agg [.c (.string ⟨#[]⟩), .c (.int .i64 0), .c (.int .i64 0)]) := by kernel_rfl
theorem ty_u99 : (Tryz.prog.underlying 99).isSome = true := by kernel_rfl
theorem ty_z99 : tsz Tryz.prog 99 = some 1 := by kernel_rfl
theorem ty_a99 : isAggT Tryz.prog 99 = some false := by kernel_rfl
theorem ty_i99 : intT Tryz.prog 99 = none := by kernel_rfl
theorem ty_s99 : isStr Tryz.prog 99 = false := by kernel_rfl
theorem ty_b99 : isBoolT Tryz.prog 99 = false := by kernel_rfl
theorem ty_e99 : elemT Tryz.prog 99 = some 101 := by kernel_rfl
theorem ty_t99 : tapp Tryz.prog 99 = some (1, 24) := by kernel_rfl
theorem ty_c99 : tzc Tryz.prog 99 = some [.c (.slice none 0 0)] := by kernel_rfl
theorem ty_y99 : zelem Tryz.prog 99 = some (.c (.slice none 0 0)) := by kernel_rfl
theorem ty_u101 : (Tryz.prog.underlying 101).isSome = true := by kernel_rfl
theorem ty_z101 : tsz Tryz.prog 101 = some 1 := by kernel_rfl
theorem ty_a101 : isAggT Tryz.prog 101 = some false := by kernel_rfl
theorem ty_i101 : intT Tryz.prog 101 = none := by kernel_rfl
theorem ty_s101 : isStr Tryz.prog 101 = false := by kernel_rfl
theorem ty_b101 : isBoolT Tryz.prog 101 = false := by kernel_rfl
theorem ty_e101 : elemT Tryz.prog 101 = none := by kernel_rfl
theorem ty_t101 : tapp Tryz.prog 101 = some (1, 16) := by kernel_rfl
theorem ty_u111 : (Tryz.prog.underlying 111).isSome = true := by kernel_rfl
theorem ty_z111 : tsz Tryz.prog 111 = some 1 := by kernel_rfl
theorem ty_a111 : isAggT Tryz.prog 111 = some false := by kernel_rfl
theorem ty_i111 : intT Tryz.prog 111 = none := by kernel_rfl
theorem ty_s111 : isStr Tryz.prog 111 = false := by kernel_rfl
theorem ty_b111 : isBoolT Tryz.prog 111 = false := by kernel_rfl
theorem ty_e111 : elemT Tryz.prog 111 = none := by kernel_rfl
theorem ty_p111 : isPtr Tryz.prog 111 = true := by kernel_rfl
theorem ty_q111 : ptrTo Tryz.prog 111 = some 35 := by kernel_rfl
theorem ty_t111 : tapp Tryz.prog 111 = some (1, 8) := by kernel_rfl
theorem ty_c111 : tzc Tryz.prog 111 = some [.c (.pointer none)] := by kernel_rfl
theorem ty_y111 : zelem Tryz.prog 111 = some (.c (.pointer none)) := by kernel_rfl
theorem ty_u117 : (Tryz.prog.underlying 117).isSome = true := by kernel_rfl
theorem ty_z117 : tsz Tryz.prog 117 = some 1 := by kernel_rfl
theorem ty_a117 : isAggT Tryz.prog 117 = some false := by kernel_rfl
theorem ty_i117 : intT Tryz.prog 117 = none := by kernel_rfl
theorem ty_s117 : isStr Tryz.prog 117 = false := by kernel_rfl
theorem ty_b117 : isBoolT Tryz.prog 117 = false := by kernel_rfl
theorem ty_e117 : elemT Tryz.prog 117 = none := by kernel_rfl
theorem ty_p117 : isPtr Tryz.prog 117 = true := by kernel_rfl
theorem ty_q117 : ptrTo Tryz.prog 117 = some 37 := by kernel_rfl
theorem ty_t117 : tapp Tryz.prog 117 = some (1, 8) := by kernel_rfl
theorem ty_c117 : tzc Tryz.prog 117 = some [.c (.pointer none)] := by kernel_rfl
theorem ty_y117 : zelem Tryz.prog 117 = some (.c (.pointer none)) := by kernel_rfl
theorem ty_u125 : (Tryz.prog.underlying 125).isSome = true := by kernel_rfl
theorem ty_z125 : tsz Tryz.prog 125 = some 1 := by kernel_rfl
theorem ty_a125 : isAggT Tryz.prog 125 = some false := by kernel_rfl
theorem ty_i125 : intT Tryz.prog 125 = none := by kernel_rfl
theorem ty_s125 : isStr Tryz.prog 125 = false := by kernel_rfl
theorem ty_b125 : isBoolT Tryz.prog 125 = false := by kernel_rfl
theorem ty_e125 : elemT Tryz.prog 125 = none := by kernel_rfl
theorem ty_p125 : isPtr Tryz.prog 125 = true := by kernel_rfl
theorem ty_q125 : ptrTo Tryz.prog 125 = some 40 := by kernel_rfl
theorem ty_t125 : tapp Tryz.prog 125 = some (1, 8) := by kernel_rfl
theorem ty_c125 : tzc Tryz.prog 125 = some [.c (.pointer none)] := by kernel_rfl
theorem ty_y125 : zelem Tryz.prog 125 = some (.c (.pointer none)) := by kernel_rfl
theorem ty_u129 : (Tryz.prog.underlying 129).isSome = true := by kernel_rfl
theorem ty_z129 : tsz Tryz.prog 129 = some 1 := by kernel_rfl
theorem ty_a129 : isAggT Tryz.prog 129 = some false := by kernel_rfl
theorem ty_i129 : intT Tryz.prog 129 = none := by kernel_rfl
theorem ty_s129 : isStr Tryz.prog 129 = false := by kernel_rfl
theorem ty_b129 : isBoolT Tryz.prog 129 = false := by kernel_rfl
theorem ty_e129 : elemT Tryz.prog 129 = none := by kernel_rfl
theorem ty_t129 : tapp Tryz.prog 129 = some (1, 8) := by kernel_rfl
theorem ty_u132 : (Tryz.prog.underlying 132).isSome = true := by kernel_rfl
theorem ty_z132 : tsz Tryz.prog 132 = some 1 := by kernel_rfl
theorem ty_a132 : isAggT Tryz.prog 132 = some false := by kernel_rfl
theorem ty_i132 : intT Tryz.prog 132 = none := by kernel_rfl
theorem ty_s132 : isStr Tryz.prog 132 = false := by kernel_rfl
theorem ty_b132 : isBoolT Tryz.prog 132 = false := by kernel_rfl
theorem ty_e132 : elemT Tryz.prog 132 = some 22 := by kernel_rfl
theorem ty_t132 : tapp Tryz.prog 132 = some (1, 24) := by kernel_rfl
theorem ty_c132 : tzc Tryz.prog 132 = some [.c (.slice none 0 0)] := by kernel_rfl
theorem ty_y132 : zelem Tryz.prog 132 = some (.c (.slice none 0 0)) := by kernel_rfl
theorem ty_u135 : (Tryz.prog.underlying 135).isSome = true := by kernel_rfl
theorem ty_z135 : tsz Tryz.prog 135 = some 1 := by kernel_rfl
theorem ty_a135 : isAggT Tryz.prog 135 = some false := by kernel_rfl
theorem ty_i135 : intT Tryz.prog 135 = none := by kernel_rfl
theorem ty_s135 : isStr Tryz.prog 135 = false := by kernel_rfl
theorem ty_b135 : isBoolT Tryz.prog 135 = false := by kernel_rfl
theorem ty_e135 : elemT Tryz.prog 135 = none := by kernel_rfl
theorem ty_t135 : tapp Tryz.prog 135 = some (1, 8) := by kernel_rfl
theorem ty_c135 : tzc Tryz.prog 135 = some [.c (.map none)] := by kernel_rfl
theorem ty_y135 : zelem Tryz.prog 135 = some (.c (.map none)) := by kernel_rfl
theorem ty_u150 : (Tryz.prog.underlying 150).isSome = true := by kernel_rfl
theorem ty_z150 : tsz Tryz.prog 150 = some 1 := by kernel_rfl
theorem ty_a150 : isAggT Tryz.prog 150 = some false := by kernel_rfl
theorem ty_i150 : intT Tryz.prog 150 = some .i64 := by kernel_rfl
theorem ty_s150 : isStr Tryz.prog 150 = false := by kernel_rfl
theorem ty_b150 : isBoolT Tryz.prog 150 = false := by kernel_rfl
theorem ty_e150 : elemT Tryz.prog 150 = none := by kernel_rfl
theorem ty_t150 : tapp Tryz.prog 150 = some (1, 8) := by kernel_rfl
theorem ty_c150 : tzc Tryz.prog 150 = some [.c (.int .i64 0)] := by kernel_rfl
theorem ty_y150 : zelem Tryz.prog 150 = some (.c (.int .i64 0)) := by kernel_rfl
theorem ty_u157 : (Tryz.prog.underlying 157).isSome = true := by kernel_rfl
theorem ty_z157 : tsz Tryz.prog 157 = some 1 := by kernel_rfl
theorem ty_a157 : isAggT Tryz.prog 157 = some false := by kernel_rfl
theorem ty_i157 : intT Tryz.prog 157 = some .u32 := by kernel_rfl
theorem ty_s157 : isStr Tryz.prog 157 = false := by kernel_rfl
theorem ty_b157 : isBoolT Tryz.prog 157 = false := by kernel_rfl
theorem ty_e157 : elemT Tryz.prog 157 = none := by kernel_rfl
theorem ty_t157 : tapp Tryz.prog 157 = some (1, 4) := by kernel_rfl
theorem ty_c157 : tzc Tryz.prog 157 = some [.c (.int .u32 0)] := by kernel_rfl
theorem ty_y157 : zelem Tryz.prog 157 = some (.c (.int .u32 0)) := by kernel_rfl
theorem ty_u164 : (Tryz.prog.underlying 164).isSome = true := by kernel_rfl
theorem ty_z164 : tsz Tryz.prog 164 = some 1 := by kernel_rfl
theorem ty_a164 : isAggT Tryz.prog 164 = some false := by kernel_rfl
theorem ty_i164 : intT Tryz.prog 164 = some .u64 := by kernel_rfl
theorem ty_s164 : isStr Tryz.prog 164 = false := by kernel_rfl
theorem ty_b164 : isBoolT Tryz.prog 164 = false := by kernel_rfl
theorem ty_e164 : elemT Tryz.prog 164 = none := by kernel_rfl
theorem ty_t164 : tapp Tryz.prog 164 = some (1, 8) := by kernel_rfl
theorem ty_c164 : tzc Tryz.prog 164 = some [.c (.int .u64 0)] := by kernel_rfl
theorem ty_y164 : zelem Tryz.prog 164 = some (.c (.int .u64 0)) := by kernel_rfl
theorem ty_u168 : (Tryz.prog.underlying 168).isSome = true := by kernel_rfl
theorem ty_z168 : tsz Tryz.prog 168 = some 1 := by kernel_rfl
theorem ty_a168 : isAggT Tryz.prog 168 = some false := by kernel_rfl
theorem ty_i168 : intT Tryz.prog 168 = none := by kernel_rfl
theorem ty_s168 : isStr Tryz.prog 168 = false := by kernel_rfl
theorem ty_b168 : isBoolT Tryz.prog 168 = false := by kernel_rfl
theorem ty_e168 : elemT Tryz.prog 168 = none := by kernel_rfl
theorem ty_p168 : isPtr Tryz.prog 168 = true := by kernel_rfl
theorem ty_q168 : ptrTo Tryz.prog 168 = some 3 := by kernel_rfl
theorem ty_t168 : tapp Tryz.prog 168 = some (1, 8) := by kernel_rfl
theorem ty_c168 : tzc Tryz.prog 168 = some [.c (.pointer none)] := by kernel_rfl
theorem ty_y168 : zelem Tryz.prog 168 = some (.c (.pointer none)) := by kernel_rfl
theorem ty_u172 : (Tryz.prog.underlying 172).isSome = true := by kernel_rfl
theorem ty_z172 : tsz Tryz.prog 172 = some 1 := by kernel_rfl
theorem ty_a172 : isAggT Tryz.prog 172 = some false := by kernel_rfl
theorem ty_i172 : intT Tryz.prog 172 = none := by kernel_rfl
theorem ty_s172 : isStr Tryz.prog 172 = false := by kernel_rfl
theorem ty_b172 : isBoolT Tryz.prog 172 = false := by kernel_rfl
theorem ty_e172 : elemT Tryz.prog 172 = none := by kernel_rfl
theorem ty_p172 : isPtr Tryz.prog 172 = true := by kernel_rfl
theorem ty_q172 : ptrTo Tryz.prog 172 = some 164 := by kernel_rfl
theorem ty_t172 : tapp Tryz.prog 172 = some (1, 8) := by kernel_rfl
theorem ty_c172 : tzc Tryz.prog 172 = some [.c (.pointer none)] := by kernel_rfl
theorem ty_y172 : zelem Tryz.prog 172 = some (.c (.pointer none)) := by kernel_rfl
theorem ty_u177 : (Tryz.prog.underlying 177).isSome = true := by kernel_rfl
theorem ty_z177 : tsz Tryz.prog 177 = some 4 := by kernel_rfl
theorem ty_a177 : isAggT Tryz.prog 177 = some true := by kernel_rfl
theorem ty_i177 : intT Tryz.prog 177 = none := by kernel_rfl
theorem ty_s177 : isStr Tryz.prog 177 = false := by kernel_rfl
theorem ty_b177 : isBoolT Tryz.prog 177 = false := by kernel_rfl
theorem ty_e177 : elemT Tryz.prog 177 = none := by kernel_rfl
theorem ty_f177_0 : fieldT Tryz.prog 177 0 = some (17, 0) := by kernel_rfl
theorem ty_f177_1 : fieldT Tryz.prog 177 1 = some (17, 1) := by kernel_rfl
theorem ty_f177_2 : fieldT Tryz.prog 177 2 = some (17, 2) := by kernel_rfl
theorem ty_f177_3 : fieldT Tryz.prog 177 3 = some (9, 3) := by kernel_rfl
theorem ty_pl177 : placesT Tryz.prog 177 = some [(0, 1), (1, 1), (2, 1), (3, 1)] := by kernel_rfl
theorem ty_t177 : tapp Tryz.prog 177 = some (4, 40) := by kernel_rfl
theorem ty_c177 : tzc Tryz.prog 177 = some [.c (.pointer none), .c (.pointer none), .c (.pointer none), .c (.string ⟨#[]⟩)] := by kernel_rfl
theorem ty_y177 : zelem Tryz.prog 177 = some (.agg [.c (.pointer none), .c (.pointer none), .c (.pointer none), .c (.string ⟨#[]⟩)]) := by kernel_rfl
theorem ty_u179 : (Tryz.prog.underlying 179).isSome = true := by kernel_rfl
theorem ty_z179 : tsz Tryz.prog 179 = some 0 := by kernel_rfl
theorem ty_a179 : isAggT Tryz.prog 179 = some true := by kernel_rfl
theorem ty_i179 : intT Tryz.prog 179 = none := by kernel_rfl
theorem ty_s179 : isStr Tryz.prog 179 = false := by kernel_rfl
theorem ty_b179 : isBoolT Tryz.prog 179 = false := by kernel_rfl
theorem ty_e179 : elemT Tryz.prog 179 = none := by kernel_rfl
theorem ty_r179 : arrayT Tryz.prog 179 = some (0, 16) := by kernel_rfl
theorem ty_u180 : (Tryz.prog.underlying 180).isSome = true := by kernel_rfl
theorem ty_z180 : tsz Tryz.prog 180 = some 0 := by kernel_rfl
theorem ty_a180 : isAggT Tryz.prog 180 = some true := by kernel_rfl
theorem ty_i180 : intT Tryz.prog 180 = none := by kernel_rfl
theorem ty_s180 : isStr Tryz.prog 180 = false := by kernel_rfl
theorem ty_b180 : isBoolT Tryz.prog 180 = false := by kernel_rfl
theorem ty_e180 : elemT Tryz.prog 180 = none := by kernel_rfl
theorem ty_f180_0 : fieldT Tryz.prog 180 0 = some (179, 0) := by kernel_rfl
theorem ty_pl180 : placesT Tryz.prog 180 = some [(0, 0)] := by kernel_rfl
theorem ty_u181 : (Tryz.prog.underlying 181).isSome = true := by kernel_rfl
theorem ty_z181 : tsz Tryz.prog 181 = some 0 := by kernel_rfl
theorem ty_a181 : isAggT Tryz.prog 181 = some true := by kernel_rfl
theorem ty_i181 : intT Tryz.prog 181 = none := by kernel_rfl
theorem ty_s181 : isStr Tryz.prog 181 = false := by kernel_rfl
theorem ty_b181 : isBoolT Tryz.prog 181 = false := by kernel_rfl
theorem ty_e181 : elemT Tryz.prog 181 = none := by kernel_rfl
theorem ty_f181_0 : fieldT Tryz.prog 181 0 = some (179, 0) := by kernel_rfl
theorem ty_pl181 : placesT Tryz.prog 181 = some [(0, 0)] := by kernel_rfl
theorem ty_u183 : (Tryz.prog.underlying 183).isSome = true := by kernel_rfl
theorem ty_z183 : tsz Tryz.prog 183 = some 1 := by kernel_rfl
theorem ty_a183 : isAggT Tryz.prog 183 = some false := by kernel_rfl
theorem ty_i183 : intT Tryz.prog 183 = some .u8 := by kernel_rfl
theorem ty_s183 : isStr Tryz.prog 183 = false := by kernel_rfl
theorem ty_b183 : isBoolT Tryz.prog 183 = false := by kernel_rfl
theorem ty_e183 : elemT Tryz.prog 183 = none := by kernel_rfl
theorem ty_t183 : tapp Tryz.prog 183 = some (1, 1) := by kernel_rfl
theorem ty_c183 : tzc Tryz.prog 183 = some [.c (.int .u8 0)] := by kernel_rfl
theorem ty_y183 : zelem Tryz.prog 183 = some (.c (.int .u8 0)) := by kernel_rfl
theorem ty_u184 : (Tryz.prog.underlying 184).isSome = true := by kernel_rfl
theorem ty_z184 : tsz Tryz.prog 184 = some 1 := by kernel_rfl
theorem ty_a184 : isAggT Tryz.prog 184 = some false := by kernel_rfl
theorem ty_i184 : intT Tryz.prog 184 = some .u8 := by kernel_rfl
theorem ty_s184 : isStr Tryz.prog 184 = false := by kernel_rfl
theorem ty_b184 : isBoolT Tryz.prog 184 = false := by kernel_rfl
theorem ty_e184 : elemT Tryz.prog 184 = none := by kernel_rfl
theorem ty_t184 : tapp Tryz.prog 184 = some (1, 1) := by kernel_rfl
theorem ty_c184 : tzc Tryz.prog 184 = some [.c (.int .u8 0)] := by kernel_rfl
theorem ty_y184 : zelem Tryz.prog 184 = some (.c (.int .u8 0)) := by kernel_rfl
theorem ty_u185 : (Tryz.prog.underlying 185).isSome = true := by kernel_rfl
theorem ty_u186 : (Tryz.prog.underlying 186).isSome = true := by kernel_rfl
theorem ty_z186 : tsz Tryz.prog 186 = some 1 := by kernel_rfl
theorem ty_a186 : isAggT Tryz.prog 186 = some false := by kernel_rfl
theorem ty_i186 : intT Tryz.prog 186 = none := by kernel_rfl
theorem ty_s186 : isStr Tryz.prog 186 = false := by kernel_rfl
theorem ty_b186 : isBoolT Tryz.prog 186 = false := by kernel_rfl
theorem ty_e186 : elemT Tryz.prog 186 = none := by kernel_rfl
theorem ty_p186 : isPtr Tryz.prog 186 = true := by kernel_rfl
theorem ty_q186 : ptrTo Tryz.prog 186 = some 5 := by kernel_rfl
theorem ty_t186 : tapp Tryz.prog 186 = some (1, 8) := by kernel_rfl
theorem ty_c186 : tzc Tryz.prog 186 = some [.c (.pointer none)] := by kernel_rfl
theorem ty_y186 : zelem Tryz.prog 186 = some (.c (.pointer none)) := by kernel_rfl
theorem ty_u187 : (Tryz.prog.underlying 187).isSome = true := by kernel_rfl
theorem ty_z187 : tsz Tryz.prog 187 = some 1 := by kernel_rfl
theorem ty_a187 : isAggT Tryz.prog 187 = some false := by kernel_rfl
theorem ty_i187 : intT Tryz.prog 187 = some .i32 := by kernel_rfl
theorem ty_s187 : isStr Tryz.prog 187 = false := by kernel_rfl
theorem ty_b187 : isBoolT Tryz.prog 187 = false := by kernel_rfl
theorem ty_e187 : elemT Tryz.prog 187 = none := by kernel_rfl
theorem ty_t187 : tapp Tryz.prog 187 = some (1, 4) := by kernel_rfl
theorem ty_c187 : tzc Tryz.prog 187 = some [.c (.int .i32 0)] := by kernel_rfl
theorem ty_y187 : zelem Tryz.prog 187 = some (.c (.int .i32 0)) := by kernel_rfl
theorem ty_u188 : (Tryz.prog.underlying 188).isSome = true := by kernel_rfl
theorem ty_z188 : tsz Tryz.prog 188 = some 1 := by kernel_rfl
theorem ty_a188 : isAggT Tryz.prog 188 = some false := by kernel_rfl
theorem ty_i188 : intT Tryz.prog 188 = some .i32 := by kernel_rfl
theorem ty_s188 : isStr Tryz.prog 188 = false := by kernel_rfl
theorem ty_b188 : isBoolT Tryz.prog 188 = false := by kernel_rfl
theorem ty_e188 : elemT Tryz.prog 188 = none := by kernel_rfl
theorem ty_t188 : tapp Tryz.prog 188 = some (1, 4) := by kernel_rfl
theorem ty_c188 : tzc Tryz.prog 188 = some [.c (.int .i32 0)] := by kernel_rfl
theorem ty_y188 : zelem Tryz.prog 188 = some (.c (.int .i32 0)) := by kernel_rfl
theorem ty_u189 : (Tryz.prog.underlying 189).isSome = true := by kernel_rfl
theorem ty_z189 : tsz Tryz.prog 189 = some 11 := by kernel_rfl
theorem ty_a189 : isAggT Tryz.prog 189 = some true := by kernel_rfl
theorem ty_i189 : intT Tryz.prog 189 = none := by kernel_rfl
theorem ty_s189 : isStr Tryz.prog 189 = false := by kernel_rfl
theorem ty_b189 : isBoolT Tryz.prog 189 = false := by kernel_rfl
theorem ty_e189 : elemT Tryz.prog 189 = none := by kernel_rfl
theorem ty_f189_0 : fieldT Tryz.prog 189 0 = some (12, 0) := by kernel_rfl
theorem ty_f189_1 : fieldT Tryz.prog 189 1 = some (12, 1) := by kernel_rfl
theorem ty_f189_2 : fieldT Tryz.prog 189 2 = some (157, 2) := by kernel_rfl
theorem ty_f189_3 : fieldT Tryz.prog 189 3 = some (183, 3) := by kernel_rfl
theorem ty_f189_4 : fieldT Tryz.prog 189 4 = some (5, 4) := by kernel_rfl
theorem ty_f189_5 : fieldT Tryz.prog 189 5 = some (5, 5) := by kernel_rfl
theorem ty_f189_6 : fieldT Tryz.prog 189 6 = some (184, 6) := by kernel_rfl
theorem ty_f189_7 : fieldT Tryz.prog 189 7 = some (185, 7) := by kernel_rfl
theorem ty_f189_8 : fieldT Tryz.prog 189 8 = some (186, 8) := by kernel_rfl
theorem ty_f189_9 : fieldT Tryz.prog 189 9 = some (187, 9) := by kernel_rfl
theorem ty_f189_10 : fieldT Tryz.prog 189 10 = some (188, 10) := by kernel_rfl
theorem ty_pl189 : placesT Tryz.prog 189 = some [(0, 1), (1, 1), (2, 1), (3, 1), (4, 1), (5, 1), (6, 1), (7, 1), (8, 1), (9, 1), (10, 1)] := by kernel_rfl
theorem ty_t189 : tapp Tryz.prog 189 = some (11, 48) := by kernel_rfl
theorem ty_c189 : tzc Tryz.prog 189 = some [.c (.int .u64 0), .c (.int .u64 0), .c (.int .u32 0), .c (.int .u8 0), .c (.int .u8 0), .c (.int .u8 0), .c (.int .u8 0), .c (.nilFunc), .c (.pointer none), .c (.int .i32 0), .c (.int .i32 0)] := by kernel_rfl
theorem ty_y189 : zelem Tryz.prog 189 = some (.agg [.c (.int .u64 0), .c (.int .u64 0), .c (.int .u32 0), .c (.int .u8 0), .c (.int .u8 0), .c (.int .u8 0), .c (.int .u8 0), .c (.nilFunc), .c (.pointer none), .c (.int .i32 0), .c (.int .i32 0)]) := by kernel_rfl
theorem ty_u190 : (Tryz.prog.underlying 190).isSome = true := by kernel_rfl
theorem ty_z190 : tsz Tryz.prog 190 = some 11 := by kernel_rfl
theorem ty_a190 : isAggT Tryz.prog 190 = some true := by kernel_rfl
theorem ty_i190 : intT Tryz.prog 190 = none := by kernel_rfl
theorem ty_s190 : isStr Tryz.prog 190 = false := by kernel_rfl
theorem ty_b190 : isBoolT Tryz.prog 190 = false := by kernel_rfl
theorem ty_e190 : elemT Tryz.prog 190 = none := by kernel_rfl
theorem ty_f190_0 : fieldT Tryz.prog 190 0 = some (12, 0) := by kernel_rfl
theorem ty_f190_1 : fieldT Tryz.prog 190 1 = some (12, 1) := by kernel_rfl
theorem ty_f190_2 : fieldT Tryz.prog 190 2 = some (157, 2) := by kernel_rfl
theorem ty_f190_3 : fieldT Tryz.prog 190 3 = some (183, 3) := by kernel_rfl
theorem ty_f190_4 : fieldT Tryz.prog 190 4 = some (5, 4) := by kernel_rfl
theorem ty_f190_5 : fieldT Tryz.prog 190 5 = some (5, 5) := by kernel_rfl
theorem ty_f190_6 : fieldT Tryz.prog 190 6 = some (184, 6) := by kernel_rfl
theorem ty_f190_7 : fieldT Tryz.prog 190 7 = some (185, 7) := by kernel_rfl
theorem ty_f190_8 : fieldT Tryz.prog 190 8 = some (186, 8) := by kernel_rfl
theorem ty_f190_9 : fieldT Tryz.prog 190 9 = some (187, 9) := by kernel_rfl
theorem ty_f190_10 : fieldT Tryz.prog 190 10 = some (188, 10) := by kernel_rfl
theorem ty_pl190 : placesT Tryz.prog 190 = some [(0, 1), (1, 1), (2, 1), (3, 1), (4, 1), (5, 1), (6, 1), (7, 1), (8, 1), (9, 1), (10, 1)] := by kernel_rfl
theorem ty_t190 : tapp Tryz.prog 190 = some (11, 48) := by kernel_rfl
theorem ty_c190 : tzc Tryz.prog 190 = some [.c (.int .u64 0), .c (.int .u64 0), .c (.int .u32 0), .c (.int .u8 0), .c (.int .u8 0), .c (.int .u8 0), .c (.int .u8 0), .c (.nilFunc), .c (.pointer none), .c (.int .i32 0), .c (.int .i32 0)] := by kernel_rfl
theorem ty_y190 : zelem Tryz.prog 190 = some (.agg [.c (.int .u64 0), .c (.int .u64 0), .c (.int .u32 0), .c (.int .u8 0), .c (.int .u8 0), .c (.int .u8 0), .c (.int .u8 0), .c (.nilFunc), .c (.pointer none), .c (.int .i32 0), .c (.int .i32 0)]) := by kernel_rfl
theorem ty_u191 : (Tryz.prog.underlying 191).isSome = true := by kernel_rfl
theorem ty_z191 : tsz Tryz.prog 191 = some 1 := by kernel_rfl
theorem ty_a191 : isAggT Tryz.prog 191 = some false := by kernel_rfl
theorem ty_i191 : intT Tryz.prog 191 = none := by kernel_rfl
theorem ty_s191 : isStr Tryz.prog 191 = false := by kernel_rfl
theorem ty_b191 : isBoolT Tryz.prog 191 = false := by kernel_rfl
theorem ty_e191 : elemT Tryz.prog 191 = none := by kernel_rfl
theorem ty_t191 : tapp Tryz.prog 191 = some (1, 8) := by kernel_rfl
theorem ty_c191 : tzc Tryz.prog 191 = some [.c (.pointer none)] := by kernel_rfl
theorem ty_y191 : zelem Tryz.prog 191 = some (.c (.pointer none)) := by kernel_rfl
def tyf := And.intro @ty_u2 (And.intro @ty_z2 (And.intro @ty_a2 (And.intro @ty_i2 (And.intro @ty_s2 (And.intro @ty_b2 (And.intro @ty_e2 (And.intro @ty_t2 (And.intro @ty_c2 (And.intro @ty_y2 (And.intro @ty_u3 (And.intro @ty_z3 (And.intro @ty_a3 (And.intro @ty_i3 (And.intro @ty_s3 (And.intro @ty_b3 (And.intro @ty_e3 (And.intro @ty_t3 (And.intro @ty_c3 (And.intro @ty_y3 (And.intro @ty_u4 (And.intro @ty_z4 (And.intro @ty_a4 (And.intro @ty_i4 (And.intro @ty_s4 (And.intro @ty_b4 (And.intro @ty_e4 (And.intro @ty_t4 (And.intro @ty_c4 (And.intro @ty_y4 (And.intro @ty_u5 (And.intro @ty_z5 (And.intro @ty_a5 (And.intro @ty_i5 (And.intro @ty_s5 (And.intro @ty_b5 (And.intro @ty_e5 (And.intro @ty_t5 (And.intro @ty_c5 (And.intro @ty_y5 (And.intro @ty_u6 (And.intro @ty_z6 (And.intro @ty_a6 (And.intro @ty_i6 (And.intro @ty_s6 (And.intro @ty_b6 (And.intro @ty_e6 (And.intro @ty_t6 (And.intro @ty_c6 (And.intro @ty_y6 (And.intro @ty_u7 (And.intro @ty_z7 (And.intro @ty_a7 (And.intro @ty_i7 (And.intro @ty_s7 (And.intro @ty_b7 (And.intro @ty_e7 (And.intro @ty_f7_0 (And.intro @ty_f7_1 (And.intro @ty_f7_2 (And.intro @ty_f7_3 (And.intro @ty_pl7 (And.intro @ty_eq7 (And.intro @ty_t7 (And.intro @ty_c7 (And.intro @ty_y7 (And.intro @ty_u9 (And.intro @ty_z9 (And.intro @ty_a9 (And.intro @ty_i9 (And.intro @ty_s9 (And.intro @ty_b9 (And.intro @ty_e9 (And.intro @ty_t9 (And.intro @ty_c9 (And.intro @ty_y9 (And.intro @ty_u12 (And.intro @ty_z12 (And.intro @ty_a12 (And.intro @ty_i12 (And.intro @ty_s12 (And.intro @ty_b12 (And.intro @ty_e12 (And.intro @ty_t12 (And.intro @ty_c12 (And.intro @ty_y12 (And.intro @ty_u13 (And.intro @ty_z13 (And.intro @ty_a13 (And.intro @ty_i13 (And.intro @ty_s13 (And.intro @ty_b13 (And.intro @ty_e13 (And.intro @ty_f13_0 (And.intro @ty_f13_1 (And.intro @ty_pl13 ((And.intro @ty_t13 (And.intro @ty_c13 (And.intro @ty_y13 (And.intro @ty_u16 (And.intro @ty_z16 (And.intro @ty_a16 (And.intro @ty_i16 (And.intro @ty_s16 (And.intro @ty_b16 (And.intro @ty_e16 (And.intro @ty_p16 (And.intro @ty_q16 (And.intro @ty_t16 (And.intro @ty_c16 (And.intro @ty_y16 (And.intro @ty_u17 (And.intro @ty_z17 (And.intro @ty_a17 (And.intro @ty_i17 (And.intro @ty_s17 (And.intro @ty_b17 (And.intro @ty_e17 (And.intro @ty_p17 (And.intro @ty_q17 (And.intro @ty_t17 (And.intro @ty_c17 (And.intro @ty_y17 (And.intro @ty_u18 (And.intro @ty_z18 (And.intro @ty_a18 (And.intro @ty_i18 (And.intro @ty_s18 (And.intro @ty_b18 (And.intro @ty_e18 (And.intro @ty_f18_0 (And.intro @ty_pl18 (And.intro @ty_t18 (And.intro @ty_c18 (And.intro @ty_y18 (And.intro @ty_u21 (And.intro @ty_z21 (And.intro @ty_a21 (And.intro @ty_i21 (And.intro @ty_s21 (And.intro @ty_b21 (And.intro @ty_e21 (And.intro @ty_t21 (And.intro @ty_c21 (And.intro @ty_y21 (And.intro @ty_u22 (And.intro @ty_z22 (And.intro @ty_a22 (And.intro @ty_i22 (And.intro @ty_s22 (And.intro @ty_b22 (And.intro @ty_e22 (And.intro @ty_t22 (And.intro @ty_c22 (And.intro @ty_y22 (And.intro @ty_u23 (And.intro @ty_z23 (And.intro @ty_a23 (And.intro @ty_i23 (And.intro @ty_s23 (And.intro @ty_b23 (And.intro @ty_e23 (And.intro @ty_f23_0 (And.intro @ty_f23_1 (And.intro @ty_f23_2 (And.intro @ty_f23_3 (And.intro @ty_pl23 (And.intro @ty_eq23 (And.intro @ty_t23 (And.intro @ty_c23 (And.intro @ty_y23 (And.intro @ty_u24 (And.intro @ty_z24 (And.intro @ty_a24 (And.intro @ty_i24 (And.intro @ty_s24 (And.intro @ty_b24 (And.intro @ty_e24 (And.intro @ty_f24_0 (And.intro @ty_f24_1 (And.intro @ty_f24_2 (And.intro @ty_f24_3 (And.intro @ty_pl24 (And.intro @ty_eq24 (And.intro @ty_t24 (And.intro @ty_c24 (And.intro @ty_y24 (And.intro @ty_u26 (And.intro @ty_z26 (And.intro @ty_a26 (And.intro @ty_i26 (And.intro @ty_s26 (And.intro @ty_b26 (And.intro @ty_e26 (And.intro @ty_f26_0 (And.intro @ty_f26_1 (And.intro @ty_f26_2 (And.intro @ty_pl26 (And.intro @ty_eq26 (And.intro @ty_t26 (And.intro @ty_c26 (And.intro @ty_y26 (And.intro @ty_u27 (And.intro @ty_z27 (And.intro @ty_a27 (And.intro @ty_i27 (And.intro @ty_s27 (And.intro @ty_b27 (And.intro @ty_e27 (And.intro @ty_f27_0 (And.intro @ty_f27_1 (And.intro @ty_f27_2 (And.intro @ty_pl27 (And.intro @ty_eq27 (And.intro @ty_t27 (And.intro @ty_c27 (And.intro @ty_y27 (And.intro @ty_u28 (And.intro @ty_z28 (And.intro @ty_a28 (And.intro @ty_i28 (And.intro @ty_s28 (And.intro @ty_b28 (And.intro @ty_e28 (And.intro @ty_t28 (And.intro @ty_c28 (And.intro @ty_y28 (And.intro @ty_u29 (And.intro @ty_z29 (And.intro @ty_a29 (And.intro @ty_i29 (And.intro @ty_s29 (And.intro @ty_b29 (And.intro @ty_e29 (And.intro @ty_f29_0 (And.intro @ty_f29_1 (And.intro @ty_f29_2 (And.intro @ty_f29_3 (And.intro @ty_f29_4 (And.intro @ty_pl29 (And.intro @ty_t29 (And.intro @ty_c29 (And.intro @ty_y29 (And.intro @ty_u30 (And.intro @ty_z30 (And.intro @ty_a30 (And.intro @ty_i30 (And.intro @ty_s30 (And.intro @ty_b30 (And.intro @ty_e30 (And.intro @ty_f30_0 (And.intro @ty_f30_1 (And.intro @ty_f30_2 (And.intro @ty_f30_3 (And.intro @ty_f30_4 (And.intro @ty_pl30 (And.intro @ty_t30 (And.intro @ty_c30 (And.intro @ty_y30 (And.intro @ty_u31 (And.intro @ty_z31 (And.intro @ty_a31 (And.intro @ty_i31 (And.intro @ty_s31 (And.intro @ty_b31 (And.intro @ty_e31 (And.intro @ty_f31_0 (And.intro @ty_f31_1 (And.intro @ty_f31_2 (And.intro @ty_pl31 (And.intro @ty_t31 (And.intro @ty_c31 (And.intro @ty_y31 (And.intro @ty_u32 (And.intro @ty_z32 (And.intro @ty_a32 (And.intro @ty_i32 (And.intro @ty_s32 (And.intro @ty_b32 (And.intro @ty_e32 (And.intro @ty_f32_0 (And.intro @ty_f32_1 (And.intro @ty_f32_2 (And.intro @ty_pl32 (And.intro @ty_t32 (And.intro @ty_c32 (And.intro @ty_y32 (And.intro @ty_u33 (And.intro @ty_z33 (And.intro @ty_a33 (And.intro @ty_i33 (And.intro @ty_s33 (And.intro @ty_b33 (And.intro @ty_e33 (And.intro @ty_t33 (And.intro @ty_c33 (And.intro @ty_y33 (And.intro @ty_u34 (And.intro @ty_z34 (And.intro @ty_a34 (And.intro @ty_i34 (And.intro @ty_s34 (And.intro @ty_b34 (And.intro @ty_e34 (And.intro @ty_f34_0 (And.intro @ty_f34_1 (And.intro @ty_f34_2 (And.intro @ty_f34_3 (And.intro @ty_pl34 (And.intro @ty_t34 (And.intro @ty_c34 (And.intro @ty_y34 (And.intro @ty_u35 (And.intro @ty_z35 (And.intro @ty_a35 (And.intro @ty_i35 (And.intro @ty_s35 (And.intro @ty_b35 (And.intro @ty_e35 (And.intro @ty_f35_0 (And.intro @ty_f35_1 (And.intro @ty_f35_2 (And.intro @ty_f35_3 (And.intro @ty_pl35 (And.intro @ty_t35 (And.intro @ty_c35 (And.intro @ty_y35 (And.intro @ty_u36 (And.intro @ty_z36 (And.intro @ty_a36 (And.intro @ty_i36 (And.intro @ty_s36 (And.intro @ty_b36 (And.intro @ty_e36 (And.intro @ty_f36_0 (And.intro @ty_f36_1 (And.intro @ty_f36_2 (And.intro @ty_f36_3 (And.intro @ty_f36_4 (And.intro @ty_pl36 (And.intro @ty_t36 (And.intro @ty_c36 (And.intro @ty_y36 (And.intro @ty_u37 (And.intro @ty_z37 (And.intro @ty_a37 (And.intro @ty_i37 (And.intro @ty_s37 (And.intro @ty_b37 (And.intro @ty_e37 (And.intro @ty_f37_0 (And.intro @ty_f37_1 (And.intro @ty_f37_2 (And.intro @ty_f37_3 (And.intro @ty_f37_4 (And.intro @ty_pl37 (And.intro @ty_t37 (And.intro @ty_c37 (And.intro @ty_y37 (And.intro @ty_u38 (And.intro @ty_z38 (And.intro @ty_a38 (And.intro @ty_i38 (And.intro @ty_s38 (And.intro @ty_b38 (And.intro @ty_e38 (And.intro @ty_t38 (And.intro @ty_c38 (And.intro @ty_y38 (And.intro @ty_u39 (And.intro @ty_z39 (And.intro @ty_a39 (And.intro @ty_i39 (And.intro @ty_s39 (And.intro @ty_b39 (And.intro @ty_e39 (And.intro @ty_f39_0 (And.intro @ty_f39_1 (And.intro @ty_f39_2 (And.intro @ty_f39_3 (And.intro @ty_f39_4 (And.intro @ty_pl39 (And.intro @ty_t39 (And.intro @ty_c39 (And.intro @ty_y39 (And.intro @ty_u40 (And.intro @ty_z40 (And.intro @ty_a40 (And.intro @ty_i40 (And.intro @ty_s40 (And.intro @ty_b40 (And.intro @ty_e40 (And.intro @ty_f40_0 (And.intro @ty_f40_1 (And.intro @ty_f40_2 (And.intro @ty_f40_3 (And.intro @ty_f40_4 (And.intro @ty_pl40 (And.intro @ty_t40 (And.intro @ty_c40 (And.intro @ty_y40 (And.intro @ty_u41 (And.intro @ty_z41 (And.intro @ty_a41 (And.intro @ty_i41 (And.intro @ty_s41 (And.intro @ty_b41 (And.intro @ty_e41 (And.intro @ty_f41_0 (And.intro @ty_f41_1 (And.intro @ty_f41_2 (And.intro @ty_f41_3 (And.intro @ty_f41_4 (And.intro @ty_f41_5 (And.intro @ty_f41_6 (And.intro @ty_pl41 (And.intro @ty_t41 (And.intro @ty_c41 (And.intro @ty_y41 (And.intro @ty_u42 (And.intro @ty_z42 (And.intro @ty_a42 (And.intro @ty_i42 (And.intro @ty_s42 (And.intro @ty_b42 (And.intro @ty_e42 (And.intro @ty_f42_0 (And.intro @ty_f42_1 (And.intro @ty_f42_2 (And.intro @ty_f42_3 (And.intro @ty_f42_4 (And.intro @ty_f42_5 (And.intro @ty_f42_6 (And.intro @ty_pl42 (And.intro @ty_t42 (And.intro @ty_c42 (And.intro @ty_y42 (And.intro @ty_u43 (And.intro @ty_z43 (And.intro @ty_a43 (And.intro @ty_i43 (And.intro @ty_s43 (And.intro @ty_b43 (And.intro @ty_e43 (And.intro @ty_t43 (And.intro @ty_c43 (And.intro @ty_y43 (And.intro @ty_u50 (And.intro @ty_z50 (And.intro @ty_a50 (And.intro @ty_i50 (And.intro @ty_s50 (And.intro @ty_b50 (And.intro @ty_e50 (And.intro @ty_t50 (And.intro @ty_c50 (And.intro @ty_y50 (And.intro @ty_u71 (And.intro @ty_z71 (And.intro @ty_a71 (And.intro @ty_i71 (And.intro @ty_s71 (And.intro @ty_b71 (And.intro @ty_e71 (And.intro @ty_f71_0 (And.intro @ty_f71_1 (And.intro @ty_pl71 (And.intro @ty_eq71 (And.intro @ty_t71 (And.intro @ty_c71 (And.intro @ty_y71 (And.intro @ty_u72 (And.intro @ty_z72 (And.intro @ty_a72 (And.intro @ty_i72 (And.intro @ty_s72 (And.intro @ty_b72 (And.intro @ty_e72 (And.intro @ty_f72_0 (And.intro @ty_f72_1 (And.intro @ty_pl72 (And.intro @ty_eq72 (And.intro @ty_t72 (And.intro @ty_c72 (And.intro @ty_y72 (And.intro @ty_u78 (And.intro @ty_z78 (And.intro @ty_a78 (And.intro @ty_i78 (And.intro @ty_s78 (And.intro @ty_b78 (And.intro @ty_e78 (And.intro @ty_t78 (And.intro @ty_c78 (And.intro @ty_y78 (And.intro @ty_u79 (And.intro @ty_z79 (And.intro @ty_a79 (And.intro @ty_i79 (And.intro @ty_s79 (And.intro @ty_b79 (And.intro @ty_e79 (And.intro @ty_t79 (And.intro @ty_c79 (And.intro @ty_y79 (And.intro @ty_u90 (And.intro @ty_z90 (And.intro @ty_a90 (And.intro @ty_i90 (And.intro @ty_s90 (And.intro @ty_b90 (And.intro @ty_e90 (And.intro @ty_f90_0 (And.intro @ty_f90_1 (And.intro @ty_f90_2 (And.intro @ty_pl90 (And.intro @ty_eq90 (And.intro @ty_t90 (And.intro @ty_c90 (And.intro @ty_y90 (And.intro @ty_u91 (And.intro @ty_z91 (And.intro @ty_a91 (And.intro @ty_i91 (And.intro @ty_s91 (And.intro @ty_b91 (And.intro @ty_e91 (And.intro @ty_f91_0 (And.intro @ty_f91_1 (And.intro @ty_f91_2 (And.intro @ty_pl91 (And.intro @ty_eq91 (And.intro @ty_t91 (And.intro @ty_c91 (And.intro @ty_y91 (And.intro @ty_u99 (And.intro @ty_z99 (And.intro @ty_a99 (And.intro @ty_i99 (And.intro @ty_s99 (And.intro @ty_b99 (And.intro @ty_e99 (And.intro @ty_t99 (And.intro @ty_c99 (And.intro @ty_y99 (And.intro @ty_u101 (And.intro @ty_z101 (And.intro @ty_a101 (And.intro @ty_i101 (And.intro @ty_s101 (And.intro @ty_b101 (And.intro @ty_e101 (And.intro @ty_t101 (And.intro @ty_u111 (And.intro @ty_z111 (And.intro @ty_a111 (And.intro @ty_i111 (And.intro @ty_s111 (And.intro @ty_b111 (And.intro @ty_e111 (And.intro @ty_p111 (And.intro @ty_q111 (And.intro @ty_t111 (And.intro @ty_c111 (And.intro @ty_y111 (And.intro @ty_u117 (And.intro @ty_z117 (And.intro @ty_a117 (And.intro @ty_i117 (And.intro @ty_s117 (And.intro @ty_b117 (And.intro @ty_e117 (And.intro @ty_p117 (And.intro @ty_q117 (And.intro @ty_t117 (And.intro @ty_c117 (And.intro @ty_y117 (And.intro @ty_u125 (And.intro @ty_z125 (And.intro @ty_a125 (And.intro @ty_i125 (And.intro @ty_s125 (And.intro @ty_b125 (And.intro @ty_e125 (And.intro @ty_p125 (And.intro @ty_q125 (And.intro @ty_t125 (And.intro @ty_c125 (And.intro @ty_y125 (And.intro @ty_u129 (And.intro @ty_z129 (And.intro @ty_a129 (And.intro @ty_i129 (And.intro @ty_s129 (And.intro @ty_b129 (And.intro @ty_e129 (And.intro @ty_t129 (And.intro @ty_u132 (And.intro @ty_z132 (And.intro @ty_a132 (And.intro @ty_i132 (And.intro @ty_s132 (And.intro @ty_b132 (And.intro @ty_e132 (And.intro @ty_t132 (And.intro @ty_c132 (And.intro @ty_y132 (And.intro @ty_u135 (And.intro @ty_z135 (And.intro @ty_a135 (And.intro @ty_i135 (And.intro @ty_s135 (And.intro @ty_b135 (And.intro @ty_e135 (And.intro @ty_t135 (And.intro @ty_c135 (And.intro @ty_y135 (And.intro @ty_u150 (And.intro @ty_z150 (And.intro @ty_a150 (And.intro @ty_i150 (And.intro @ty_s150 (And.intro @ty_b150 (And.intro @ty_e150 (And.intro @ty_t150 (And.intro @ty_c150 (And.intro @ty_y150 (And.intro @ty_u157 (And.intro @ty_z157 (And.intro @ty_a157 (And.intro @ty_i157 (And.intro @ty_s157 (And.intro @ty_b157 (And.intro @ty_e157 (And.intro @ty_t157 (And.intro @ty_c157 (And.intro @ty_y157 (And.intro @ty_u164 (And.intro @ty_z164 (And.intro @ty_a164 (And.intro @ty_i164 (And.intro @ty_s164 (And.intro @ty_b164 (And.intro @ty_e164 (And.intro @ty_t164 (And.intro @ty_c164 (And.intro @ty_y164 (And.intro @ty_u168 (And.intro @ty_z168 (And.intro @ty_a168 (And.intro @ty_i168 (And.intro @ty_s168 (And.intro @ty_b168 (And.intro @ty_e168 (And.intro @ty_p168 (And.intro @ty_q168 (And.intro @ty_t168 (And.intro @ty_c168 (And.intro @ty_y168 (And.intro @ty_u172 (And.intro @ty_z172 (And.intro @ty_a172 (And.intro @ty_i172 (And.intro @ty_s172 (And.intro @ty_b172 (And.intro @ty_e172 (And.intro @ty_p172 (And.intro @ty_q172 (And.intro @ty_t172 (And.intro @ty_c172 (And.intro @ty_y172 (And.intro @ty_u177 (And.intro @ty_z177 (And.intro @ty_a177 (And.intro @ty_i177 (And.intro @ty_s177 (And.intro @ty_b177 (And.intro @ty_e177 (And.intro @ty_f177_0 (And.intro @ty_f177_1 (And.intro @ty_f177_2 (And.intro @ty_f177_3 (And.intro @ty_pl177 (And.intro @ty_t177 (And.intro @ty_c177 (And.intro @ty_y177 (And.intro @ty_u179 (And.intro @ty_z179 (And.intro @ty_a179 (And.intro @ty_i179 (And.intro @ty_s179 (And.intro @ty_b179 (And.intro @ty_e179 (And.intro @ty_r179 (And.intro @ty_u180 (And.intro @ty_z180 (And.intro @ty_a180 (And.intro @ty_i180 (And.intro @ty_s180 (And.intro @ty_b180 (And.intro @ty_e180 (And.intro @ty_f180_0 (And.intro @ty_pl180 (And.intro @ty_u181 (And.intro @ty_z181 (And.intro @ty_a181 (And.intro @ty_i181 (And.intro @ty_s181 (And.intro @ty_b181 (And.intro @ty_e181 (And.intro @ty_f181_0 (And.intro @ty_pl181 (And.intro @ty_u183 (And.intro @ty_z183 (And.intro @ty_a183 (And.intro @ty_i183 (And.intro @ty_s183 (And.intro @ty_b183 (And.intro @ty_e183 (And.intro @ty_t183 (And.intro @ty_c183 (And.intro @ty_y183 (And.intro @ty_u184 (And.intro @ty_z184 (And.intro @ty_a184 (And.intro @ty_i184 (And.intro @ty_s184 (And.intro @ty_b184 (And.intro @ty_e184 (And.intro @ty_t184 (And.intro @ty_c184 (And.intro @ty_y184 (And.intro @ty_u185 (And.intro @ty_u186 (And.intro @ty_z186 (And.intro @ty_a186 (And.intro @ty_i186 (And.intro @ty_s186 (And.intro @ty_b186 (And.intro @ty_e186 (And.intro @ty_p186 (And.intro @ty_q186 (And.intro @ty_t186 (And.intro @ty_c186 (And.intro @ty_y186 (And.intro @ty_u187 (And.intro @ty_z187 (And.intro @ty_a187 (And.intro @ty_i187 (And.intro @ty_s187 (And.intro @ty_b187 (And.intro @ty_e187 (And.intro @ty_t187 (And.intro @ty_c187 (And.intro @ty_y187 (And.intro @ty_u188 (And.intro @ty_z188 (And.intro @ty_a188 (And.intro @ty_i188 (And.intro @ty_s188 (And.intro @ty_b188 (And.intro @ty_e188 (And.intro @ty_t188 (And.intro @ty_c188 (And.intro @ty_y188 (And.intro @ty_u189 (And.intro @ty_z189 (And.intro @ty_a189 (And.intro @ty_i189 (And.intro @ty_s189 (And.intro @ty_b189 (And.intro @ty_e189 (And.intro @ty_f189_0 (And.intro @ty_f189_1 (And.intro @ty_f189_2 (And.intro @ty_f189_3 (And.intro @ty_f189_4 (And.intro @ty_f189_5 (And.intro @ty_f189_6 (And.intro @ty_f189_7 (And.intro @ty_f189_8 (And.intro @ty_f189_9 (And.intro @ty_f189_10 (And.intro @ty_pl189 (And.intro @ty_t189 (And.intro @ty_c189 (And.intro @ty_y189 (And.intro @ty_u190 (And.intro @ty_z190 (And.intro @ty_a190 (And.intro @ty_i190 (And.intro @ty_s190 (And.intro @ty_b190 (And.intro @ty_e190 (And.intro @ty_f190_0 (And.intro @ty_f190_1 (And.intro @ty_f190_2 (And.intro @ty_f190_3 (And.intro @ty_f190_4 (And.intro @ty_f190_5 (And.intro @ty_f190_6 (And.intro @ty_f190_7 (And.intro @ty_f190_8 (And.intro @ty_f190_9 (And.intro @ty_f190_10 (And.intro @ty_pl190 (And.intro @ty_t190 (And.intro @ty_c190 (And.intro @ty_y190 (And.intro @ty_u191 (And.intro @ty_z191 (And.intro @ty_a191 (And.intro @ty_i191 (And.intro @ty_s191 (And.intro @ty_b191 (And.intro @ty_e191 (And.intro @ty_t191 (And.intro @ty_c191 (@ty_y191)))))))))))))))))))))))))))))))))))))))))))))))))))))))))))))))))))))))))))))))))))))))))))))))))))))))))))))))))))))))))))))))))))))))))))))))))))))))))))))))))))))))))))))))))))))))))))))))))))))))))))))))))))))))))))))))))))))))))))))))))))))))))))))))))))))))))))))))))))))))))))))))))))))))))))))))))))))))))))))))))))))))))))))))))))))))))))))))))))))))))))))))))))))))))))))))))))))))))))))))))))))))))))))))))))))))))))))))))))))))))))))))))))))))))))))))))))))))))))))))))))))))))))))))))))))))))))))))))))))))))))))))))))))))))))))))))))))))))))))))))))))))))))))))))))))))))))))))))))))))))))))))))))))))))))))))))))))))))))))))))))))))))))))))))))))))))))))))))))))))))))))))))))))))))))))))))))))))))))))))))))))))))))))))))))))))))))))))))))))))))))))))))))))))))))))))))))))))))))))))))))))))))))))))))))
end Go.Proofs.YtjiolbcdfgclaaaGreat
end
