/-
  Texts of this claim, merged: PgYT. Each bears its own remark.
-/
import Derived.Test.YtjiolbcdfgclaaaGreatDoorB0
set_option linter.unusedVariables false
set_option linter.unusedSimpArgs false
set_option linter.unusedSectionVars false
section
/-
  The seat's types: what the walks ask of them (written by a program of mine off the dump's table of types).
-/
namespace Go.Proofs.YtjiolbcdfgclaaaGreatDoor
open Go Go.Pg
set_option linter.defProp false
set_option maxRecDepth 10000

theorem ty_u2 : (Tryz.prog.underlying 2).isSome = true := by kernel_rfl
theorem ty_z2 : tsz Tryz.prog 2 = some 1 := by kernel_rfl
theorem ty_a2 : isAggT Tryz.prog 2 = some false := by kernel_rfl
theorem ty_i2 : intT Tryz.prog 2 = some .i64 := by kernel_rfl
theorem ty_s2 : isStr Tryz.prog 2 = false := by kernel_rfl
theorem ty_b2 : isBoolT Tryz.prog 2 = false := by kernel_rfl
theorem ty_e2 : elemT Tryz.prog 2 = none := by kernel_rfl
theorem ty_t2 : tapp Tryz.prog 2 = some (1, 8) := by kernel_rfl
theorem ty_c2 : tzc Tryz.prog 2 = some [.c (.int .i64 0)] := by kernel_rfl
theorem ty_y2 : zelem Tryz.prog 2 = some (.c (.int .i64 0)) := by kernel_rfl
theorem ty_u3 : (Tryz.prog.underlying 3).isSome = true := by kernel_rfl
theorem ty_z3 : tsz Tryz.prog 3 = some 1 := by kernel_rfl
theorem ty_a3 : isAggT Tryz.prog 3 = some false := by kernel_rfl
theorem ty_i3 : intT Tryz.prog 3 = some .i64 := by kernel_rfl
theorem ty_s3 : isStr Tryz.prog 3 = false := by kernel_rfl
theorem ty_b3 : isBoolT Tryz.prog 3 = false := by kernel_rfl
theorem ty_e3 : elemT Tryz.prog 3 = none := by kernel_rfl
theorem ty_t3 : tapp Tryz.prog 3 = some (1, 8) := by kernel_rfl
theorem ty_c3 : tzc Tryz.prog 3 = some [.c (.int .i64 0)] := by kernel_rfl
theorem ty_y3 : zelem Tryz.prog 3 = some (.c (.int .i64 0)) := by kernel_rfl
theorem ty_u4 : (Tryz.prog.underlying 4).isSome = true := by kernel_rfl
theorem ty_z4 : tsz Tryz.prog 4 = some 1 := by kernel_rfl
theorem ty_a4 : isAggT Tryz.prog 4 = some false := by kernel_rfl
theorem ty_i4 : intT Tryz.prog 4 = none := by kernel_rfl
theorem ty_s4 : isStr Tryz.prog 4 = false := by kernel_rfl
theorem ty_b4 : isBoolT Tryz.prog 4 = true := by kernel_rfl
theorem ty_e4 : elemT Tryz.prog 4 = none := by kernel_rfl
theorem ty_t4 : tapp Tryz.prog 4 = some (1, 1) := by kernel_rfl
theorem ty_c4 : tzc Tryz.prog 4 = some [.c (.bool false)] := by kernel_rfl
theorem ty_y4 : zelem Tryz.prog 4 = some (.c (.bool false)) := by kernel_rfl
theorem ty_u5 : (Tryz.prog.underlying 5).isSome = true := by kernel_rfl
theorem ty_z5 : tsz Tryz.prog 5 = some 1 := by kernel_rfl
theorem ty_a5 : isAggT Tryz.prog 5 = some false := by kernel_rfl
theorem ty_i5 : intT Tryz.prog 5 = some .u8 := by kernel_rfl
theorem ty_s5 : isStr Tryz.prog 5 = false := by kernel_rfl
theorem ty_b5 : isBoolT Tryz.prog 5 = false := by kernel_rfl
theorem ty_e5 : elemT Tryz.prog 5 = none := by kernel_rfl
theorem ty_t5 : tapp Tryz.prog 5 = some (1, 1) := by kernel_rfl
theorem ty_c5 : tzc Tryz.prog 5 = some [.c (.int .u8 0)] := by kernel_rfl
theorem ty_y5 : zelem Tryz.prog 5 = some (.c (.int .u8 0)) := by kernel_rfl
theorem ty_u6 : (Tryz.prog.underlying 6).isSome = true := by kernel_rfl
theorem ty_z6 : tsz Tryz.prog 6 = some 1 := by kernel_rfl
theorem ty_a6 : isAggT Tryz.prog 6 = some false := by kernel_rfl
theorem ty_i6 : intT Tryz.prog 6 = some .u8 := by kernel_rfl
theorem ty_s6 : isStr Tryz.prog 6 = false := by kernel_rfl
theorem ty_b6 : isBoolT Tryz.prog 6 = false := by kernel_rfl
theorem ty_e6 : elemT Tryz.prog 6 = none := by kernel_rfl
theorem ty_t6 : tapp Tryz.prog 6 = some (1, 1) := by kernel_rfl
theorem ty_c6 : tzc Tryz.prog 6 = some [.c (.int .u8 0)] := by kernel_rfl
theorem ty_y6 : zelem Tryz.prog 6 = some (.c (.int .u8 0)) := by kernel_rfl
theorem ty_u7 : (Tryz.prog.underlying 7).isSome = true := by kernel_rfl
theorem ty_z7 : tsz Tryz.prog 7 = some 4 := by kernel_rfl
theorem ty_a7 : isAggT Tryz.prog 7 = some true := by kernel_rfl
theorem ty_i7 : intT Tryz.prog 7 = none := by kernel_rfl
theorem ty_s7 : isStr Tryz.prog 7 = false := by kernel_rfl
theorem ty_b7 : isBoolT Tryz.prog 7 = false := by kernel_rfl
theorem ty_e7 : elemT Tryz.prog 7 = none := by kernel_rfl
theorem ty_f7_0 : fieldT Tryz.prog 7 0 = some (2, 0) := by kernel_rfl
theorem ty_f7_1 : fieldT Tryz.prog 7 1 = some (3, 1) := by kernel_rfl
theorem ty_f7_2 : fieldT Tryz.prog 7 2 = some (4, 2) := by kernel_rfl
theorem ty_f7_3 : fieldT Tryz.prog 7 3 = some (6, 3) := by kernel_rfl
theorem ty_pl7 : placesT Tryz.prog 7 = some [(0, 1), (1, 1), (2, 1), (3, 1)] := by kernel_rfl
theorem ty_eq7 : eqPl Tryz.prog 7 = some [(0, .n), (1, .n), (2, .b), (3, .n)] := by kernel_rfl
theorem ty_t7 : tapp Tryz.prog 7 = some (4, 24) := by kernel_rfl
theorem ty_c7 : tzc Tryz.prog 7 = some [.c (.int .i64 0), .c (.int .i64 0), .c (.bool false), .c (.int .u8 0)] := by kernel_rfl
theorem ty_y7 : zelem Tryz.prog 7 = some (.agg [.c (.int .i64 0), .c (.int .i64 0), .c (.bool false), .c (.int .u8 0)]) := by kernel_rfl
theorem ty_u9 : (Tryz.prog.underlying 9).isSome = true := by kernel_rfl
theorem ty_z9 : tsz Tryz.prog 9 = some 1 := by kernel_rfl
theorem ty_a9 : isAggT Tryz.prog 9 = some false := by kernel_rfl
theorem ty_i9 : intT Tryz.prog 9 = none := by kernel_rfl
theorem ty_s9 : isStr Tryz.prog 9 = true := by kernel_rfl
theorem ty_b9 : isBoolT Tryz.prog 9 = false := by kernel_rfl
theorem ty_e9 : elemT Tryz.prog 9 = none := by kernel_rfl
theorem ty_t9 : tapp Tryz.prog 9 = some (1, 16) := by kernel_rfl
theorem ty_c9 : tzc Tryz.prog 9 = some [.c (.string ⟨#[]⟩)] := by kernel_rfl
theorem ty_y9 : zelem Tryz.prog 9 = some (.c (.string ⟨#[]⟩)) := by kernel_rfl
theorem ty_u12 : (Tryz.prog.underlying 12).isSome = true := by kernel_rfl
theorem ty_z12 : tsz Tryz.prog 12 = some 1 := by kernel_rfl
theorem ty_a12 : isAggT Tryz.prog 12 = some false := by kernel_rfl
theorem ty_i12 : intT Tryz.prog 12 = some .u64 := by kernel_rfl
theorem ty_s12 : isStr Tryz.prog 12 = false := by kernel_rfl
theorem ty_b12 : isBoolT Tryz.prog 12 = false := by kernel_rfl
theorem ty_e12 : elemT Tryz.prog 12 = none := by kernel_rfl
theorem ty_t12 : tapp Tryz.prog 12 = some (1, 8) := by kernel_rfl
theorem ty_c12 : tzc Tryz.prog 12 = some [.c (.int .u64 0)] := by kernel_rfl
theorem ty_y12 : zelem Tryz.prog 12 = some (.c (.int .u64 0)) := by kernel_rfl
theorem ty_u13 : (Tryz.prog.underlying 13).isSome = true := by kernel_rfl
theorem ty_z13 : tsz Tryz.prog 13 = some 2 := by kernel_rfl
theorem ty_a13 : isAggT Tryz.prog 13 = some true := by kernel_rfl
theorem ty_i13 : intT Tryz.prog 13 = none := by kernel_rfl
theorem ty_s13 : isStr Tryz.prog 13 = false := by kernel_rfl
theorem ty_b13 : isBoolT Tryz.prog 13 = false := by kernel_rfl
theorem ty_e13 : elemT Tryz.prog 13 = none := by kernel_rfl
theorem ty_f13_0 : fieldT Tryz.prog 13 0 = some (9, 0) := by kernel_rfl
theorem ty_f13_1 : fieldT Tryz.prog 13 1 = some (12, 1) := by kernel_rfl
theorem ty_pl13 : placesT Tryz.prog 13 = some [(0, 1), (1, 1)] := by kernel_rfl
theorem ty_t13 : tapp Tryz.prog 13 = some (2, 24) := by kernel_rfl
theorem ty_c13 : tzc Tryz.prog 13 = some [.c (.string ⟨#[]⟩), .c (.int .u64 0)] := by kernel_rfl
theorem ty_y13 : zelem Tryz.prog 13 = some (.agg [.c (.string ⟨#[]⟩), .c (.int .u64 0)]) := by kernel_rfl
theorem ty_u16 : (Tryz.prog.underlying 16).isSome = true := by kernel_rfl
theorem ty_z16 : tsz Tryz.prog 16 = some 1 := by kernel_rfl
theorem ty_a16 : isAggT Tryz.prog 16 = some false := by kernel_rfl
theorem ty_i16 : intT Tryz.prog 16 = none := by kernel_rfl
theorem ty_s16 : isStr Tryz.prog 16 = false := by kernel_rfl
theorem ty_b16 : isBoolT Tryz.prog 16 = false := by kernel_rfl
theorem ty_e16 : elemT Tryz.prog 16 = none := by kernel_rfl
theorem ty_p16 : isPtr Tryz.prog 16 = true := by kernel_rfl
theorem ty_q16 : ptrTo Tryz.prog 16 = some 298 := by kernel_rfl
theorem ty_t16 : tapp Tryz.prog 16 = some (1, 8) := by kernel_rfl
theorem ty_c16 : tzc Tryz.prog 16 = some [.c (.pointer none)] := by kernel_rfl
theorem ty_y16 : zelem Tryz.prog 16 = some (.c (.pointer none)) := by kernel_rfl
theorem ty_u17 : (Tryz.prog.underlying 17).isSome = true := by kernel_rfl
theorem ty_z17 : tsz Tryz.prog 17 = some 1 := by kernel_rfl
theorem ty_a17 : isAggT Tryz.prog 17 = some false := by kernel_rfl
theorem ty_i17 : intT Tryz.prog 17 = none := by kernel_rfl
theorem ty_s17 : isStr Tryz.prog 17 = false := by kernel_rfl
theorem ty_b17 : isBoolT Tryz.prog 17 = false := by kernel_rfl
theorem ty_e17 : elemT Tryz.prog 17 = none := by kernel_rfl
theorem ty_p17 : isPtr Tryz.prog 17 = true := by kernel_rfl
theorem ty_q17 : ptrTo Tryz.prog 17 = some 305 := by kernel_rfl
theorem ty_t17 : tapp Tryz.prog 17 = some (1, 8) := by kernel_rfl
theorem ty_c17 : tzc Tryz.prog 17 = some [.c (.pointer none)] := by kernel_rfl
theorem ty_y17 : zelem Tryz.prog 17 = some (.c (.pointer none)) := by kernel_rfl
theorem ty_u18 : (Tryz.prog.underlying 18).isSome = true := by kernel_rfl
theorem ty_z18 : tsz Tryz.prog 18 = some 1 := by kernel_rfl
theorem ty_a18 : isAggT Tryz.prog 18 = some true := by kernel_rfl
theorem ty_i18 : intT Tryz.prog 18 = none := by kernel_rfl
theorem ty_s18 : isStr Tryz.prog 18 = false := by kernel_rfl
theorem ty_b18 : isBoolT Tryz.prog 18 = false := by kernel_rfl
theorem ty_e18 : elemT Tryz.prog 18 = none := by kernel_rfl
theorem ty_f18_0 : fieldT Tryz.prog 18 0 = some (17, 0) := by kernel_rfl
theorem ty_pl18 : placesT Tryz.prog 18 = some [(0, 1)] := by kernel_rfl
theorem ty_t18 : tapp Tryz.prog 18 = some (1, 8) := by kernel_rfl
theorem ty_c18 : tzc Tryz.prog 18 = some [.c (.pointer none)] := by kernel_rfl
theorem ty_y18 : zelem Tryz.prog 18 = some (.agg [.c (.pointer none)]) := by kernel_rfl
theorem ty_u21 : (Tryz.prog.underlying 21).isSome = true := by kernel_rfl
theorem ty_z21 : tsz Tryz.prog 21 = some 1 := by kernel_rfl
theorem ty_a21 : isAggT Tryz.prog 21 = some false := by kernel_rfl
theorem ty_i21 : intT Tryz.prog 21 = some .i32 := by kernel_rfl
theorem ty_s21 : isStr Tryz.prog 21 = false := by kernel_rfl
theorem ty_b21 : isBoolT Tryz.prog 21 = false := by kernel_rfl
theorem ty_e21 : elemT Tryz.prog 21 = none := by kernel_rfl
theorem ty_t21 : tapp Tryz.prog 21 = some (1, 4) := by kernel_rfl
theorem ty_c21 : tzc Tryz.prog 21 = some [.c (.int .i32 0)] := by kernel_rfl
theorem ty_y21 : zelem Tryz.prog 21 = some (.c (.int .i32 0)) := by kernel_rfl
theorem ty_u22 : (Tryz.prog.underlying 22).isSome = true := by kernel_rfl
theorem ty_z22 : tsz Tryz.prog 22 = some 1 := by kernel_rfl
theorem ty_a22 : isAggT Tryz.prog 22 = some false := by kernel_rfl
theorem ty_i22 : intT Tryz.prog 22 = none := by kernel_rfl
theorem ty_s22 : isStr Tryz.prog 22 = false := by kernel_rfl
theorem ty_b22 : isBoolT Tryz.prog 22 = false := by kernel_rfl
theorem ty_e22 : elemT Tryz.prog 22 = some 3 := by kernel_rfl
theorem ty_t22 : tapp Tryz.prog 22 = some (1, 24) := by kernel_rfl
theorem ty_c22 : tzc Tryz.prog 22 = some [.c (.slice none 0 0)] := by kernel_rfl
theorem ty_y22 : zelem Tryz.prog 22 = some (.c (.slice none 0 0)) := by kernel_rfl
theorem ty_u23 : (Tryz.prog.underlying 23).isSome = true := by kernel_rfl
theorem ty_z23 : tsz Tryz.prog 23 = some 1 := by kernel_rfl
theorem ty_a23 : isAggT Tryz.prog 23 = some false := by kernel_rfl
theorem ty_i23 : intT Tryz.prog 23 = none := by kernel_rfl
theorem ty_s23 : isStr Tryz.prog 23 = false := by kernel_rfl
theorem ty_b23 : isBoolT Tryz.prog 23 = false := by kernel_rfl
theorem ty_e23 : elemT Tryz.prog 23 = some 9 := by kernel_rfl
theorem ty_t23 : tapp Tryz.prog 23 = some (1, 24) := by kernel_rfl
theorem ty_c23 : tzc Tryz.prog 23 = some [.c (.slice none 0 0)] := by kernel_rfl
theorem ty_y23 : zelem Tryz.prog 23 = some (.c (.slice none 0 0)) := by kernel_rfl
theorem ty_u24 : (Tryz.prog.underlying 24).isSome = true := by kernel_rfl
theorem ty_z24 : tsz Tryz.prog 24 = some 1 := by kernel_rfl
theorem ty_a24 : isAggT Tryz.prog 24 = some false := by kernel_rfl
theorem ty_i24 : intT Tryz.prog 24 = some .u64 := by kernel_rfl
theorem ty_s24 : isStr Tryz.prog 24 = false := by kernel_rfl
theorem ty_b24 : isBoolT Tryz.prog 24 = false := by kernel_rfl
theorem ty_e24 : elemT Tryz.prog 24 = none := by kernel_rfl
theorem ty_t24 : tapp Tryz.prog 24 = some (1, 8) := by kernel_rfl
theorem ty_c24 : tzc Tryz.prog 24 = some [.c (.int .u64 0)] := by kernel_rfl
theorem ty_y24 : zelem Tryz.prog 24 = some (.c (.int .u64 0)) := by kernel_rfl
theorem ty_u26 : (Tryz.prog.underlying 26).isSome = true := by kernel_rfl
theorem ty_z26 : tsz Tryz.prog 26 = some 4 := by kernel_rfl
theorem ty_a26 : isAggT Tryz.prog 26 = some true := by kernel_rfl
theorem ty_i26 : intT Tryz.prog 26 = none := by kernel_rfl
theorem ty_s26 : isStr Tryz.prog 26 = false := by kernel_rfl
theorem ty_b26 : isBoolT Tryz.prog 26 = false := by kernel_rfl
theorem ty_e26 : elemT Tryz.prog 26 = none := by kernel_rfl
theorem ty_f26_0 : fieldT Tryz.prog 26 0 = some (3, 0) := by kernel_rfl
theorem ty_f26_1 : fieldT Tryz.prog 26 1 = some (3, 1) := by kernel_rfl
theorem ty_f26_2 : fieldT Tryz.prog 26 2 = some (3, 2) := by kernel_rfl
theorem ty_f26_3 : fieldT Tryz.prog 26 3 = some (24, 3) := by kernel_rfl
theorem ty_pl26 : placesT Tryz.prog 26 = some [(0, 1), (1, 1), (2, 1), (3, 1)] := by kernel_rfl
theorem ty_eq26 : eqPl Tryz.prog 26 = some [(0, .n), (1, .n), (2, .n), (3, .n)] := by kernel_rfl
theorem ty_t26 : tapp Tryz.prog 26 = some (4, 32) := by kernel_rfl
theorem ty_c26 : tzc Tryz.prog 26 = some [.c (.int .i64 0), .c (.int .i64 0), .c (.int .i64 0), .c (.int .u64 0)] := by kernel_rfl
theorem ty_y26 : zelem Tryz.prog 26 = some (.agg [.c (.int .i64 0), .c (.int .i64 0), .c (.int .i64 0), .c (.int .u64 0)]) := by kernel_rfl
theorem ty_u27 : (Tryz.prog.underlying 27).isSome = true := by kernel_rfl
theorem ty_z27 : tsz Tryz.prog 27 = some 1 := by kernel_rfl
theorem ty_a27 : isAggT Tryz.prog 27 = some false := by kernel_rfl
theorem ty_i27 : intT Tryz.prog 27 = none := by kernel_rfl
theorem ty_s27 : isStr Tryz.prog 27 = false := by kernel_rfl
theorem ty_b27 : isBoolT Tryz.prog 27 = false := by kernel_rfl
theorem ty_e27 : elemT Tryz.prog 27 = some 64 := by kernel_rfl
theorem ty_t27 : tapp Tryz.prog 27 = some (1, 24) := by kernel_rfl
theorem ty_c27 : tzc Tryz.prog 27 = some [.c (.slice none 0 0)] := by kernel_rfl
theorem ty_y27 : zelem Tryz.prog 27 = some (.c (.slice none 0 0)) := by kernel_rfl
theorem ty_u28 : (Tryz.prog.underlying 28).isSome = true := by kernel_rfl
theorem ty_z28 : tsz Tryz.prog 28 = some 1 := by kernel_rfl
theorem ty_a28 : isAggT Tryz.prog 28 = some false := by kernel_rfl
theorem ty_i28 : intT Tryz.prog 28 = none := by kernel_rfl
theorem ty_s28 : isStr Tryz.prog 28 = false := by kernel_rfl
theorem ty_b28 : isBoolT Tryz.prog 28 = false := by kernel_rfl
theorem ty_e28 : elemT Tryz.prog 28 = some 5 := by kernel_rfl
theorem ty_t28 : tapp Tryz.prog 28 = some (1, 24) := by kernel_rfl
theorem ty_c28 : tzc Tryz.prog 28 = some [.c (.slice none 0 0)] := by kernel_rfl
theorem ty_y28 : zelem Tryz.prog 28 = some (.c (.slice none 0 0)) := by kernel_rfl
theorem ty_u30 : (Tryz.prog.underlying 30).isSome = true := by kernel_rfl
theorem ty_z30 : tsz Tryz.prog 30 = some 5 := by kernel_rfl
theorem ty_a30 : isAggT Tryz.prog 30 = some true := by kernel_rfl
theorem ty_i30 : intT Tryz.prog 30 = none := by kernel_rfl
theorem ty_s30 : isStr Tryz.prog 30 = false := by kernel_rfl
theorem ty_b30 : isBoolT Tryz.prog 30 = false := by kernel_rfl
theorem ty_e30 : elemT Tryz.prog 30 = none := by kernel_rfl
theorem ty_f30_0 : fieldT Tryz.prog 30 0 = some (3, 0) := by kernel_rfl
theorem ty_f30_1 : fieldT Tryz.prog 30 1 = some (9, 1) := by kernel_rfl
theorem ty_f30_2 : fieldT Tryz.prog 30 2 = some (3, 2) := by kernel_rfl
theorem ty_f30_3 : fieldT Tryz.prog 30 3 = some (3, 3) := by kernel_rfl
theorem ty_f30_4 : fieldT Tryz.prog 30 4 = some (3, 4) := by kernel_rfl
theorem ty_pl30 : placesT Tryz.prog 30 = some [(0, 1), (1, 1), (2, 1), (3, 1), (4, 1)] := by kernel_rfl
theorem ty_eq30 : eqPl Tryz.prog 30 = some [(0, .n), (1, .s), (2, .n), (3, .n), (4, .n)] := by kernel_rfl
theorem ty_t30 : tapp Tryz.prog 30 = some (5, 48) := by kernel_rfl
theorem ty_c30 : tzc Tryz.prog 30 = some [.c (.int .i64 0), .c (.string ⟨#[]⟩), .c (.int .i64 0), .c (.int .i64 0), .c (.int .i64 0)] := by kernel_rfl
theorem ty_y30 : zelem Tryz.prog 30 = some (.agg [.c (.int .i64 0), .c (.string ⟨#[]⟩), .c (.int .i64 0), .c (.int .i64 0), .c (.int .i64 0)]) := by kernel_rfl
theorem ty_u32 : (Tryz.prog.underlying 32).isSome = true := by kernel_rfl
theorem ty_z32 : tsz Tryz.prog 32 = some 22 := by kernel_rfl
theorem ty_a32 : isAggT Tryz.prog 32 = some true := by kernel_rfl
theorem ty_i32 : intT Tryz.prog 32 = none := by kernel_rfl
theorem ty_s32 : isStr Tryz.prog 32 = false := by kernel_rfl
theorem ty_b32 : isBoolT Tryz.prog 32 = false := by kernel_rfl
theorem ty_e32 : elemT Tryz.prog 32 = none := by kernel_rfl
theorem ty_f32_0 : fieldT Tryz.prog 32 0 = some (3, 0) := by kernel_rfl
theorem ty_f32_1 : fieldT Tryz.prog 32 1 = some (9, 1) := by kernel_rfl
theorem ty_f32_2 : fieldT Tryz.prog 32 2 = some (9, 2) := by kernel_rfl
theorem ty_f32_3 : fieldT Tryz.prog 32 3 = some (23, 3) := by kernel_rfl
theorem ty_f32_4 : fieldT Tryz.prog 32 4 = some (26, 4) := by kernel_rfl
theorem ty_f32_5 : fieldT Tryz.prog 32 5 = some (27, 8) := by kernel_rfl
theorem ty_f32_6 : fieldT Tryz.prog 32 6 = some (28, 9) := by kernel_rfl
theorem ty_f32_7 : fieldT Tryz.prog 32 7 = some (3, 10) := by kernel_rfl
theorem ty_f32_8 : fieldT Tryz.prog 32 8 = some (3, 11) := by kernel_rfl
theorem ty_f32_9 : fieldT Tryz.prog 32 9 = some (3, 12) := by kernel_rfl
theorem ty_f32_10 : fieldT Tryz.prog 32 10 = some (3, 13) := by kernel_rfl
theorem ty_f32_11 : fieldT Tryz.prog 32 11 = some (3, 14) := by kernel_rfl
theorem ty_f32_12 : fieldT Tryz.prog 32 12 = some (3, 15) := by kernel_rfl
theorem ty_f32_13 : fieldT Tryz.prog 32 13 = some (30, 16) := by kernel_rfl
theorem ty_f32_14 : fieldT Tryz.prog 32 14 = some (28, 21) := by kernel_rfl
theorem ty_pl32 : placesT Tryz.prog 32 = some [(0, 1), (1, 1), (2, 1), (3, 1), (4, 4), (8, 1), (9, 1), (10, 1), (11, 1), (12, 1), (13, 1), (14, 1), (15, 1), (16, 5), (21, 1)] := by kernel_rfl
theorem ty_t32 : tapp Tryz.prog 32 = some (22, 264) := by kernel_rfl
theorem ty_c32 : tzc Tryz.prog 32 = some [.c (.int .i64 0), .c (.string ⟨#[]⟩), .c (.string ⟨#[]⟩), .c (.slice none 0 0), .c (.int .i64 0), .c (.int .i64 0), .c (.int .i64 0), .c (.int .u64 0), .c (.slice none 0 0), .c (.slice none 0 0), .c (.int .i64 0), .c (.int .i64 0), .c (.int .i64 0), .c (.int .i64 0), .c (.int .i64 0), .c (.int .i64 0), .c (.int .i64 0), .c (.string ⟨#[]⟩), .c (.int .i64 0), .c (.int .i64 0), .c (.int .i64 0), .c (.slice none 0 0)] := by kernel_rfl
theorem ty_y32 : zelem Tryz.prog 32 = some (.agg [.c (.int .i64 0), .c (.string ⟨#[]⟩), .c (.string ⟨#[]⟩), .c (.slice none 0 0), .c (.int .i64 0), .c (.int .i64 0), .c (.int .i64 0), .c (.int .u64 0), .c (.slice none 0 0), .c (.slice none 0 0), .c (.int .i64 0), .c (.int .i64 0), .c (.int .i64 0), .c (.int .i64 0), .c (.int .i64 0), .c (.int .i64 0), .c (.int .i64 0), .c (.string ⟨#[]⟩), .c (.int .i64 0), .c (.int .i64 0), .c (.int .i64 0), .c (.slice none 0 0)]) := by kernel_rfl
theorem ty_u37 : (Tryz.prog.underlying 37).isSome = true := by kernel_rfl
theorem ty_z37 : tsz Tryz.prog 37 = some 1 := by kernel_rfl
theorem ty_a37 : isAggT Tryz.prog 37 = some false := by kernel_rfl
theorem ty_i37 : intT Tryz.prog 37 = some .i64 := by kernel_rfl
theorem ty_s37 : isStr Tryz.prog 37 = false := by kernel_rfl
theorem ty_b37 : isBoolT Tryz.prog 37 = false := by kernel_rfl
theorem ty_e37 : elemT Tryz.prog 37 = none := by kernel_rfl
theorem ty_t37 : tapp Tryz.prog 37 = some (1, 8) := by kernel_rfl
theorem ty_c37 : tzc Tryz.prog 37 = some [.c (.int .i64 0)] := by kernel_rfl
theorem ty_y37 : zelem Tryz.prog 37 = some (.c (.int .i64 0)) := by kernel_rfl
theorem ty_u45 : (Tryz.prog.underlying 45).isSome = true := by kernel_rfl
theorem ty_z45 : tsz Tryz.prog 45 = some 1 := by kernel_rfl
theorem ty_a45 : isAggT Tryz.prog 45 = some false := by kernel_rfl
theorem ty_i45 : intT Tryz.prog 45 = some .u64 := by kernel_rfl
theorem ty_s45 : isStr Tryz.prog 45 = false := by kernel_rfl
theorem ty_b45 : isBoolT Tryz.prog 45 = false := by kernel_rfl
theorem ty_e45 : elemT Tryz.prog 45 = none := by kernel_rfl
theorem ty_t45 : tapp Tryz.prog 45 = some (1, 8) := by kernel_rfl
theorem ty_c45 : tzc Tryz.prog 45 = some [.c (.int .u64 0)] := by kernel_rfl
theorem ty_y45 : zelem Tryz.prog 45 = some (.c (.int .u64 0)) := by kernel_rfl
theorem ty_u48 : (Tryz.prog.underlying 48).isSome = true := by kernel_rfl
theorem ty_z48 : tsz Tryz.prog 48 = some 1 := by kernel_rfl
theorem ty_a48 : isAggT Tryz.prog 48 = some false := by kernel_rfl
theorem ty_i48 : intT Tryz.prog 48 = none := by kernel_rfl
theorem ty_s48 : isStr Tryz.prog 48 = false := by kernel_rfl
theorem ty_b48 : isBoolT Tryz.prog 48 = false := by kernel_rfl
theorem ty_e48 : elemT Tryz.prog 48 = some 69 := by kernel_rfl
theorem ty_t48 : tapp Tryz.prog 48 = some (1, 24) := by kernel_rfl
theorem ty_c48 : tzc Tryz.prog 48 = some [.c (.slice none 0 0)] := by kernel_rfl
theorem ty_y48 : zelem Tryz.prog 48 = some (.c (.slice none 0 0)) := by kernel_rfl
theorem ty_u53 : (Tryz.prog.underlying 53).isSome = true := by kernel_rfl
theorem ty_z53 : tsz Tryz.prog 53 = some 1 := by kernel_rfl
theorem ty_a53 : isAggT Tryz.prog 53 = some false := by kernel_rfl
theorem ty_i53 : intT Tryz.prog 53 = none := by kernel_rfl
theorem ty_s53 : isStr Tryz.prog 53 = false := by kernel_rfl
theorem ty_b53 : isBoolT Tryz.prog 53 = false := by kernel_rfl
theorem ty_e53 : elemT Tryz.prog 53 = some 59 := by kernel_rfl
theorem ty_t53 : tapp Tryz.prog 53 = some (1, 24) := by kernel_rfl
theorem ty_c53 : tzc Tryz.prog 53 = some [.c (.slice none 0 0)] := by kernel_rfl
theorem ty_y53 : zelem Tryz.prog 53 = some (.c (.slice none 0 0)) := by kernel_rfl
theorem ty_u55 : (Tryz.prog.underlying 55).isSome = true := by kernel_rfl
theorem ty_z55 : tsz Tryz.prog 55 = some 6 := by kernel_rfl
theorem ty_a55 : isAggT Tryz.prog 55 = some true := by kernel_rfl
theorem ty_i55 : intT Tryz.prog 55 = none := by kernel_rfl
theorem ty_s55 : isStr Tryz.prog 55 = false := by kernel_rfl
theorem ty_b55 : isBoolT Tryz.prog 55 = false := by kernel_rfl
theorem ty_e55 : elemT Tryz.prog 55 = none := by kernel_rfl
theorem ty_f55_0 : fieldT Tryz.prog 55 0 = some (3, 0) := by kernel_rfl
theorem ty_f55_1 : fieldT Tryz.prog 55 1 = some (3, 1) := by kernel_rfl
theorem ty_f55_2 : fieldT Tryz.prog 55 2 = some (9, 2) := by kernel_rfl
theorem ty_f55_3 : fieldT Tryz.prog 55 3 = some (22, 3) := by kernel_rfl
theorem ty_f55_4 : fieldT Tryz.prog 55 4 = some (53, 4) := by kernel_rfl
theorem ty_f55_5 : fieldT Tryz.prog 55 5 = some (4, 5) := by kernel_rfl
theorem ty_pl55 : placesT Tryz.prog 55 = some [(0, 1), (1, 1), (2, 1), (3, 1), (4, 1), (5, 1)] := by kernel_rfl
theorem ty_t55 : tapp Tryz.prog 55 = some (6, 88) := by kernel_rfl
theorem ty_c55 : tzc Tryz.prog 55 = some [.c (.int .i64 0), .c (.int .i64 0), .c (.string ⟨#[]⟩), .c (.slice none 0 0), .c (.slice none 0 0), .c (.bool false)] := by kernel_rfl
theorem ty_y55 : zelem Tryz.prog 55 = some (.agg [.c (.int .i64 0), .c (.int .i64 0), .c (.string ⟨#[]⟩), .c (.slice none 0 0), .c (.slice none 0 0), .c (.bool false)]) := by kernel_rfl
theorem ty_u56 : (Tryz.prog.underlying 56).isSome = true := by kernel_rfl
theorem ty_z56 : tsz Tryz.prog 56 = some 12 := by kernel_rfl
theorem ty_a56 : isAggT Tryz.prog 56 = some true := by kernel_rfl
theorem ty_i56 : intT Tryz.prog 56 = none := by kernel_rfl
theorem ty_s56 : isStr Tryz.prog 56 = false := by kernel_rfl
theorem ty_b56 : isBoolT Tryz.prog 56 = false := by kernel_rfl
theorem ty_e56 : elemT Tryz.prog 56 = none := by kernel_rfl
theorem ty_f56_0 : fieldT Tryz.prog 56 0 = some (37, 0) := by kernel_rfl
theorem ty_f56_1 : fieldT Tryz.prog 56 1 = some (3, 1) := by kernel_rfl
theorem ty_f56_2 : fieldT Tryz.prog 56 2 = some (3, 2) := by kernel_rfl
theorem ty_f56_3 : fieldT Tryz.prog 56 3 = some (3, 3) := by kernel_rfl
theorem ty_f56_4 : fieldT Tryz.prog 56 4 = some (23, 4) := by kernel_rfl
theorem ty_f56_5 : fieldT Tryz.prog 56 5 = some (55, 5) := by kernel_rfl
theorem ty_f56_6 : fieldT Tryz.prog 56 6 = some (28, 11) := by kernel_rfl
theorem ty_pl56 : placesT Tryz.prog 56 = some [(0, 1), (1, 1), (2, 1), (3, 1), (4, 1), (5, 6), (11, 1)] := by kernel_rfl
theorem ty_t56 : tapp Tryz.prog 56 = some (12, 168) := by kernel_rfl
theorem ty_c56 : tzc Tryz.prog 56 = some [.c (.int .i64 0), .c (.int .i64 0), .c (.int .i64 0), .c (.int .i64 0), .c (.slice none 0 0), .c (.int .i64 0), .c (.int .i64 0), .c (.string ⟨#[]⟩), .c (.slice none 0 0), .c (.slice none 0 0), .c (.bool false), .c (.slice none 0 0)] := by kernel_rfl
theorem ty_y56 : zelem Tryz.prog 56 = some (.agg [.c (.int .i64 0), .c (.int .i64 0), .c (.int .i64 0), .c (.int .i64 0), .c (.slice none 0 0), .c (.int .i64 0), .c (.int .i64 0), .c (.string ⟨#[]⟩), .c (.slice none 0 0), .c (.slice none 0 0), .c (.bool false), .c (.slice none 0 0)]) := by kernel_rfl
theorem ty_u57 : (Tryz.prog.underlying 57).isSome = true := by kernel_rfl
theorem ty_z57 : tsz Tryz.prog 57 = some 12 := by kernel_rfl
theorem ty_a57 : isAggT Tryz.prog 57 = some true := by kernel_rfl
theorem ty_i57 : intT Tryz.prog 57 = none := by kernel_rfl
theorem ty_s57 : isStr Tryz.prog 57 = false := by kernel_rfl
theorem ty_b57 : isBoolT Tryz.prog 57 = false := by kernel_rfl
theorem ty_e57 : elemT Tryz.prog 57 = none := by kernel_rfl
theorem ty_f57_0 : fieldT Tryz.prog 57 0 = some (37, 0) := by kernel_rfl
theorem ty_f57_1 : fieldT Tryz.prog 57 1 = some (3, 1) := by kernel_rfl
theorem ty_f57_2 : fieldT Tryz.prog 57 2 = some (3, 2) := by kernel_rfl
theorem ty_f57_3 : fieldT Tryz.prog 57 3 = some (3, 3) := by kernel_rfl
theorem ty_f57_4 : fieldT Tryz.prog 57 4 = some (23, 4) := by kernel_rfl
theorem ty_f57_5 : fieldT Tryz.prog 57 5 = some (55, 5) := by kernel_rfl
theorem ty_f57_6 : fieldT Tryz.prog 57 6 = some (28, 11) := by kernel_rfl
theorem ty_pl57 : placesT Tryz.prog 57 = some [(0, 1), (1, 1), (2, 1), (3, 1), (4, 1), (5, 6), (11, 1)] := by kernel_rfl
theorem ty_t57 : tapp Tryz.prog 57 = some (12, 168) := by kernel_rfl
theorem ty_c57 : tzc Tryz.prog 57 = some [.c (.int .i64 0), .c (.int .i64 0), .c (.int .i64 0), .c (.int .i64 0), .c (.slice none 0 0), .c (.int .i64 0), .c (.int .i64 0), .c (.string ⟨#[]⟩), .c (.slice none 0 0), .c (.slice none 0 0), .c (.bool false), .c (.slice none 0 0)] := by kernel_rfl
theorem ty_y57 : zelem Tryz.prog 57 = some (.agg [.c (.int .i64 0), .c (.int .i64 0), .c (.int .i64 0), .c (.int .i64 0), .c (.slice none 0 0), .c (.int .i64 0), .c (.int .i64 0), .c (.string ⟨#[]⟩), .c (.slice none 0 0), .c (.slice none 0 0), .c (.bool false), .c (.slice none 0 0)]) := by kernel_rfl
theorem ty_u59 : (Tryz.prog.underlying 59).isSome = true := by kernel_rfl
theorem ty_z59 : tsz Tryz.prog 59 = some 3 := by kernel_rfl
theorem ty_a59 : isAggT Tryz.prog 59 = some true := by kernel_rfl
theorem ty_i59 : intT Tryz.prog 59 = none := by kernel_rfl
theorem ty_s59 : isStr Tryz.prog 59 = false := by kernel_rfl
theorem ty_b59 : isBoolT Tryz.prog 59 = false := by kernel_rfl
theorem ty_e59 : elemT Tryz.prog 59 = none := by kernel_rfl
theorem ty_f59_0 : fieldT Tryz.prog 59 0 = some (9, 0) := by kernel_rfl
theorem ty_f59_1 : fieldT Tryz.prog 59 1 = some (3, 1) := by kernel_rfl
theorem ty_f59_2 : fieldT Tryz.prog 59 2 = some (3, 2) := by kernel_rfl
theorem ty_pl59 : placesT Tryz.prog 59 = some [(0, 1), (1, 1), (2, 1)] := by kernel_rfl
theorem ty_eq59 : eqPl Tryz.prog 59 = some [(0, .s), (1, .n), (2, .n)] := by kernel_rfl
theorem ty_t59 : tapp Tryz.prog 59 = some (3, 32) := by kernel_rfl
theorem ty_c59 : tzc Tryz.prog 59 = some [.c (.string ⟨#[]⟩), .c (.int .i64 0), .c (.int .i64 0)] := by kernel_rfl
theorem ty_y59 : zelem Tryz.prog 59 = some (.agg [.c (.string ⟨#[]⟩), .c (.int .i64 0), .c (.int .i64 0)]) := by kernel_rfl
theorem ty_u64 : (Tryz.prog.underlying 64).isSome = true := by kernel_rfl
theorem ty_z64 : tsz Tryz.prog 64 = some 2 := by kernel_rfl
theorem ty_a64 : isAggT Tryz.prog 64 = some true := by kernel_rfl
theorem ty_i64 : intT Tryz.prog 64 = none := by kernel_rfl
theorem ty_s64 : isStr Tryz.prog 64 = false := by kernel_rfl
theorem ty_b64 : isBoolT Tryz.prog 64 = false := by kernel_rfl
theorem ty_e64 : elemT Tryz.prog 64 = none := by kernel_rfl
theorem ty_f64_0 : fieldT Tryz.prog 64 0 = some (9, 0) := by kernel_rfl
theorem ty_f64_1 : fieldT Tryz.prog 64 1 = some (3, 1) := by kernel_rfl
theorem ty_pl64 : placesT Tryz.prog 64 = some [(0, 1), (1, 1)] := by kernel_rfl
theorem ty_eq64 : eqPl Tryz.prog 64 = some [(0, .s), (1, .n)] := by kernel_rfl
theorem ty_t64 : tapp Tryz.prog 64 = some (2, 24) := by kernel_rfl
theorem ty_c64 : tzc Tryz.prog 64 = some [.c (.string ⟨#[]⟩), .c (.int .i64 0)] := by kernel_rfl
theorem ty_y64 : zelem Tryz.prog 64 = some (.agg [.c (.string ⟨#[]⟩), .c (.int .i64 0)]) := by kernel_rfl
theorem ty_u69 : (Tryz.prog.underlying 69).isSome = true := by kernel_rfl
theorem ty_z69 : tsz Tryz.prog 69 = some 24 := by kernel_rfl
theorem ty_a69 : isAggT Tryz.prog 69 = some true := by kernel_rfl
theorem ty_i69 : intT Tryz.prog 69 = none := by kernel_rfl
theorem ty_s69 : isStr Tryz.prog 69 = false := by kernel_rfl
theorem ty_b69 : isBoolT Tryz.prog 69 = false := by kernel_rfl
theorem ty_e69 : elemT Tryz.prog 69 = none := by kernel_rfl
theorem ty_f69_0 : fieldT Tryz.prog 69 0 = some (3, 0) := by kernel_rfl
theorem ty_f69_1 : fieldT Tryz.prog 69 1 = some (3, 1) := by kernel_rfl
theorem ty_f69_2 : fieldT Tryz.prog 69 2 = some (32, 2) := by kernel_rfl
theorem ty_pl69 : placesT Tryz.prog 69 = some [(0, 1), (1, 1), (2, 22)] := by kernel_rfl
theorem ty_t69 : tapp Tryz.prog 69 = some (24, 280) := by kernel_rfl
theorem ty_c69 : tzc Tryz.prog 69 = some [.c (.int .i64 0), .c (.int .i64 0), .c (.int .i64 0), .c (.string ⟨#[]⟩), .c (.string ⟨#[]⟩), .c (.slice none 0 0), .c (.int .i64 0), .c (.int .i64 0), .c (.int .i64 0), .c (.int .u64 0), .c (.slice none 0 0), .c (.slice none 0 0), .c (.int .i64 0), .c (.int .i64 0), .c (.int .i64 0), .c (.int .i64 0), .c (.int .i64 0), .c (.int .i64 0), .c (.int .i64 0), .c (.string ⟨#[]⟩), .c (.int .i64 0), .c (.int .i64 0), .c (.int .i64 0), .c (.slice none 0 0)] := by kernel_rfl
theorem ty_y69 : zelem Tryz.prog 69 = some (.agg [.c (.int .i64 0), .c (.int .i64 0), .c (.int .i64 0), .c (.string ⟨#[]⟩), .c (.string ⟨#[]⟩), .c (.slice none 0 0), .c (.int .i64 0), .c (.int .i64 0), .c (.int .i64 0), .c (.int .u64 0), .c (.slice none 0 0), .c (.slice none 0 0), .c (.int .i64 0), .c (.int .i64 0), .c (.int .i64 0), .c (.int .i64 0), .c (.int .i64 0), .c (.int .i64 0), .c (.int .i64 0), .c (.string ⟨#[]⟩), .c (.int .i64 0), .c (.int .i64 0), .c (.int .i64 0), .c (.slice none 0 0)]) := by kernel_rfl
theorem ty_u88 : (Tryz.prog.underlying 88).isSome = true := by kernel_rfl
theorem ty_z88 : tsz Tryz.prog 88 = some 5 := by kernel_rfl
theorem ty_a88 : isAggT Tryz.prog 88 = some true := by kernel_rfl
theorem ty_i88 : intT Tryz.prog 88 = none := by kernel_rfl
theorem ty_s88 : isStr Tryz.prog 88 = false := by kernel_rfl
theorem ty_b88 : isBoolT Tryz.prog 88 = false := by kernel_rfl
theorem ty_e88 : elemT Tryz.prog 88 = none := by kernel_rfl
theorem ty_f88_0 : fieldT Tryz.prog 88 0 = some (3, 0) := by kernel_rfl
theorem ty_f88_1 : fieldT Tryz.prog 88 1 = some (3, 1) := by kernel_rfl
theorem ty_f88_2 : fieldT Tryz.prog 88 2 = some (3, 2) := by kernel_rfl
theorem ty_f88_3 : fieldT Tryz.prog 88 3 = some (53, 3) := by kernel_rfl
theorem ty_f88_4 : fieldT Tryz.prog 88 4 = some (4, 4) := by kernel_rfl
theorem ty_pl88 : placesT Tryz.prog 88 = some [(0, 1), (1, 1), (2, 1), (3, 1), (4, 1)] := by kernel_rfl
theorem ty_t88 : tapp Tryz.prog 88 = some (5, 56) := by kernel_rfl
theorem ty_c88 : tzc Tryz.prog 88 = some [.c (.int .i64 0), .c (.int .i64 0), .c (.int .i64 0), .c (.slice none 0 0), .c (.bool false)] := by kernel_rfl
theorem ty_y88 : zelem Tryz.prog 88 = some (.agg [.c (.int .i64 0), .c (.int .i64 0), .c (.int .i64 0), .c (.slice none 0 0), .c (.bool false)]) := by kernel_rfl
theorem ty_u106 : (Tryz.prog.underlying 106).isSome = true := by kernel_rfl
theorem ty_z106 : tsz Tryz.prog 106 = some 1 := by kernel_rfl
theorem ty_a106 : isAggT Tryz.prog 106 = some false := by kernel_rfl
theorem ty_i106 : intT Tryz.prog 106 = none := by kernel_rfl
theorem ty_s106 : isStr Tryz.prog 106 = false := by kernel_rfl
theorem ty_b106 : isBoolT Tryz.prog 106 = false := by kernel_rfl
theorem ty_e106 : elemT Tryz.prog 106 = none := by kernel_rfl
theorem ty_p106 : isPtr Tryz.prog 106 = true := by kernel_rfl
theorem ty_q106 : ptrTo Tryz.prog 106 = some 108 := by kernel_rfl
theorem ty_t106 : tapp Tryz.prog 106 = some (1, 8) := by kernel_rfl
theorem ty_c106 : tzc Tryz.prog 106 = some [.c (.pointer none)] := by kernel_rfl
theorem ty_y106 : zelem Tryz.prog 106 = some (.c (.pointer none)) := by kernel_rfl
theorem ty_u108 : (Tryz.prog.underlying 108).isSome = true := by kernel_rfl
theorem ty_z108 : tsz Tryz.prog 108 = some 2 := by kernel_rfl
theorem ty_a108 : isAggT Tryz.prog 108 = some true := by kernel_rfl
theorem ty_i108 : intT Tryz.prog 108 = none := by kernel_rfl
theorem ty_s108 : isStr Tryz.prog 108 = false := by kernel_rfl
theorem ty_b108 : isBoolT Tryz.prog 108 = false := by kernel_rfl
theorem ty_e108 : elemT Tryz.prog 108 = none := by kernel_rfl
theorem ty_f108_0 : fieldT Tryz.prog 108 0 = some (23, 0) := by kernel_rfl
theorem ty_f108_1 : fieldT Tryz.prog 108 1 = some (4, 1) := by kernel_rfl
theorem ty_pl108 : placesT Tryz.prog 108 = some [(0, 1), (1, 1)] := by kernel_rfl
theorem ty_t108 : tapp Tryz.prog 108 = some (2, 32) := by kernel_rfl
theorem ty_c108 : tzc Tryz.prog 108 = some [.c (.slice none 0 0), .c (.bool false)] := by kernel_rfl
theorem ty_y108 : zelem Tryz.prog 108 = some (.agg [.c (.slice none 0 0), .c (.bool false)]) := by kernel_rfl
theorem ty_u113 : (Tryz.prog.underlying 113).isSome = true := by kernel_rfl
theorem ty_z113 : tsz Tryz.prog 113 = some 1 := by kernel_rfl
theorem ty_a113 : isAggT Tryz.prog 113 = some false := by kernel_rfl
theorem ty_i113 : intT Tryz.prog 113 = none := by kernel_rfl
theorem ty_s113 : isStr Tryz.prog 113 = false := by kernel_rfl
theorem ty_b113 : isBoolT Tryz.prog 113 = false := by kernel_rfl
theorem ty_e113 : elemT Tryz.prog 113 = none := by kernel_rfl
theorem ty_p113 : isPtr Tryz.prog 113 = true := by kernel_rfl
theorem ty_q113 : ptrTo Tryz.prog 113 = some 115 := by kernel_rfl
theorem ty_t113 : tapp Tryz.prog 113 = some (1, 8) := by kernel_rfl
theorem ty_c113 : tzc Tryz.prog 113 = some [.c (.pointer none)] := by kernel_rfl
theorem ty_y113 : zelem Tryz.prog 113 = some (.c (.pointer none)) := by kernel_rfl
theorem ty_u115 : (Tryz.prog.underlying 115).isSome = true := by kernel_rfl
theorem ty_z115 : tsz Tryz.prog 115 = some 2 := by kernel_rfl
theorem ty_a115 : isAggT Tryz.prog 115 = some true := by kernel_rfl
theorem ty_i115 : intT Tryz.prog 115 = none := by kernel_rfl
theorem ty_s115 : isStr Tryz.prog 115 = false := by kernel_rfl
theorem ty_b115 : isBoolT Tryz.prog 115 = false := by kernel_rfl
theorem ty_e115 : elemT Tryz.prog 115 = none := by kernel_rfl
theorem ty_f115_0 : fieldT Tryz.prog 115 0 = some (113, 0) := by kernel_rfl
theorem ty_f115_1 : fieldT Tryz.prog 115 1 = some (28, 1) := by kernel_rfl
theorem ty_pl115 : placesT Tryz.prog 115 = some [(0, 1), (1, 1)] := by kernel_rfl
theorem ty_t115 : tapp Tryz.prog 115 = some (2, 32) := by kernel_rfl
theorem ty_c115 : tzc Tryz.prog 115 = some [.c (.pointer none), .c (.slice none 0 0)] := by kernel_rfl
theorem ty_y115 : zelem Tryz.prog 115 = some (.agg [.c (.pointer none), .c (.slice none 0 0)]) := by kernel_rfl
theorem ty_u117 : (Tryz.prog.underlying 117).isSome = true := by kernel_rfl
theorem ty_u132 : (Tryz.prog.underlying 132).isSome = true := by kernel_rfl
theorem ty_z132 : tsz Tryz.prog 132 = some 14 := by kernel_rfl
theorem ty_a132 : isAggT Tryz.prog 132 = some true := by kernel_rfl
theorem ty_i132 : intT Tryz.prog 132 = none := by kernel_rfl
theorem ty_s132 : isStr Tryz.prog 132 = false := by kernel_rfl
theorem ty_b132 : isBoolT Tryz.prog 132 = false := by kernel_rfl
theorem ty_e132 : elemT Tryz.prog 132 = none := by kernel_rfl
theorem ty_r132 : arrayT Tryz.prog 132 = some (14, 4) := by kernel_rfl
theorem ty_t132 : tapp Tryz.prog 132 = some (14, 14) := by kernel_rfl
theorem ty_c132 : tzc Tryz.prog 132 = some [.c (.bool false), .c (.bool false), .c (.bool false), .c (.bool false), .c (.bool false), .c (.bool false), .c (.bool false), .c (.bool false), .c (.bool false), .c (.bool false), .c (.bool false), .c (.bool false), .c (.bool false), .c (.bool false)] := by kernel_rfl
theorem ty_y132 : zelem Tryz.prog 132 = some (.agg [.c (.bool false), .c (.bool false), .c (.bool false), .c (.bool false), .c (.bool false), .c (.bool false), .c (.bool false), .c (.bool false), .c (.bool false), .c (.bool false), .c (.bool false), .c (.bool false), .c (.bool false), .c (.bool false)]) := by kernel_rfl
theorem ty_u151 : (Tryz.prog.underlying 151).isSome = true := by kernel_rfl
theorem ty_z151 : tsz Tryz.prog 151 = some 1 := by kernel_rfl
theorem ty_a151 : isAggT Tryz.prog 151 = some false := by kernel_rfl
theorem ty_i151 : intT Tryz.prog 151 = none := by kernel_rfl
theorem ty_s151 : isStr Tryz.prog 151 = false := by kernel_rfl
theorem ty_b151 : isBoolT Tryz.prog 151 = false := by kernel_rfl
theorem ty_e151 : elemT Tryz.prog 151 = none := by kernel_rfl
theorem ty_p151 : isPtr Tryz.prog 151 = true := by kernel_rfl
theorem ty_q151 : ptrTo Tryz.prog 151 = some 32 := by kernel_rfl
theorem ty_t151 : tapp Tryz.prog 151 = some (1, 8) := by kernel_rfl
theorem ty_c151 : tzc Tryz.prog 151 = some [.c (.pointer none)] := by kernel_rfl
theorem ty_y151 : zelem Tryz.prog 151 = some (.c (.pointer none)) := by kernel_rfl
theorem ty_u152 : (Tryz.prog.underlying 152).isSome = true := by kernel_rfl
theorem ty_z152 : tsz Tryz.prog 152 = some 1 := by kernel_rfl
theorem ty_a152 : isAggT Tryz.prog 152 = some false := by kernel_rfl
theorem ty_i152 : intT Tryz.prog 152 = none := by kernel_rfl
theorem ty_s152 : isStr Tryz.prog 152 = false := by kernel_rfl
theorem ty_b152 : isBoolT Tryz.prog 152 = false := by kernel_rfl
theorem ty_e152 : elemT Tryz.prog 152 = none := by kernel_rfl
theorem ty_p152 : isPtr Tryz.prog 152 = true := by kernel_rfl
theorem ty_q152 : ptrTo Tryz.prog 152 = some 5 := by kernel_rfl
theorem ty_t152 : tapp Tryz.prog 152 = some (1, 8) := by kernel_rfl
theorem ty_c152 : tzc Tryz.prog 152 = some [.c (.pointer none)] := by kernel_rfl
theorem ty_y152 : zelem Tryz.prog 152 = some (.c (.pointer none)) := by kernel_rfl
theorem ty_u184 : (Tryz.prog.underlying 184).isSome = true := by kernel_rfl
theorem ty_z184 : tsz Tryz.prog 184 = some 1 := by kernel_rfl
theorem ty_a184 : isAggT Tryz.prog 184 = some false := by kernel_rfl
theorem ty_i184 : intT Tryz.prog 184 = none := by kernel_rfl
theorem ty_s184 : isStr Tryz.prog 184 = false := by kernel_rfl
theorem ty_b184 : isBoolT Tryz.prog 184 = false := by kernel_rfl
theorem ty_e184 : elemT Tryz.prog 184 = none := by kernel_rfl
theorem ty_t184 : tapp Tryz.prog 184 = some (1, 8) := by kernel_rfl
theorem ty_c184 : tzc Tryz.prog 184 = some [.c (.pointer none)] := by kernel_rfl
theorem ty_y184 : zelem Tryz.prog 184 = some (.c (.pointer none)) := by kernel_rfl
theorem ty_u197 : (Tryz.prog.underlying 197).isSome = true := by kernel_rfl
theorem ty_z197 : tsz Tryz.prog 197 = some 1 := by kernel_rfl
theorem ty_a197 : isAggT Tryz.prog 197 = some false := by kernel_rfl
theorem ty_i197 : intT Tryz.prog 197 = some .u32 := by kernel_rfl
theorem ty_s197 : isStr Tryz.prog 197 = false := by kernel_rfl
theorem ty_b197 : isBoolT Tryz.prog 197 = false := by kernel_rfl
theorem ty_e197 : elemT Tryz.prog 197 = none := by kernel_rfl
theorem ty_t197 : tapp Tryz.prog 197 = some (1, 4) := by kernel_rfl
theorem ty_c197 : tzc Tryz.prog 197 = some [.c (.int .u32 0)] := by kernel_rfl
theorem ty_y197 : zelem Tryz.prog 197 = some (.c (.int .u32 0)) := by kernel_rfl
theorem ty_u219 : (Tryz.prog.underlying 219).isSome = true := by kernel_rfl
theorem ty_z219 : tsz Tryz.prog 219 = some 24 := by kernel_rfl
theorem ty_a219 : isAggT Tryz.prog 219 = some true := by kernel_rfl
theorem ty_i219 : intT Tryz.prog 219 = none := by kernel_rfl
theorem ty_s219 : isStr Tryz.prog 219 = false := by kernel_rfl
theorem ty_b219 : isBoolT Tryz.prog 219 = false := by kernel_rfl
theorem ty_e219 : elemT Tryz.prog 219 = none := by kernel_rfl
theorem ty_r219 : arrayT Tryz.prog 219 = some (24, 5) := by kernel_rfl
theorem ty_t219 : tapp Tryz.prog 219 = some (24, 24) := by kernel_rfl
theorem ty_c219 : tzc Tryz.prog 219 = some [.c (.int .u8 0), .c (.int .u8 0), .c (.int .u8 0), .c (.int .u8 0), .c (.int .u8 0), .c (.int .u8 0), .c (.int .u8 0), .c (.int .u8 0), .c (.int .u8 0), .c (.int .u8 0), .c (.int .u8 0), .c (.int .u8 0), .c (.int .u8 0), .c (.int .u8 0), .c (.int .u8 0), .c (.int .u8 0), .c (.int .u8 0), .c (.int .u8 0), .c (.int .u8 0), .c (.int .u8 0), .c (.int .u8 0), .c (.int .u8 0), .c (.int .u8 0), .c (.int .u8 0)] := by kernel_rfl
theorem ty_y219 : zelem Tryz.prog 219 = some (.agg [.c (.int .u8 0), .c (.int .u8 0), .c (.int .u8 0), .c (.int .u8 0), .c (.int .u8 0), .c (.int .u8 0), .c (.int .u8 0), .c (.int .u8 0), .c (.int .u8 0), .c (.int .u8 0), .c (.int .u8 0), .c (.int .u8 0), .c (.int .u8 0), .c (.int .u8 0), .c (.int .u8 0), .c (.int .u8 0), .c (.int .u8 0), .c (.int .u8 0), .c (.int .u8 0), .c (.int .u8 0), .c (.int .u8 0), .c (.int .u8 0), .c (.int .u8 0), .c (.int .u8 0)]) := by kernel_rfl
theorem ty_u256 : (Tryz.prog.underlying 256).isSome = true := by kernel_rfl
theorem ty_z256 : tsz Tryz.prog 256 = some 20 := by kernel_rfl
theorem ty_a256 : isAggT Tryz.prog 256 = some true := by kernel_rfl
theorem ty_i256 : intT Tryz.prog 256 = none := by kernel_rfl
theorem ty_s256 : isStr Tryz.prog 256 = false := by kernel_rfl
theorem ty_b256 : isBoolT Tryz.prog 256 = false := by kernel_rfl
theorem ty_e256 : elemT Tryz.prog 256 = none := by kernel_rfl
theorem ty_r256 : arrayT Tryz.prog 256 = some (20, 24) := by kernel_rfl
theorem ty_t256 : tapp Tryz.prog 256 = some (20, 160) := by kernel_rfl
theorem ty_c256 : tzc Tryz.prog 256 = some [.c (.int .u64 0), .c (.int .u64 0), .c (.int .u64 0), .c (.int .u64 0), .c (.int .u64 0), .c (.int .u64 0), .c (.int .u64 0), .c (.int .u64 0), .c (.int .u64 0), .c (.int .u64 0), .c (.int .u64 0), .c (.int .u64 0), .c (.int .u64 0), .c (.int .u64 0), .c (.int .u64 0), .c (.int .u64 0), .c (.int .u64 0), .c (.int .u64 0), .c (.int .u64 0), .c (.int .u64 0)] := by kernel_rfl
theorem ty_y256 : zelem Tryz.prog 256 = some (.agg [.c (.int .u64 0), .c (.int .u64 0), .c (.int .u64 0), .c (.int .u64 0), .c (.int .u64 0), .c (.int .u64 0), .c (.int .u64 0), .c (.int .u64 0), .c (.int .u64 0), .c (.int .u64 0), .c (.int .u64 0), .c (.int .u64 0), .c (.int .u64 0), .c (.int .u64 0), .c (.int .u64 0), .c (.int .u64 0), .c (.int .u64 0), .c (.int .u64 0), .c (.int .u64 0), .c (.int .u64 0)]) := by kernel_rfl
theorem ty_u257 : (Tryz.prog.underlying 257).isSome = true := by kernel_rfl
theorem ty_z257 : tsz Tryz.prog 257 = some 65 := by kernel_rfl
theorem ty_a257 : isAggT Tryz.prog 257 = some true := by kernel_rfl
theorem ty_i257 : intT Tryz.prog 257 = none := by kernel_rfl
theorem ty_s257 : isStr Tryz.prog 257 = false := by kernel_rfl
theorem ty_b257 : isBoolT Tryz.prog 257 = false := by kernel_rfl
theorem ty_e257 : elemT Tryz.prog 257 = none := by kernel_rfl
theorem ty_r257 : arrayT Tryz.prog 257 = some (65, 5) := by kernel_rfl
theorem ty_t257 : tapp Tryz.prog 257 = some (65, 65) := by kernel_rfl
theorem ty_c257 : tzc Tryz.prog 257 = some [.c (.int .u8 0), .c (.int .u8 0), .c (.int .u8 0), .c (.int .u8 0), .c (.int .u8 0), .c (.int .u8 0), .c (.int .u8 0), .c (.int .u8 0), .c (.int .u8 0), .c (.int .u8 0), .c (.int .u8 0), .c (.int .u8 0), .c (.int .u8 0), .c (.int .u8 0), .c (.int .u8 0), .c (.int .u8 0), .c (.int .u8 0), .c (.int .u8 0), .c (.int .u8 0), .c (.int .u8 0), .c (.int .u8 0), .c (.int .u8 0), .c (.int .u8 0), .c (.int .u8 0), .c (.int .u8 0), .c (.int .u8 0), .c (.int .u8 0), .c (.int .u8 0), .c (.int .u8 0), .c (.int .u8 0), .c (.int .u8 0), .c (.int .u8 0), .c (.int .u8 0), .c (.int .u8 0), .c (.int .u8 0), .c (.int .u8 0), .c (.int .u8 0), .c (.int .u8 0), .c (.int .u8 0), .c (.int .u8 0), .c (.int .u8 0), .c (.int .u8 0), .c (.int .u8 0), .c (.int .u8 0), .c (.int .u8 0), .c (.int .u8 0), .c (.int .u8 0), .c (.int .u8 0), .c (.int .u8 0), .c (.int .u8 0), .c (.int .u8 0), .c (.int .u8 0), .c (.int .u8 0), .c (.int .u8 0), .c (.int .u8 0), .c (.int .u8 0), .c (.int .u8 0), .c (.int .u8 0), .c (.int .u8 0), .c (.int .u8 0), .c (.int .u8 0), .c (.int .u8 0), .c (.int .u8 0), .c (.int .u8 0), .c (.int .u8 0)] := by kernel_rfl
theorem ty_y257 : zelem Tryz.prog 257 = some (.agg [.c (.int .u8 0), .c (.int .u8 0), .c (.int .u8 0), .c (.int .u8 0), .c (.int .u8 0), .c (.int .u8 0), .c (.int .u8 0), .c (.int .u8 0), .c (.int .u8 0), .c (.int .u8 0), .c (.int .u8 0), .c (.int .u8 0), .c (.int .u8 0), .c (.int .u8 0), .c (.int .u8 0), .c (.int .u8 0), .c (.int .u8 0), .c (.int .u8 0), .c (.int .u8 0), .c (.int .u8 0), .c (.int .u8 0), .c (.int .u8 0), .c (.int .u8 0), .c (.int .u8 0), .c (.int .u8 0), .c (.int .u8 0), .c (.int .u8 0), .c (.int .u8 0), .c (.int .u8 0), .c (.int .u8 0), .c (.int .u8 0), .c (.int .u8 0), .c (.int .u8 0), .c (.int .u8 0), .c (.int .u8 0), .c (.int .u8 0), .c (.int .u8 0), .c (.int .u8 0), .c (.int .u8 0), .c (.int .u8 0), .c (.int .u8 0), .c (.int .u8 0), .c (.int .u8 0), .c (.int .u8 0), .c (.int .u8 0), .c (.int .u8 0), .c (.int .u8 0), .c (.int .u8 0), .c (.int .u8 0), .c (.int .u8 0), .c (.int .u8 0), .c (.int .u8 0), .c (.int .u8 0), .c (.int .u8 0), .c (.int .u8 0), .c (.int .u8 0), .c (.int .u8 0), .c (.int .u8 0), .c (.int .u8 0), .c (.int .u8 0), .c (.int .u8 0), .c (.int .u8 0), .c (.int .u8 0), .c (.int .u8 0), .c (.int .u8 0)]) := by kernel_rfl
theorem ty_u282 : (Tryz.prog.underlying 282).isSome = true := by kernel_rfl
theorem ty_z282 : tsz Tryz.prog 282 = some 32 := by kernel_rfl
theorem ty_a282 : isAggT Tryz.prog 282 = some true := by kernel_rfl
theorem ty_i282 : intT Tryz.prog 282 = none := by kernel_rfl
theorem ty_s282 : isStr Tryz.prog 282 = false := by kernel_rfl
theorem ty_b282 : isBoolT Tryz.prog 282 = false := by kernel_rfl
theorem ty_e282 : elemT Tryz.prog 282 = none := by kernel_rfl
theorem ty_r282 : arrayT Tryz.prog 282 = some (32, 5) := by kernel_rfl
theorem ty_t282 : tapp Tryz.prog 282 = some (32, 32) := by kernel_rfl
theorem ty_c282 : tzc Tryz.prog 282 = some [.c (.int .u8 0), .c (.int .u8 0), .c (.int .u8 0), .c (.int .u8 0), .c (.int .u8 0), .c (.int .u8 0), .c (.int .u8 0), .c (.int .u8 0), .c (.int .u8 0), .c (.int .u8 0), .c (.int .u8 0), .c (.int .u8 0), .c (.int .u8 0), .c (.int .u8 0), .c (.int .u8 0), .c (.int .u8 0), .c (.int .u8 0), .c (.int .u8 0), .c (.int .u8 0), .c (.int .u8 0), .c (.int .u8 0), .c (.int .u8 0), .c (.int .u8 0), .c (.int .u8 0), .c (.int .u8 0), .c (.int .u8 0), .c (.int .u8 0), .c (.int .u8 0), .c (.int .u8 0), .c (.int .u8 0), .c (.int .u8 0), .c (.int .u8 0)] := by kernel_rfl
theorem ty_y282 : zelem Tryz.prog 282 = some (.agg [.c (.int .u8 0), .c (.int .u8 0), .c (.int .u8 0), .c (.int .u8 0), .c (.int .u8 0), .c (.int .u8 0), .c (.int .u8 0), .c (.int .u8 0), .c (.int .u8 0), .c (.int .u8 0), .c (.int .u8 0), .c (.int .u8 0), .c (.int .u8 0), .c (.int .u8 0), .c (.int .u8 0), .c (.int .u8 0), .c (.int .u8 0), .c (.int .u8 0), .c (.int .u8 0), .c (.int .u8 0), .c (.int .u8 0), .c (.int .u8 0), .c (.int .u8 0), .c (.int .u8 0), .c (.int .u8 0), .c (.int .u8 0), .c (.int .u8 0), .c (.int .u8 0), .c (.int .u8 0), .c (.int .u8 0), .c (.int .u8 0), .c (.int .u8 0)]) := by kernel_rfl
theorem ty_u283 : (Tryz.prog.underlying 283).isSome = true := by kernel_rfl
theorem ty_z283 : tsz Tryz.prog 283 = some 64 := by kernel_rfl
theorem ty_a283 : isAggT Tryz.prog 283 = some true := by kernel_rfl
theorem ty_i283 : intT Tryz.prog 283 = none := by kernel_rfl
theorem ty_s283 : isStr Tryz.prog 283 = false := by kernel_rfl
theorem ty_b283 : isBoolT Tryz.prog 283 = false := by kernel_rfl
theorem ty_e283 : elemT Tryz.prog 283 = none := by kernel_rfl
theorem ty_r283 : arrayT Tryz.prog 283 = some (64, 5) := by kernel_rfl
theorem ty_t283 : tapp Tryz.prog 283 = some (64, 64) := by kernel_rfl
theorem ty_c283 : tzc Tryz.prog 283 = some [.c (.int .u8 0), .c (.int .u8 0), .c (.int .u8 0), .c (.int .u8 0), .c (.int .u8 0), .c (.int .u8 0), .c (.int .u8 0), .c (.int .u8 0), .c (.int .u8 0), .c (.int .u8 0), .c (.int .u8 0), .c (.int .u8 0), .c (.int .u8 0), .c (.int .u8 0), .c (.int .u8 0), .c (.int .u8 0), .c (.int .u8 0), .c (.int .u8 0), .c (.int .u8 0), .c (.int .u8 0), .c (.int .u8 0), .c (.int .u8 0), .c (.int .u8 0), .c (.int .u8 0), .c (.int .u8 0), .c (.int .u8 0), .c (.int .u8 0), .c (.int .u8 0), .c (.int .u8 0), .c (.int .u8 0), .c (.int .u8 0), .c (.int .u8 0), .c (.int .u8 0), .c (.int .u8 0), .c (.int .u8 0), .c (.int .u8 0), .c (.int .u8 0), .c (.int .u8 0), .c (.int .u8 0), .c (.int .u8 0), .c (.int .u8 0), .c (.int .u8 0), .c (.int .u8 0), .c (.int .u8 0), .c (.int .u8 0), .c (.int .u8 0), .c (.int .u8 0), .c (.int .u8 0), .c (.int .u8 0), .c (.int .u8 0), .c (.int .u8 0), .c (.int .u8 0), .c (.int .u8 0), .c (.int .u8 0), .c (.int .u8 0), .c (.int .u8 0), .c (.int .u8 0), .c (.int .u8 0), .c (.int .u8 0), .c (.int .u8 0), .c (.int .u8 0), .c (.int .u8 0), .c (.int .u8 0), .c (.int .u8 0)] := by kernel_rfl
theorem ty_y283 : zelem Tryz.prog 283 = some (.agg [.c (.int .u8 0), .c (.int .u8 0), .c (.int .u8 0), .c (.int .u8 0), .c (.int .u8 0), .c (.int .u8 0), .c (.int .u8 0), .c (.int .u8 0), .c (.int .u8 0), .c (.int .u8 0), .c (.int .u8 0), .c (.int .u8 0), .c (.int .u8 0), .c (.int .u8 0), .c (.int .u8 0), .c (.int .u8 0), .c (.int .u8 0), .c (.int .u8 0), .c (.int .u8 0), .c (.int .u8 0), .c (.int .u8 0), .c (.int .u8 0), .c (.int .u8 0), .c (.int .u8 0), .c (.int .u8 0), .c (.int .u8 0), .c (.int .u8 0), .c (.int .u8 0), .c (.int .u8 0), .c (.int .u8 0), .c (.int .u8 0), .c (.int .u8 0), .c (.int .u8 0), .c (.int .u8 0), .c (.int .u8 0), .c (.int .u8 0), .c (.int .u8 0), .c (.int .u8 0), .c (.int .u8 0), .c (.int .u8 0), .c (.int .u8 0), .c (.int .u8 0), .c (.int .u8 0), .c (.int .u8 0), .c (.int .u8 0), .c (.int .u8 0), .c (.int .u8 0), .c (.int .u8 0), .c (.int .u8 0), .c (.int .u8 0), .c (.int .u8 0), .c (.int .u8 0), .c (.int .u8 0), .c (.int .u8 0), .c (.int .u8 0), .c (.int .u8 0), .c (.int .u8 0), .c (.int .u8 0), .c (.int .u8 0), .c (.int .u8 0), .c (.int .u8 0), .c (.int .u8 0), .c (.int .u8 0), .c (.int .u8 0)]) := by kernel_rfl
theorem ty_u287 : (Tryz.prog.underlying 287).isSome = true := by kernel_rfl
theorem ty_z287 : tsz Tryz.prog 287 = some 256 := by kernel_rfl
theorem ty_a287 : isAggT Tryz.prog 287 = some true := by kernel_rfl
theorem ty_i287 : intT Tryz.prog 287 = none := by kernel_rfl
theorem ty_s287 : isStr Tryz.prog 287 = false := by kernel_rfl
theorem ty_b287 : isBoolT Tryz.prog 287 = false := by kernel_rfl
theorem ty_e287 : elemT Tryz.prog 287 = none := by kernel_rfl
theorem ty_r287 : arrayT Tryz.prog 287 = some (256, 5) := by kernel_rfl
theorem ty_t287 : tapp Tryz.prog 287 = some (256, 256) := by kernel_rfl
theorem ty_u289 : (Tryz.prog.underlying 289).isSome = true := by kernel_rfl
theorem ty_z289 : tsz Tryz.prog 289 = some 2 := by kernel_rfl
theorem ty_a289 : isAggT Tryz.prog 289 = some true := by kernel_rfl
theorem ty_i289 : intT Tryz.prog 289 = none := by kernel_rfl
theorem ty_s289 : isStr Tryz.prog 289 = false := by kernel_rfl
theorem ty_b289 : isBoolT Tryz.prog 289 = false := by kernel_rfl
theorem ty_e289 : elemT Tryz.prog 289 = none := by kernel_rfl
theorem ty_f289_0 : fieldT Tryz.prog 289 0 = some (5, 0) := by kernel_rfl
theorem ty_f289_1 : fieldT Tryz.prog 289 1 = some (5, 1) := by kernel_rfl
theorem ty_pl289 : placesT Tryz.prog 289 = some [(0, 1), (1, 1)] := by kernel_rfl
theorem ty_eq289 : eqPl Tryz.prog 289 = some [(0, .n), (1, .n)] := by kernel_rfl
theorem ty_t289 : tapp Tryz.prog 289 = some (2, 2) := by kernel_rfl
theorem ty_c289 : tzc Tryz.prog 289 = some [.c (.int .u8 0), .c (.int .u8 0)] := by kernel_rfl
theorem ty_y289 : zelem Tryz.prog 289 = some (.agg [.c (.int .u8 0), .c (.int .u8 0)]) := by kernel_rfl
theorem ty_u290 : (Tryz.prog.underlying 290).isSome = true := by kernel_rfl
theorem ty_z290 : tsz Tryz.prog 290 = some 32 := by kernel_rfl
theorem ty_a290 : isAggT Tryz.prog 290 = some true := by kernel_rfl
theorem ty_i290 : intT Tryz.prog 290 = none := by kernel_rfl
theorem ty_s290 : isStr Tryz.prog 290 = false := by kernel_rfl
theorem ty_b290 : isBoolT Tryz.prog 290 = false := by kernel_rfl
theorem ty_e290 : elemT Tryz.prog 290 = none := by kernel_rfl
theorem ty_r290 : arrayT Tryz.prog 290 = some (16, 289) := by kernel_rfl
theorem ty_t290 : tapp Tryz.prog 290 = some (32, 32) := by kernel_rfl
theorem ty_c290 : tzc Tryz.prog 290 = some [.c (.int .u8 0), .c (.int .u8 0), .c (.int .u8 0), .c (.int .u8 0), .c (.int .u8 0), .c (.int .u8 0), .c (.int .u8 0), .c (.int .u8 0), .c (.int .u8 0), .c (.int .u8 0), .c (.int .u8 0), .c (.int .u8 0), .c (.int .u8 0), .c (.int .u8 0), .c (.int .u8 0), .c (.int .u8 0), .c (.int .u8 0), .c (.int .u8 0), .c (.int .u8 0), .c (.int .u8 0), .c (.int .u8 0), .c (.int .u8 0), .c (.int .u8 0), .c (.int .u8 0), .c (.int .u8 0), .c (.int .u8 0), .c (.int .u8 0), .c (.int .u8 0), .c (.int .u8 0), .c (.int .u8 0), .c (.int .u8 0), .c (.int .u8 0)] := by kernel_rfl
theorem ty_y290 : zelem Tryz.prog 290 = some (.agg [.c (.int .u8 0), .c (.int .u8 0), .c (.int .u8 0), .c (.int .u8 0), .c (.int .u8 0), .c (.int .u8 0), .c (.int .u8 0), .c (.int .u8 0), .c (.int .u8 0), .c (.int .u8 0), .c (.int .u8 0), .c (.int .u8 0), .c (.int .u8 0), .c (.int .u8 0), .c (.int .u8 0), .c (.int .u8 0), .c (.int .u8 0), .c (.int .u8 0), .c (.int .u8 0), .c (.int .u8 0), .c (.int .u8 0), .c (.int .u8 0), .c (.int .u8 0), .c (.int .u8 0), .c (.int .u8 0), .c (.int .u8 0), .c (.int .u8 0), .c (.int .u8 0), .c (.int .u8 0), .c (.int .u8 0), .c (.int .u8 0), .c (.int .u8 0)]) := by kernel_rfl
theorem ty_u296 : (Tryz.prog.underlying 296).isSome = true := by kernel_rfl
theorem ty_z296 : tsz Tryz.prog 296 = some 0 := by kernel_rfl
theorem ty_a296 : isAggT Tryz.prog 296 = some true := by kernel_rfl
theorem ty_i296 : intT Tryz.prog 296 = none := by kernel_rfl
theorem ty_s296 : isStr Tryz.prog 296 = false := by kernel_rfl
theorem ty_b296 : isBoolT Tryz.prog 296 = false := by kernel_rfl
theorem ty_e296 : elemT Tryz.prog 296 = none := by kernel_rfl
theorem ty_r296 : arrayT Tryz.prog 296 = some (0, 16) := by kernel_rfl
theorem ty_u298 : (Tryz.prog.underlying 298).isSome = true := by kernel_rfl
theorem ty_z298 : tsz Tryz.prog 298 = some 0 := by kernel_rfl
theorem ty_a298 : isAggT Tryz.prog 298 = some true := by kernel_rfl
theorem ty_i298 : intT Tryz.prog 298 = none := by kernel_rfl
theorem ty_s298 : isStr Tryz.prog 298 = false := by kernel_rfl
theorem ty_b298 : isBoolT Tryz.prog 298 = false := by kernel_rfl
theorem ty_e298 : elemT Tryz.prog 298 = none := by kernel_rfl
theorem ty_f298_0 : fieldT Tryz.prog 298 0 = some (296, 0) := by kernel_rfl
theorem ty_pl298 : placesT Tryz.prog 298 = some [(0, 0)] := by kernel_rfl
theorem ty_u299 : (Tryz.prog.underlying 299).isSome = true := by kernel_rfl
theorem ty_z299 : tsz Tryz.prog 299 = some 1 := by kernel_rfl
theorem ty_a299 : isAggT Tryz.prog 299 = some false := by kernel_rfl
theorem ty_i299 : intT Tryz.prog 299 = some .u8 := by kernel_rfl
theorem ty_s299 : isStr Tryz.prog 299 = false := by kernel_rfl
theorem ty_b299 : isBoolT Tryz.prog 299 = false := by kernel_rfl
theorem ty_e299 : elemT Tryz.prog 299 = none := by kernel_rfl
theorem ty_t299 : tapp Tryz.prog 299 = some (1, 1) := by kernel_rfl
theorem ty_c299 : tzc Tryz.prog 299 = some [.c (.int .u8 0)] := by kernel_rfl
theorem ty_y299 : zelem Tryz.prog 299 = some (.c (.int .u8 0)) := by kernel_rfl
theorem ty_u300 : (Tryz.prog.underlying 300).isSome = true := by kernel_rfl
theorem ty_z300 : tsz Tryz.prog 300 = some 1 := by kernel_rfl
theorem ty_a300 : isAggT Tryz.prog 300 = some false := by kernel_rfl
theorem ty_i300 : intT Tryz.prog 300 = some .u8 := by kernel_rfl
theorem ty_s300 : isStr Tryz.prog 300 = false := by kernel_rfl
theorem ty_b300 : isBoolT Tryz.prog 300 = false := by kernel_rfl
theorem ty_e300 : elemT Tryz.prog 300 = none := by kernel_rfl
theorem ty_t300 : tapp Tryz.prog 300 = some (1, 1) := by kernel_rfl
theorem ty_c300 : tzc Tryz.prog 300 = some [.c (.int .u8 0)] := by kernel_rfl
theorem ty_y300 : zelem Tryz.prog 300 = some (.c (.int .u8 0)) := by kernel_rfl
theorem ty_u301 : (Tryz.prog.underlying 301).isSome = true := by kernel_rfl
theorem ty_u302 : (Tryz.prog.underlying 302).isSome = true := by kernel_rfl
theorem ty_z302 : tsz Tryz.prog 302 = some 1 := by kernel_rfl
theorem ty_a302 : isAggT Tryz.prog 302 = some false := by kernel_rfl
theorem ty_i302 : intT Tryz.prog 302 = some .i32 := by kernel_rfl
theorem ty_s302 : isStr Tryz.prog 302 = false := by kernel_rfl
theorem ty_b302 : isBoolT Tryz.prog 302 = false := by kernel_rfl
theorem ty_e302 : elemT Tryz.prog 302 = none := by kernel_rfl
theorem ty_t302 : tapp Tryz.prog 302 = some (1, 4) := by kernel_rfl
theorem ty_c302 : tzc Tryz.prog 302 = some [.c (.int .i32 0)] := by kernel_rfl
theorem ty_y302 : zelem Tryz.prog 302 = some (.c (.int .i32 0)) := by kernel_rfl
theorem ty_u303 : (Tryz.prog.underlying 303).isSome = true := by kernel_rfl
theorem ty_z303 : tsz Tryz.prog 303 = some 1 := by kernel_rfl
theorem ty_a303 : isAggT Tryz.prog 303 = some false := by kernel_rfl
theorem ty_i303 : intT Tryz.prog 303 = some .i32 := by kernel_rfl
theorem ty_s303 : isStr Tryz.prog 303 = false := by kernel_rfl
theorem ty_b303 : isBoolT Tryz.prog 303 = false := by kernel_rfl
theorem ty_e303 : elemT Tryz.prog 303 = none := by kernel_rfl
theorem ty_t303 : tapp Tryz.prog 303 = some (1, 4) := by kernel_rfl
theorem ty_c303 : tzc Tryz.prog 303 = some [.c (.int .i32 0)] := by kernel_rfl
theorem ty_y303 : zelem Tryz.prog 303 = some (.c (.int .i32 0)) := by kernel_rfl
theorem ty_u305 : (Tryz.prog.underlying 305).isSome = true := by kernel_rfl
theorem ty_z305 : tsz Tryz.prog 305 = some 11 := by kernel_rfl
theorem ty_a305 : isAggT Tryz.prog 305 = some true := by kernel_rfl
theorem ty_i305 : intT Tryz.prog 305 = none := by kernel_rfl
theorem ty_s305 : isStr Tryz.prog 305 = false := by kernel_rfl
theorem ty_b305 : isBoolT Tryz.prog 305 = false := by kernel_rfl
theorem ty_e305 : elemT Tryz.prog 305 = none := by kernel_rfl
theorem ty_f305_0 : fieldT Tryz.prog 305 0 = some (12, 0) := by kernel_rfl
theorem ty_f305_1 : fieldT Tryz.prog 305 1 = some (12, 1) := by kernel_rfl
theorem ty_f305_2 : fieldT Tryz.prog 305 2 = some (197, 2) := by kernel_rfl
theorem ty_f305_3 : fieldT Tryz.prog 305 3 = some (299, 3) := by kernel_rfl
theorem ty_f305_4 : fieldT Tryz.prog 305 4 = some (5, 4) := by kernel_rfl
theorem ty_f305_5 : fieldT Tryz.prog 305 5 = some (5, 5) := by kernel_rfl
theorem ty_f305_6 : fieldT Tryz.prog 305 6 = some (300, 6) := by kernel_rfl
theorem ty_f305_7 : fieldT Tryz.prog 305 7 = some (301, 7) := by kernel_rfl
theorem ty_f305_8 : fieldT Tryz.prog 305 8 = some (152, 8) := by kernel_rfl
theorem ty_f305_9 : fieldT Tryz.prog 305 9 = some (302, 9) := by kernel_rfl
theorem ty_f305_10 : fieldT Tryz.prog 305 10 = some (303, 10) := by kernel_rfl
theorem ty_pl305 : placesT Tryz.prog 305 = some [(0, 1), (1, 1), (2, 1), (3, 1), (4, 1), (5, 1), (6, 1), (7, 1), (8, 1), (9, 1), (10, 1)] := by kernel_rfl
theorem ty_t305 : tapp Tryz.prog 305 = some (11, 48) := by kernel_rfl
theorem ty_c305 : tzc Tryz.prog 305 = some [.c (.int .u64 0), .c (.int .u64 0), .c (.int .u32 0), .c (.int .u8 0), .c (.int .u8 0), .c (.int .u8 0), .c (.int .u8 0), .c (.nilFunc), .c (.pointer none), .c (.int .i32 0), .c (.int .i32 0)] := by kernel_rfl
theorem ty_y305 : zelem Tryz.prog 305 = some (.agg [.c (.int .u64 0), .c (.int .u64 0), .c (.int .u32 0), .c (.int .u8 0), .c (.int .u8 0), .c (.int .u8 0), .c (.int .u8 0), .c (.nilFunc), .c (.pointer none), .c (.int .i32 0), .c (.int .i32 0)]) := by kernel_rfl
def tyf := And.intro @ty_u2 (And.intro @ty_z2 (And.intro @ty_a2 (And.intro @ty_i2 (And.intro @ty_s2 (And.intro @ty_b2 (And.intro @ty_e2 (And.intro @ty_t2 (And.intro @ty_c2 (And.intro @ty_y2 (And.intro @ty_u3 (And.intro @ty_z3 (And.intro @ty_a3 (And.intro @ty_i3 (And.intro @ty_s3 (And.intro @ty_b3 (And.intro @ty_e3 (And.intro @ty_t3 (And.intro @ty_c3 (And.intro @ty_y3 (And.intro @ty_u4 (And.intro @ty_z4 (And.intro @ty_a4 (And.intro @ty_i4 (And.intro @ty_s4 (And.intro @ty_b4 (And.intro @ty_e4 (And.intro @ty_t4 (And.intro @ty_c4 (And.intro @ty_y4 (And.intro @ty_u5 (And.intro @ty_z5 (And.intro @ty_a5 (And.intro @ty_i5 (And.intro @ty_s5 (And.intro @ty_b5 (And.intro @ty_e5 (And.intro @ty_t5 (And.intro @ty_c5 (And.intro @ty_y5 (And.intro @ty_u6 (And.intro @ty_z6 (And.intro @ty_a6 (And.intro @ty_i6 (And.intro @ty_s6 (And.intro @ty_b6 (And.intro @ty_e6 (And.intro @ty_t6 (And.intro @ty_c6 (And.intro @ty_y6 (And.intro @ty_u7 (And.intro @ty_z7 (And.intro @ty_a7 (And.intro @ty_i7 (And.intro @ty_s7 (And.intro @ty_b7 (And.intro @ty_e7 (And.intro @ty_f7_0 (And.intro @ty_f7_1 (And.intro @ty_f7_2 (And.intro @ty_f7_3 (And.intro @ty_pl7 (And.intro @ty_eq7 (And.intro @ty_t7 (And.intro @ty_c7 (And.intro @ty_y7 (And.intro @ty_u9 (And.intro @ty_z9 (And.intro @ty_a9 (And.intro @ty_i9 (And.intro @ty_s9 (And.intro @ty_b9 (And.intro @ty_e9 (And.intro @ty_t9 (And.intro @ty_c9 (And.intro @ty_y9 (And.intro @ty_u12 (And.intro @ty_z12 (And.intro @ty_a12 (And.intro @ty_i12 (And.intro @ty_s12 (And.intro @ty_b12 (And.intro @ty_e12 (And.intro @ty_t12 (And.intro @ty_c12 (And.intro @ty_y12 (And.intro @ty_u13 (And.intro @ty_z13 (And.intro @ty_a13 (And.intro @ty_i13 (And.intro @ty_s13 (And.intro @ty_b13 (And.intro @ty_e13 (And.intro @ty_f13_0 (And.intro @ty_f13_1 (And.intro @ty_pl13 (And.intro @ty_t13 (And.intro @ty_c13 (And.intro @ty_y13 (And.intro @ty_u16 (And.intro @ty_z16 (And.intro @ty_a16 (And.intro @ty_i16 (And.intro @ty_s16 (And.intro @ty_b16 (And.intro @ty_e16 (And.intro @ty_p16 (And.intro @ty_q16 (And.intro @ty_t16 (And.intro @ty_c16 (And.intro @ty_y16 (And.intro @ty_u17 (And.intro @ty_z17 (And.intro @ty_a17 (And.intro @ty_i17 (And.intro @ty_s17 (And.intro @ty_b17 (And.intro @ty_e17 (And.intro @ty_p17 (And.intro @ty_q17 (And.intro @ty_t17 (And.intro @ty_c17 (And.intro @ty_y17 (And.intro @ty_u18 (And.intro @ty_z18 (And.intro @ty_a18 (And.intro @ty_i18 (And.intro @ty_s18 (And.intro @ty_b18 (And.intro @ty_e18 (And.intro @ty_f18_0 (And.intro @ty_pl18 (And.intro @ty_t18 (And.intro @ty_c18 (And.intro @ty_y18 (And.intro @ty_u21 (And.intro @ty_z21 (And.intro @ty_a21 (And.intro @ty_i21 (And.intro @ty_s21 (And.intro @ty_b21 (And.intro @ty_e21 (And.intro @ty_t21 (And.intro @ty_c21 (And.intro @ty_y21 (And.intro @ty_u22 (And.intro @ty_z22 (And.intro @ty_a22 (And.intro @ty_i22 (And.intro @ty_s22 (And.intro @ty_b22 (And.intro @ty_e22 (And.intro @ty_t22 (And.intro @ty_c22 (And.intro @ty_y22 (And.intro @ty_u23 (And.intro @ty_z23 (And.intro @ty_a23 (And.intro @ty_i23 (And.intro @ty_s23 (And.intro @ty_b23 (And.intro @ty_e23 (And.intro @ty_t23 (And.intro @ty_c23 (And.intro @ty_y23 (And.intro @ty_u24 (And.intro @ty_z24 (And.intro @ty_a24 (And.intro @ty_i24 (And.intro @ty_s24 (And.intro @ty_b24 (And.intro @ty_e24 (And.intro @ty_t24 (And.intro @ty_c24 (And.intro @ty_y24 (And.intro @ty_u26 (And.intro @ty_z26 (And.intro @ty_a26 (And.intro @ty_i26 (And.intro @ty_s26 (And.intro @ty_b26 (And.intro @ty_e26 (And.intro @ty_f26_0 (And.intro @ty_f26_1 (And.intro @ty_f26_2 (And.intro @ty_f26_3 (And.intro @ty_pl26 (And.intro @ty_eq26 (And.intro @ty_t26 (And.intro @ty_c26 (And.intro @ty_y26 (And.intro @ty_u27 (And.intro @ty_z27 (And.intro @ty_a27 (And.intro @ty_i27 (And.intro @ty_s27 (And.intro @ty_b27 (And.intro @ty_e27 (And.intro @ty_t27 (And.intro @ty_c27 (And.intro @ty_y27 (And.intro @ty_u28 (And.intro @ty_z28 (And.intro @ty_a28 (And.intro @ty_i28 (And.intro @ty_s28 (And.intro @ty_b28 (And.intro @ty_e28 (And.intro @ty_t28 (And.intro @ty_c28 (And.intro @ty_y28 (And.intro @ty_u30 (And.intro @ty_z30 (And.intro @ty_a30 (And.intro @ty_i30 (And.intro @ty_s30 (And.intro @ty_b30 (And.intro @ty_e30 (And.intro @ty_f30_0 (And.intro @ty_f30_1 (And.intro @ty_f30_2 (And.intro @ty_f30_3 (And.intro @ty_f30_4 (And.intro @ty_pl30 (And.intro @ty_eq30 (And.intro @ty_t30 (And.intro @ty_c30 (And.intro @ty_y30 (And.intro @ty_u32 (And.intro @ty_z32 (And.intro @ty_a32 (And.intro @ty_i32 (And.intro @ty_s32 (And.intro @ty_b32 (And.intro @ty_e32 (And.intro @ty_f32_0 (And.intro @ty_f32_1 (And.intro @ty_f32_2 (And.intro @ty_f32_3 (And.intro @ty_f32_4 (And.intro @ty_f32_5 (And.intro @ty_f32_6 (And.intro @ty_f32_7 (And.intro @ty_f32_8 (And.intro @ty_f32_9 (And.intro @ty_f32_10 (And.intro @ty_f32_11 (And.intro @ty_f32_12 (And.intro @ty_f32_13 (And.intro @ty_f32_14 (And.intro @ty_pl32 (And.intro @ty_t32 (And.intro @ty_c32 (And.intro @ty_y32 (And.intro @ty_u37 (And.intro @ty_z37 (And.intro @ty_a37 (And.intro @ty_i37 (And.intro @ty_s37 (And.intro @ty_b37 (And.intro @ty_e37 (And.intro @ty_t37 (And.intro @ty_c37 (And.intro @ty_y37 (And.intro @ty_u45 (And.intro @ty_z45 (And.intro @ty_a45 (And.intro @ty_i45 (And.intro @ty_s45 (And.intro @ty_b45 (And.intro @ty_e45 (And.intro @ty_t45 (And.intro @ty_c45 (And.intro @ty_y45 (And.intro @ty_u48 (And.intro @ty_z48 (And.intro @ty_a48 (And.intro @ty_i48 (And.intro @ty_s48 (And.intro @ty_b48 (And.intro @ty_e48 (And.intro @ty_t48 (And.intro @ty_c48 (And.intro @ty_y48 (And.intro @ty_u53 (And.intro @ty_z53 (And.intro @ty_a53 (And.intro @ty_i53 (And.intro @ty_s53 (And.intro @ty_b53 (And.intro @ty_e53 (And.intro @ty_t53 (And.intro @ty_c53 (And.intro @ty_y53 (And.intro @ty_u55 (And.intro @ty_z55 (And.intro @ty_a55 (And.intro @ty_i55 (And.intro @ty_s55 (And.intro @ty_b55 (And.intro @ty_e55 (And.intro @ty_f55_0 (And.intro @ty_f55_1 (And.intro @ty_f55_2 (And.intro @ty_f55_3 (And.intro @ty_f55_4 (And.intro @ty_f55_5 (And.intro @ty_pl55 (And.intro @ty_t55 (And.intro @ty_c55 (And.intro @ty_y55 (And.intro @ty_u56 (And.intro @ty_z56 (And.intro @ty_a56 (And.intro @ty_i56 (And.intro @ty_s56 (And.intro @ty_b56 (And.intro @ty_e56 (And.intro @ty_f56_0 (And.intro @ty_f56_1 (And.intro @ty_f56_2 (And.intro @ty_f56_3 (And.intro @ty_f56_4 (And.intro @ty_f56_5 (And.intro @ty_f56_6 (And.intro @ty_pl56 (And.intro @ty_t56 (And.intro @ty_c56 (And.intro @ty_y56 (And.intro @ty_u57 (And.intro @ty_z57 (And.intro @ty_a57 (And.intro @ty_i57 (And.intro @ty_s57 (And.intro @ty_b57 (And.intro @ty_e57 (And.intro @ty_f57_0 (And.intro @ty_f57_1 (And.intro @ty_f57_2 (And.intro @ty_f57_3 (And.intro @ty_f57_4 (And.intro @ty_f57_5 (And.intro @ty_f57_6 (And.intro @ty_pl57 (And.intro @ty_t57 (And.intro @ty_c57 (And.intro @ty_y57 (And.intro @ty_u59 (And.intro @ty_z59 (And.intro @ty_a59 (And.intro @ty_i59 (And.intro @ty_s59 (And.intro @ty_b59 (And.intro @ty_e59 (And.intro @ty_f59_0 (And.intro @ty_f59_1 (And.intro @ty_f59_2 (And.intro @ty_pl59 (And.intro @ty_eq59 (And.intro @ty_t59 (And.intro @ty_c59 (And.intro @ty_y59 (And.intro @ty_u64 (And.intro @ty_z64 (And.intro @ty_a64 (And.intro @ty_i64 (And.intro @ty_s64 (And.intro @ty_b64 (And.intro @ty_e64 (And.intro @ty_f64_0 (And.intro @ty_f64_1 (And.intro @ty_pl64 (And.intro @ty_eq64 (And.intro @ty_t64 (And.intro @ty_c64 (And.intro @ty_y64 (And.intro @ty_u69 (And.intro @ty_z69 (And.intro @ty_a69 (And.intro @ty_i69 (And.intro @ty_s69 (And.intro @ty_b69 (And.intro @ty_e69 (And.intro @ty_f69_0 (And.intro @ty_f69_1 (And.intro @ty_f69_2 (And.intro @ty_pl69 (And.intro @ty_t69 (And.intro @ty_c69 (And.intro @ty_y69 (And.intro @ty_u88 (And.intro @ty_z88 (And.intro @ty_a88 (And.intro @ty_i88 (And.intro @ty_s88 (And.intro @ty_b88 (And.intro @ty_e88 (And.intro @ty_f88_0 (And.intro @ty_f88_1 (And.intro @ty_f88_2 (And.intro @ty_f88_3 (And.intro @ty_f88_4 (And.intro @ty_pl88 (And.intro @ty_t88 (And.intro @ty_c88 (And.intro @ty_y88 (And.intro @ty_u106 (And.intro @ty_z106 (And.intro @ty_a106 (And.intro @ty_i106 (And.intro @ty_s106 (And.intro @ty_b106 (And.intro @ty_e106 (And.intro @ty_p106 (And.intro @ty_q106 (And.intro @ty_t106 (And.intro @ty_c106 (And.intro @ty_y106 (And.intro @ty_u108 (And.intro @ty_z108 (And.intro @ty_a108 (And.intro @ty_i108 (And.intro @ty_s108 (And.intro @ty_b108 (And.intro @ty_e108 (And.intro @ty_f108_0 (And.intro @ty_f108_1 (And.intro @ty_pl108 (And.intro @ty_t108 (And.intro @ty_c108 (And.intro @ty_y108 (And.intro @ty_u113 (And.intro @ty_z113 (And.intro @ty_a113 (And.intro @ty_i113 (And.intro @ty_s113 (And.intro @ty_b113 (And.intro @ty_e113 (And.intro @ty_p113 (And.intro @ty_q113 (And.intro @ty_t113 (And.intro @ty_c113 (And.intro @ty_y113 (And.intro @ty_u115 (And.intro @ty_z115 (And.intro @ty_a115 (And.intro @ty_i115 (And.intro @ty_s115 (And.intro @ty_b115 (And.intro @ty_e115 (And.intro @ty_f115_0 (And.intro @ty_f115_1 (And.intro @ty_pl115 (And.intro @ty_t115 (And.intro @ty_c115 (And.intro @ty_y115 (And.intro @ty_u117 (And.intro @ty_u132 (And.intro @ty_z132 (And.intro @ty_a132 (And.intro @ty_i132 (And.intro @ty_s132 (And.intro @ty_b132 (And.intro @ty_e132 (And.intro @ty_r132 (And.intro @ty_t132 (And.intro @ty_c132 (And.intro @ty_y132 (And.intro @ty_u151 (And.intro @ty_z151 (And.intro @ty_a151 (And.intro @ty_i151 (And.intro @ty_s151 (And.intro @ty_b151 (And.intro @ty_e151 (And.intro @ty_p151 (And.intro @ty_q151 (And.intro @ty_t151 (And.intro @ty_c151 (And.intro @ty_y151 (And.intro @ty_u152 (And.intro @ty_z152 (And.intro @ty_a152 (And.intro @ty_i152 (And.intro @ty_s152 (And.intro @ty_b152 (And.intro @ty_e152 (And.intro @ty_p152 (And.intro @ty_q152 (And.intro @ty_t152 (And.intro @ty_c152 (And.intro @ty_y152 (And.intro @ty_u184 (And.intro @ty_z184 (And.intro @ty_a184 (And.intro @ty_i184 (And.intro @ty_s184 (And.intro @ty_b184 (And.intro @ty_e184 (And.intro @ty_t184 (And.intro @ty_c184 (And.intro @ty_y184 (And.intro @ty_u197 (And.intro @ty_z197 (And.intro @ty_a197 (And.intro @ty_i197 (And.intro @ty_s197 (And.intro @ty_b197 (And.intro @ty_e197 (And.intro @ty_t197 (And.intro @ty_c197 (And.intro @ty_y197 (And.intro @ty_u219 (And.intro @ty_z219 (And.intro @ty_a219 (And.intro @ty_i219 (And.intro @ty_s219 (And.intro @ty_b219 (And.intro @ty_e219 (And.intro @ty_r219 (And.intro @ty_t219 (And.intro @ty_c219 (And.intro @ty_y219 (And.intro @ty_u256 (And.intro @ty_z256 (And.intro @ty_a256 (And.intro @ty_i256 (And.intro @ty_s256 (And.intro @ty_b256 (And.intro @ty_e256 (And.intro @ty_r256 (And.intro @ty_t256 (And.intro @ty_c256 (And.intro @ty_y256 (And.intro @ty_u257 (And.intro @ty_z257 (And.intro @ty_a257 (And.intro @ty_i257 (And.intro @ty_s257 (And.intro @ty_b257 (And.intro @ty_e257 (And.intro @ty_r257 (And.intro @ty_t257 (And.intro @ty_c257 (And.intro @ty_y257 (And.intro @ty_u282 (And.intro @ty_z282 (And.intro @ty_a282 (And.intro @ty_i282 (And.intro @ty_s282 (And.intro @ty_b282 (And.intro @ty_e282 (And.intro @ty_r282 (And.intro @ty_t282 (And.intro @ty_c282 (And.intro @ty_y282 (And.intro @ty_u283 (And.intro @ty_z283 (And.intro @ty_a283 (And.intro @ty_i283 (And.intro @ty_s283 (And.intro @ty_b283 (And.intro @ty_e283 (And.intro @ty_r283 (And.intro @ty_t283 (And.intro @ty_c283 (And.intro @ty_y283 (And.intro @ty_u287 (And.intro @ty_z287 (And.intro @ty_a287 (And.intro @ty_i287 (And.intro @ty_s287 (And.intro @ty_b287 (And.intro @ty_e287 (And.intro @ty_r287 (And.intro @ty_t287 (And.intro @ty_u289 (And.intro @ty_z289 (And.intro @ty_a289 (And.intro @ty_i289 (And.intro @ty_s289 (And.intro @ty_b289 (And.intro @ty_e289 (And.intro @ty_f289_0 (And.intro @ty_f289_1 (And.intro @ty_pl289 (And.intro @ty_eq289 (And.intro @ty_t289 (And.intro @ty_c289 (And.intro @ty_y289 (And.intro @ty_u290 (And.intro @ty_z290 (And.intro @ty_a290 (And.intro @ty_i290 (And.intro @ty_s290 (And.intro @ty_b290 (And.intro @ty_e290 (And.intro @ty_r290 (And.intro @ty_t290 (And.intro @ty_c290 (And.intro @ty_y290 (And.intro @ty_u296 (And.intro @ty_z296 (And.intro @ty_a296 (And.intro @ty_i296 (And.intro @ty_s296 (And.intro @ty_b296 (And.intro @ty_e296 (And.intro @ty_r296 (And.intro @ty_u298 (And.intro @ty_z298 (And.intro @ty_a298 (And.intro @ty_i298 (And.intro @ty_s298 (And.intro @ty_b298 (And.intro @ty_e298 (And.intro @ty_f298_0 (And.intro @ty_pl298 (And.intro @ty_u299 (And.intro @ty_z299 (And.intro @ty_a299 (And.intro @ty_i299 (And.intro @ty_s299 (And.intro @ty_b299 (And.intro @ty_e299 (And.intro @ty_t299 (And.intro @ty_c299 (And.intro @ty_y299 (And.intro @ty_u300 (And.intro @ty_z300 (And.intro @ty_a300 (And.intro @ty_i300 (And.intro @ty_s300 (And.intro @ty_b300 (And.intro @ty_e300 (And.intro @ty_t300 (And.intro @ty_c300 (And.intro @ty_y300 (And.intro @ty_u301 (And.intro @ty_u302 (And.intro @ty_z302 (And.intro @ty_a302 (And.intro @ty_i302 (And.intro @ty_s302 (And.intro @ty_b302 (And.intro @ty_e302 (And.intro @ty_t302 (And.intro @ty_c302 (And.intro @ty_y302 (And.intro @ty_u303 (And.intro @ty_z303 (And.intro @ty_a303 (And.intro @ty_i303 (And.intro @ty_s303 (And.intro @ty_b303 (And.intro @ty_e303 (And.intro @ty_t303 (And.intro @ty_c303 (And.intro @ty_y303 (And.intro @ty_u305 (And.intro @ty_z305 (And.intro @ty_a305 (And.intro @ty_i305 (And.intro @ty_s305 (And.intro @ty_b305 (And.intro @ty_e305 (And.intro @ty_f305_0 (And.intro @ty_f305_1 (And.intro @ty_f305_2 (And.intro @ty_f305_3 (And.intro @ty_f305_4 (And.intro @ty_f305_5 (And.intro @ty_f305_6 (And.intro @ty_f305_7 (And.intro @ty_f305_8 (And.intro @ty_f305_9 (And.intro @ty_f305_10 (And.intro @ty_pl305 (And.intro @ty_t305 (And.intro @ty_c305 @ty_y305)))))))))))))))))))))))))))))))))))))))))))))))))))))))))))))))))))))))))))))))))))))))))))))))))))))))))))))))))))))))))))))))))))))))))))))))))))))))))))))))))))))))))))))))))))))))))))))))))))))))))))))))))))))))))))))))))))))))))))))))))))))))))))))))))))))))))))))))))))))))))))))))))))))))))))))))))))))))))))))))))))))))))))))))))))))))))))))))))))))))))))))))))))))))))))))))))))))))))))))))))))))))))))))))))))))))))))))))))))))))))))))))))))))))))))))))))))))))))))))))))))))))))))))))))))))))))))))))))))))))))))))))))))))))))))))))))))))))))))))))))))))))))))))))))))))))))))))))))))))))))))))))))))))))))))))))))))))))))))))))))))))))))))))))))))))))))))))))))))))))
end Go.Proofs.YtjiolbcdfgclaaaGreatDoor
end
