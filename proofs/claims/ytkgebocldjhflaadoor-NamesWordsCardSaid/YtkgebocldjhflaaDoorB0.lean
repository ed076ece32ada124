/-
  Texts of this claim, merged: PgN0, PgNT. Each bears its own remark.
-/
import Derived.Test.YtkgebocldjhflaaDoorRows
import Derived.Test.YtkgebocldjhflaaDoorA4
import Derived.Lib.LaidTab
import Derived.Lib.ItoaMem
set_option linter.unusedVariables false
set_option linter.unusedSimpArgs false
set_option linter.unusedSectionVars false
section
/-
  Names: what the seat's program holds in its own tables (internal/strconv's powers of ten; some number in internal/bytealg.MaxLen), and that it outlives whatever a call makes.
-/
namespace Go.Proofs.YtkgebocldjhflaaDoor
open Go Go.Pg

/-- The table's name, as the given row has it. -/
def tabN : String := Rows.namesKeysRow.named.headD ""
theorem tabIs_keep {P : Program} {w w' : World} {name : String} {k : IntKind} {zs : List Int} (h : Lib.TabIs P w name k zs) (K : Kp (fun _ => False) w.heap.size w w') : Lib.TabIs P w' name k zs := by
  unfold Lib.TabIs World.var? at *
  cases hg : P.globalNamed name with
  | none => simp [hg] at h
  | some g =>
    simp only [hg, Option.bind_some] at h ⊢
    have hlt : g < w.heap.size := by
      rcases Nat.lt_or_ge g w.heap.size with h' | h'
      · exact h'
      · rw [Array.getElem?_eq_none h'] at h; simp at h
    rw [K.block g hlt (fun h => h)]
    exact h
theorem cell_keep {w w' : World} {a : Addr} {v : Value} (h : w.cell? a = some v) (K : Kp (fun _ => False) w.heap.size w w') : w'.cell? a = some v := by
  have hlt : a.block < w.heap.size := by
    rcases Nat.lt_or_ge a.block w.heap.size with h' | h'
    · exact h'
    · simp [World.cell?, Array.getElem?_eq_none h'] at h
  unfold World.cell? at *
  rw [K.block a.block hlt (fun h => h)]
  exact h
instance : Tb Tryd.prog where
  T w := Lib.TabIs Tryd.prog w tabN .u64 Lib.pow10Tab ∧ ∃ m, w.cell? ⟨0, 0, none⟩ = some (.int .i64 m)
  keep _ _ h K := ⟨tabIs_keep h.1 K, h.2.imp fun _ h => cell_keep h K⟩
end Go.Proofs.YtkgebocldjhflaaDoor
end

section
/-
  The seat's types: what the walks ask of them (written by a program of mine off the dump's table of types).
-/
namespace Go.Proofs.YtkgebocldjhflaaDoor
open Go Go.Pg
set_option linter.defProp false
set_option maxRecDepth 10000

theorem ty_u2 : (Tryd.prog.underlying 2).isSome = true := by kernel_rfl
theorem ty_z2 : tsz Tryd.prog 2 = some 1 := by kernel_rfl
theorem ty_a2 : isAggT Tryd.prog 2 = some false := by kernel_rfl
theorem ty_i2 : intT Tryd.prog 2 = some .i64 := by kernel_rfl
theorem ty_s2 : isStr Tryd.prog 2 = false := by kernel_rfl
theorem ty_b2 : isBoolT Tryd.prog 2 = false := by kernel_rfl
theorem ty_e2 : elemT Tryd.prog 2 = none := by kernel_rfl
theorem ty_t2 : tapp Tryd.prog 2 = some (1, 8) := by kernel_rfl
theorem ty_c2 : tzc Tryd.prog 2 = some [.c (.int .i64 0)] := by kernel_rfl
theorem ty_y2 : zelem Tryd.prog 2 = some (.c (.int .i64 0)) := by kernel_rfl
theorem ty_u3 : (Tryd.prog.underlying 3).isSome = true := by kernel_rfl
theorem ty_z3 : tsz Tryd.prog 3 = some 1 := by kernel_rfl
theorem ty_a3 : isAggT Tryd.prog 3 = some false := by kernel_rfl
theorem ty_i3 : intT Tryd.prog 3 = some .i64 := by kernel_rfl
theorem ty_s3 : isStr Tryd.prog 3 = false := by kernel_rfl
theorem ty_b3 : isBoolT Tryd.prog 3 = false := by kernel_rfl
theorem ty_e3 : elemT Tryd.prog 3 = none := by kernel_rfl
theorem ty_t3 : tapp Tryd.prog 3 = some (1, 8) := by kernel_rfl
theorem ty_c3 : tzc Tryd.prog 3 = some [.c (.int .i64 0)] := by kernel_rfl
theorem ty_y3 : zelem Tryd.prog 3 = some (.c (.int .i64 0)) := by kernel_rfl
theorem ty_u4 : (Tryd.prog.underlying 4).isSome = true := by kernel_rfl
theorem ty_z4 : tsz Tryd.prog 4 = some 1 := by kernel_rfl
theorem ty_a4 : isAggT Tryd.prog 4 = some false := by kernel_rfl
theorem ty_i4 : intT Tryd.prog 4 = none := by kernel_rfl
theorem ty_s4 : isStr Tryd.prog 4 = false := by kernel_rfl
theorem ty_b4 : isBoolT Tryd.prog 4 = true := by kernel_rfl
theorem ty_e4 : elemT Tryd.prog 4 = none := by kernel_rfl
theorem ty_t4 : tapp Tryd.prog 4 = some (1, 1) := by kernel_rfl
theorem ty_c4 : tzc Tryd.prog 4 = some [.c (.bool false)] := by kernel_rfl
theorem ty_y4 : zelem Tryd.prog 4 = some (.c (.bool false)) := by kernel_rfl
theorem ty_u5 : (Tryd.prog.underlying 5).isSome = true := by kernel_rfl
theorem ty_z5 : tsz Tryd.prog 5 = some 1 := by kernel_rfl
theorem ty_a5 : isAggT Tryd.prog 5 = some false := by kernel_rfl
theorem ty_i5 : intT Tryd.prog 5 = some .u8 := by kernel_rfl
theorem ty_s5 : isStr Tryd.prog 5 = false := by kernel_rfl
theorem ty_b5 : isBoolT Tryd.prog 5 = false := by kernel_rfl
theorem ty_e5 : elemT Tryd.prog 5 = none := by kernel_rfl
theorem ty_t5 : tapp Tryd.prog 5 = some (1, 1) := by kernel_rfl
theorem ty_c5 : tzc Tryd.prog 5 = some [.c (.int .u8 0)] := by kernel_rfl
theorem ty_y5 : zelem Tryd.prog 5 = some (.c (.int .u8 0)) := by kernel_rfl
theorem ty_u6 : (Tryd.prog.underlying 6).isSome = true := by kernel_rfl
theorem ty_z6 : tsz Tryd.prog 6 = some 1 := by kernel_rfl
theorem ty_a6 : isAggT Tryd.prog 6 = some false := by kernel_rfl
theorem ty_i6 : intT Tryd.prog 6 = some .u8 := by kernel_rfl
theorem ty_s6 : isStr Tryd.prog 6 = false := by kernel_rfl
theorem ty_b6 : isBoolT Tryd.prog 6 = false := by kernel_rfl
theorem ty_e6 : elemT Tryd.prog 6 = none := by kernel_rfl
theorem ty_t6 : tapp Tryd.prog 6 = some (1, 1) := by kernel_rfl
theorem ty_c6 : tzc Tryd.prog 6 = some [.c (.int .u8 0)] := by kernel_rfl
theorem ty_y6 : zelem Tryd.prog 6 = some (.c (.int .u8 0)) := by kernel_rfl
theorem ty_u7 : (Tryd.prog.underlying 7).isSome = true := by kernel_rfl
theorem ty_z7 : tsz Tryd.prog 7 = some 4 := by kernel_rfl
theorem ty_a7 : isAggT Tryd.prog 7 = some true := by kernel_rfl
theorem ty_i7 : intT Tryd.prog 7 = none := by kernel_rfl
theorem ty_s7 : isStr Tryd.prog 7 = false := by kernel_rfl
theorem ty_b7 : isBoolT Tryd.prog 7 = false := by kernel_rfl
theorem ty_e7 : elemT Tryd.prog 7 = none := by kernel_rfl
theorem ty_f7_0 : fieldT Tryd.prog 7 0 = some (2, 0) := by kernel_rfl
theorem ty_f7_1 : fieldT Tryd.prog 7 1 = some (3, 1) := by kernel_rfl
theorem ty_f7_2 : fieldT Tryd.prog 7 2 = some (4, 2) := by kernel_rfl
theorem ty_f7_3 : fieldT Tryd.prog 7 3 = some (6, 3) := by kernel_rfl
theorem ty_pl7 : placesT Tryd.prog 7 = some [(0, 1), (1, 1), (2, 1), (3, 1)] := by kernel_rfl
theorem ty_t7 : tapp Tryd.prog 7 = some (4, 24) := by kernel_rfl
theorem ty_c7 : tzc Tryd.prog 7 = some [.c (.int .i64 0), .c (.int .i64 0), .c (.bool false), .c (.int .u8 0)] := by kernel_rfl
theorem ty_y7 : zelem Tryd.prog 7 = some (.agg [.c (.int .i64 0), .c (.int .i64 0), .c (.bool false), .c (.int .u8 0)]) := by kernel_rfl
theorem ty_u9 : (Tryd.prog.underlying 9).isSome = true := by kernel_rfl
theorem ty_z9 : tsz Tryd.prog 9 = some 1 := by kernel_rfl
theorem ty_a9 : isAggT Tryd.prog 9 = some false := by kernel_rfl
theorem ty_i9 : intT Tryd.prog 9 = none := by kernel_rfl
theorem ty_s9 : isStr Tryd.prog 9 = true := by kernel_rfl
theorem ty_b9 : isBoolT Tryd.prog 9 = false := by kernel_rfl
theorem ty_e9 : elemT Tryd.prog 9 = none := by kernel_rfl
theorem ty_t9 : tapp Tryd.prog 9 = some (1, 16) := by kernel_rfl
theorem ty_c9 : tzc Tryd.prog 9 = some [.c (.string ⟨#[]⟩)] := by kernel_rfl
theorem ty_y9 : zelem Tryd.prog 9 = some (.c (.string ⟨#[]⟩)) := by kernel_rfl
theorem ty_u12 : (Tryd.prog.underlying 12).isSome = true := by kernel_rfl
theorem ty_z12 : tsz Tryd.prog 12 = some 1 := by kernel_rfl
theorem ty_a12 : isAggT Tryd.prog 12 = some false := by kernel_rfl
theorem ty_i12 : intT Tryd.prog 12 = some .u64 := by kernel_rfl
theorem ty_s12 : isStr Tryd.prog 12 = false := by kernel_rfl
theorem ty_b12 : isBoolT Tryd.prog 12 = false := by kernel_rfl
theorem ty_e12 : elemT Tryd.prog 12 = none := by kernel_rfl
theorem ty_t12 : tapp Tryd.prog 12 = some (1, 8) := by kernel_rfl
theorem ty_c12 : tzc Tryd.prog 12 = some [.c (.int .u64 0)] := by kernel_rfl
theorem ty_y12 : zelem Tryd.prog 12 = some (.c (.int .u64 0)) := by kernel_rfl
theorem ty_u13 : (Tryd.prog.underlying 13).isSome = true := by kernel_rfl
theorem ty_z13 : tsz Tryd.prog 13 = some 2 := by kernel_rfl
theorem ty_a13 : isAggT Tryd.prog 13 = some true := by kernel_rfl
theorem ty_i13 : intT Tryd.prog 13 = none := by kernel_rfl
theorem ty_s13 : isStr Tryd.prog 13 = false := by kernel_rfl
theorem ty_b13 : isBoolT Tryd.prog 13 = false := by kernel_rfl
theorem ty_e13 : elemT Tryd.prog 13 = none := by kernel_rfl
theorem ty_f13_0 : fieldT Tryd.prog 13 0 = some (9, 0) := by kernel_rfl
theorem ty_f13_1 : fieldT Tryd.prog 13 1 = some (12, 1) := by kernel_rfl
theorem ty_pl13 : placesT Tryd.prog 13 = some [(0, 1), (1, 1)] := by kernel_rfl
theorem ty_t13 : tapp Tryd.prog 13 = some (2, 24) := by kernel_rfl
theorem ty_c13 : tzc Tryd.prog 13 = some [.c (.string ⟨#[]⟩), .c (.int .u64 0)] := by kernel_rfl
theorem ty_y13 : zelem Tryd.prog 13 = some (.agg [.c (.string ⟨#[]⟩), .c (.int .u64 0)]) := by kernel_rfl
theorem ty_u16 : (Tryd.prog.underlying 16).isSome = true := by kernel_rfl
theorem ty_z16 : tsz Tryd.prog 16 = some 1 := by kernel_rfl
theorem ty_a16 : isAggT Tryd.prog 16 = some false := by kernel_rfl
theorem ty_i16 : intT Tryd.prog 16 = none := by kernel_rfl
theorem ty_s16 : isStr Tryd.prog 16 = false := by kernel_rfl
theorem ty_b16 : isBoolT Tryd.prog 16 = false := by kernel_rfl
theorem ty_e16 : elemT Tryd.prog 16 = none := by kernel_rfl
theorem ty_p16 : isPtr Tryd.prog 16 = true := by kernel_rfl
theorem ty_q16 : ptrTo Tryd.prog 16 = some 98 := by kernel_rfl
theorem ty_t16 : tapp Tryd.prog 16 = some (1, 8) := by kernel_rfl
theorem ty_c16 : tzc Tryd.prog 16 = some [.c (.pointer none)] := by kernel_rfl
theorem ty_y16 : zelem Tryd.prog 16 = some (.c (.pointer none)) := by kernel_rfl
theorem ty_u17 : (Tryd.prog.underlying 17).isSome = true := by kernel_rfl
theorem ty_z17 : tsz Tryd.prog 17 = some 1 := by kernel_rfl
theorem ty_a17 : isAggT Tryd.prog 17 = some false := by kernel_rfl
theorem ty_i17 : intT Tryd.prog 17 = none := by kernel_rfl
theorem ty_s17 : isStr Tryd.prog 17 = false := by kernel_rfl
theorem ty_b17 : isBoolT Tryd.prog 17 = false := by kernel_rfl
theorem ty_e17 : elemT Tryd.prog 17 = none := by kernel_rfl
theorem ty_p17 : isPtr Tryd.prog 17 = true := by kernel_rfl
theorem ty_q17 : ptrTo Tryd.prog 17 = some 106 := by kernel_rfl
theorem ty_t17 : tapp Tryd.prog 17 = some (1, 8) := by kernel_rfl
theorem ty_c17 : tzc Tryd.prog 17 = some [.c (.pointer none)] := by kernel_rfl
theorem ty_y17 : zelem Tryd.prog 17 = some (.c (.pointer none)) := by kernel_rfl
theorem ty_u18 : (Tryd.prog.underlying 18).isSome = true := by kernel_rfl
theorem ty_z18 : tsz Tryd.prog 18 = some 1 := by kernel_rfl
theorem ty_a18 : isAggT Tryd.prog 18 = some true := by kernel_rfl
theorem ty_i18 : intT Tryd.prog 18 = none := by kernel_rfl
theorem ty_s18 : isStr Tryd.prog 18 = false := by kernel_rfl
theorem ty_b18 : isBoolT Tryd.prog 18 = false := by kernel_rfl
theorem ty_e18 : elemT Tryd.prog 18 = none := by kernel_rfl
theorem ty_f18_0 : fieldT Tryd.prog 18 0 = some (17, 0) := by kernel_rfl
theorem ty_pl18 : placesT Tryd.prog 18 = some [(0, 1)] := by kernel_rfl
theorem ty_t18 : tapp Tryd.prog 18 = some (1, 8) := by kernel_rfl
theorem ty_c18 : tzc Tryd.prog 18 = some [.c (.pointer none)] := by kernel_rfl
theorem ty_y18 : zelem Tryd.prog 18 = some (.agg [.c (.pointer none)]) := by kernel_rfl
theorem ty_u21 : (Tryd.prog.underlying 21).isSome = true := by kernel_rfl
theorem ty_z21 : tsz Tryd.prog 21 = some 1 := by kernel_rfl
theorem ty_a21 : isAggT Tryd.prog 21 = some false := by kernel_rfl
theorem ty_i21 : intT Tryd.prog 21 = some .i32 := by kernel_rfl
theorem ty_s21 : isStr Tryd.prog 21 = false := by kernel_rfl
theorem ty_b21 : isBoolT Tryd.prog 21 = false := by kernel_rfl
theorem ty_e21 : elemT Tryd.prog 21 = none := by kernel_rfl
theorem ty_t21 : tapp Tryd.prog 21 = some (1, 4) := by kernel_rfl
theorem ty_c21 : tzc Tryd.prog 21 = some [.c (.int .i32 0)] := by kernel_rfl
theorem ty_y21 : zelem Tryd.prog 21 = some (.c (.int .i32 0)) := by kernel_rfl
theorem ty_u24 : (Tryd.prog.underlying 24).isSome = true := by kernel_rfl
theorem ty_z24 : tsz Tryd.prog 24 = some 1 := by kernel_rfl
theorem ty_a24 : isAggT Tryd.prog 24 = some false := by kernel_rfl
theorem ty_i24 : intT Tryd.prog 24 = some .i64 := by kernel_rfl
theorem ty_s24 : isStr Tryd.prog 24 = false := by kernel_rfl
theorem ty_b24 : isBoolT Tryd.prog 24 = false := by kernel_rfl
theorem ty_e24 : elemT Tryd.prog 24 = none := by kernel_rfl
theorem ty_t24 : tapp Tryd.prog 24 = some (1, 8) := by kernel_rfl
theorem ty_c24 : tzc Tryd.prog 24 = some [.c (.int .i64 0)] := by kernel_rfl
theorem ty_y24 : zelem Tryd.prog 24 = some (.c (.int .i64 0)) := by kernel_rfl
theorem ty_u30 : (Tryd.prog.underlying 30).isSome = true := by kernel_rfl
theorem ty_z30 : tsz Tryd.prog 30 = some 2 := by kernel_rfl
theorem ty_a30 : isAggT Tryd.prog 30 = some true := by kernel_rfl
theorem ty_i30 : intT Tryd.prog 30 = none := by kernel_rfl
theorem ty_s30 : isStr Tryd.prog 30 = false := by kernel_rfl
theorem ty_b30 : isBoolT Tryd.prog 30 = false := by kernel_rfl
theorem ty_e30 : elemT Tryd.prog 30 = none := by kernel_rfl
theorem ty_f30_0 : fieldT Tryd.prog 30 0 = some (9, 0) := by kernel_rfl
theorem ty_f30_1 : fieldT Tryd.prog 30 1 = some (3, 1) := by kernel_rfl
theorem ty_pl30 : placesT Tryd.prog 30 = some [(0, 1), (1, 1)] := by kernel_rfl
theorem ty_t30 : tapp Tryd.prog 30 = some (2, 24) := by kernel_rfl
theorem ty_c30 : tzc Tryd.prog 30 = some [.c (.string ⟨#[]⟩), .c (.int .i64 0)] := by kernel_rfl
theorem ty_y30 : zelem Tryd.prog 30 = some (.agg [.c (.string ⟨#[]⟩), .c (.int .i64 0)]) := by kernel_rfl
theorem ty_u31 : (Tryd.prog.underlying 31).isSome = true := by kernel_rfl
theorem ty_z31 : tsz Tryd.prog 31 = some 2 := by kernel_rfl
theorem ty_a31 : isAggT Tryd.prog 31 = some true := by kernel_rfl
theorem ty_i31 : intT Tryd.prog 31 = none := by kernel_rfl
theorem ty_s31 : isStr Tryd.prog 31 = false := by kernel_rfl
theorem ty_b31 : isBoolT Tryd.prog 31 = false := by kernel_rfl
theorem ty_e31 : elemT Tryd.prog 31 = none := by kernel_rfl
theorem ty_f31_0 : fieldT Tryd.prog 31 0 = some (9, 0) := by kernel_rfl
theorem ty_f31_1 : fieldT Tryd.prog 31 1 = some (3, 1) := by kernel_rfl
theorem ty_pl31 : placesT Tryd.prog 31 = some [(0, 1), (1, 1)] := by kernel_rfl
theorem ty_t31 : tapp Tryd.prog 31 = some (2, 24) := by kernel_rfl
theorem ty_c31 : tzc Tryd.prog 31 = some [.c (.string ⟨#[]⟩), .c (.int .i64 0)] := by kernel_rfl
theorem ty_y31 : zelem Tryd.prog 31 = some (.agg [.c (.string ⟨#[]⟩), .c (.int .i64 0)]) := by kernel_rfl
theorem ty_u35 : (Tryd.prog.underlying 35).isSome = true := by kernel_rfl
theorem ty_z35 : tsz Tryd.prog 35 = some 1 := by kernel_rfl
theorem ty_a35 : isAggT Tryd.prog 35 = some false := by kernel_rfl
theorem ty_i35 : intT Tryd.prog 35 = none := by kernel_rfl
theorem ty_s35 : isStr Tryd.prog 35 = false := by kernel_rfl
theorem ty_b35 : isBoolT Tryd.prog 35 = false := by kernel_rfl
theorem ty_e35 : elemT Tryd.prog 35 = some 9 := by kernel_rfl
theorem ty_t35 : tapp Tryd.prog 35 = some (1, 24) := by kernel_rfl
theorem ty_c35 : tzc Tryd.prog 35 = some [.c (.slice none 0 0)] := by kernel_rfl
theorem ty_y35 : zelem Tryd.prog 35 = some (.c (.slice none 0 0)) := by kernel_rfl
theorem ty_u36 : (Tryd.prog.underlying 36).isSome = true := by kernel_rfl
theorem ty_z36 : tsz Tryd.prog 36 = some 1 := by kernel_rfl
theorem ty_a36 : isAggT Tryd.prog 36 = some false := by kernel_rfl
theorem ty_i36 : intT Tryd.prog 36 = some .u64 := by kernel_rfl
theorem ty_s36 : isStr Tryd.prog 36 = false := by kernel_rfl
theorem ty_b36 : isBoolT Tryd.prog 36 = false := by kernel_rfl
theorem ty_e36 : elemT Tryd.prog 36 = none := by kernel_rfl
theorem ty_t36 : tapp Tryd.prog 36 = some (1, 8) := by kernel_rfl
theorem ty_c36 : tzc Tryd.prog 36 = some [.c (.int .u64 0)] := by kernel_rfl
theorem ty_y36 : zelem Tryd.prog 36 = some (.c (.int .u64 0)) := by kernel_rfl
theorem ty_u42 : (Tryd.prog.underlying 42).isSome = true := by kernel_rfl
theorem ty_z42 : tsz Tryd.prog 42 = some 1 := by kernel_rfl
theorem ty_a42 : isAggT Tryd.prog 42 = some false := by kernel_rfl
theorem ty_i42 : intT Tryd.prog 42 = none := by kernel_rfl
theorem ty_s42 : isStr Tryd.prog 42 = false := by kernel_rfl
theorem ty_b42 : isBoolT Tryd.prog 42 = false := by kernel_rfl
theorem ty_e42 : elemT Tryd.prog 42 = some 5 := by kernel_rfl
theorem ty_t42 : tapp Tryd.prog 42 = some (1, 24) := by kernel_rfl
theorem ty_c42 : tzc Tryd.prog 42 = some [.c (.slice none 0 0)] := by kernel_rfl
theorem ty_y42 : zelem Tryd.prog 42 = some (.c (.slice none 0 0)) := by kernel_rfl
theorem ty_u43 : (Tryd.prog.underlying 43).isSome = true := by kernel_rfl
theorem ty_z43 : tsz Tryd.prog 43 = some 1 := by kernel_rfl
theorem ty_a43 : isAggT Tryd.prog 43 = some false := by kernel_rfl
theorem ty_i43 : intT Tryd.prog 43 = none := by kernel_rfl
theorem ty_s43 : isStr Tryd.prog 43 = false := by kernel_rfl
theorem ty_b43 : isBoolT Tryd.prog 43 = false := by kernel_rfl
theorem ty_e43 : elemT Tryd.prog 43 = none := by kernel_rfl
theorem ty_p43 : isPtr Tryd.prog 43 = true := by kernel_rfl
theorem ty_q43 : ptrTo Tryd.prog 43 = some 45 := by kernel_rfl
theorem ty_t43 : tapp Tryd.prog 43 = some (1, 8) := by kernel_rfl
theorem ty_c43 : tzc Tryd.prog 43 = some [.c (.pointer none)] := by kernel_rfl
theorem ty_y43 : zelem Tryd.prog 43 = some (.c (.pointer none)) := by kernel_rfl
theorem ty_u44 : (Tryd.prog.underlying 44).isSome = true := by kernel_rfl
theorem ty_z44 : tsz Tryd.prog 44 = some 2 := by kernel_rfl
theorem ty_a44 : isAggT Tryd.prog 44 = some true := by kernel_rfl
theorem ty_i44 : intT Tryd.prog 44 = none := by kernel_rfl
theorem ty_s44 : isStr Tryd.prog 44 = false := by kernel_rfl
theorem ty_b44 : isBoolT Tryd.prog 44 = false := by kernel_rfl
theorem ty_e44 : elemT Tryd.prog 44 = none := by kernel_rfl
theorem ty_f44_0 : fieldT Tryd.prog 44 0 = some (43, 0) := by kernel_rfl
theorem ty_f44_1 : fieldT Tryd.prog 44 1 = some (42, 1) := by kernel_rfl
theorem ty_pl44 : placesT Tryd.prog 44 = some [(0, 1), (1, 1)] := by kernel_rfl
theorem ty_t44 : tapp Tryd.prog 44 = some (2, 32) := by kernel_rfl
theorem ty_c44 : tzc Tryd.prog 44 = some [.c (.pointer none), .c (.slice none 0 0)] := by kernel_rfl
theorem ty_y44 : zelem Tryd.prog 44 = some (.agg [.c (.pointer none), .c (.slice none 0 0)]) := by kernel_rfl
theorem ty_u45 : (Tryd.prog.underlying 45).isSome = true := by kernel_rfl
theorem ty_z45 : tsz Tryd.prog 45 = some 2 := by kernel_rfl
theorem ty_a45 : isAggT Tryd.prog 45 = some true := by kernel_rfl
theorem ty_i45 : intT Tryd.prog 45 = none := by kernel_rfl
theorem ty_s45 : isStr Tryd.prog 45 = false := by kernel_rfl
theorem ty_b45 : isBoolT Tryd.prog 45 = false := by kernel_rfl
theorem ty_e45 : elemT Tryd.prog 45 = none := by kernel_rfl
theorem ty_f45_0 : fieldT Tryd.prog 45 0 = some (43, 0) := by kernel_rfl
theorem ty_f45_1 : fieldT Tryd.prog 45 1 = some (42, 1) := by kernel_rfl
theorem ty_pl45 : placesT Tryd.prog 45 = some [(0, 1), (1, 1)] := by kernel_rfl
theorem ty_t45 : tapp Tryd.prog 45 = some (2, 32) := by kernel_rfl
theorem ty_c45 : tzc Tryd.prog 45 = some [.c (.pointer none), .c (.slice none 0 0)] := by kernel_rfl
theorem ty_y45 : zelem Tryd.prog 45 = some (.agg [.c (.pointer none), .c (.slice none 0 0)]) := by kernel_rfl
theorem ty_u47 : (Tryd.prog.underlying 47).isSome = true := by kernel_rfl
theorem ty_u61 : (Tryd.prog.underlying 61).isSome = true := by kernel_rfl
theorem ty_z61 : tsz Tryd.prog 61 = some 1 := by kernel_rfl
theorem ty_a61 : isAggT Tryd.prog 61 = some false := by kernel_rfl
theorem ty_i61 : intT Tryd.prog 61 = none := by kernel_rfl
theorem ty_s61 : isStr Tryd.prog 61 = false := by kernel_rfl
theorem ty_b61 : isBoolT Tryd.prog 61 = false := by kernel_rfl
theorem ty_e61 : elemT Tryd.prog 61 = none := by kernel_rfl
theorem ty_p61 : isPtr Tryd.prog 61 = true := by kernel_rfl
theorem ty_q61 : ptrTo Tryd.prog 61 = some 5 := by kernel_rfl
theorem ty_t61 : tapp Tryd.prog 61 = some (1, 8) := by kernel_rfl
theorem ty_c61 : tzc Tryd.prog 61 = some [.c (.pointer none)] := by kernel_rfl
theorem ty_y61 : zelem Tryd.prog 61 = some (.c (.pointer none)) := by kernel_rfl
theorem ty_u64 : (Tryd.prog.underlying 64).isSome = true := by kernel_rfl
theorem ty_z64 : tsz Tryd.prog 64 = some 1 := by kernel_rfl
theorem ty_a64 : isAggT Tryd.prog 64 = some false := by kernel_rfl
theorem ty_i64 : intT Tryd.prog 64 = none := by kernel_rfl
theorem ty_s64 : isStr Tryd.prog 64 = false := by kernel_rfl
theorem ty_b64 : isBoolT Tryd.prog 64 = false := by kernel_rfl
theorem ty_e64 : elemT Tryd.prog 64 = none := by kernel_rfl
theorem ty_t64 : tapp Tryd.prog 64 = some (1, 8) := by kernel_rfl
theorem ty_c64 : tzc Tryd.prog 64 = some [.c (.pointer none)] := by kernel_rfl
theorem ty_y64 : zelem Tryd.prog 64 = some (.c (.pointer none)) := by kernel_rfl
theorem ty_u69 : (Tryd.prog.underlying 69).isSome = true := by kernel_rfl
theorem ty_z69 : tsz Tryd.prog 69 = some 24 := by kernel_rfl
theorem ty_a69 : isAggT Tryd.prog 69 = some true := by kernel_rfl
theorem ty_i69 : intT Tryd.prog 69 = none := by kernel_rfl
theorem ty_s69 : isStr Tryd.prog 69 = false := by kernel_rfl
theorem ty_b69 : isBoolT Tryd.prog 69 = false := by kernel_rfl
theorem ty_e69 : elemT Tryd.prog 69 = none := by kernel_rfl
theorem ty_r69 : arrayT Tryd.prog 69 = some (24, 5) := by kernel_rfl
theorem ty_t69 : tapp Tryd.prog 69 = some (24, 24) := by kernel_rfl
theorem ty_c69 : tzc Tryd.prog 69 = some [.c (.int .u8 0), .c (.int .u8 0), .c (.int .u8 0), .c (.int .u8 0), .c (.int .u8 0), .c (.int .u8 0), .c (.int .u8 0), .c (.int .u8 0), .c (.int .u8 0), .c (.int .u8 0), .c (.int .u8 0), .c (.int .u8 0), .c (.int .u8 0), .c (.int .u8 0), .c (.int .u8 0), .c (.int .u8 0), .c (.int .u8 0), .c (.int .u8 0), .c (.int .u8 0), .c (.int .u8 0), .c (.int .u8 0), .c (.int .u8 0), .c (.int .u8 0), .c (.int .u8 0)] := by kernel_rfl
theorem ty_y69 : zelem Tryd.prog 69 = some (.agg [.c (.int .u8 0), .c (.int .u8 0), .c (.int .u8 0), .c (.int .u8 0), .c (.int .u8 0), .c (.int .u8 0), .c (.int .u8 0), .c (.int .u8 0), .c (.int .u8 0), .c (.int .u8 0), .c (.int .u8 0), .c (.int .u8 0), .c (.int .u8 0), .c (.int .u8 0), .c (.int .u8 0), .c (.int .u8 0), .c (.int .u8 0), .c (.int .u8 0), .c (.int .u8 0), .c (.int .u8 0), .c (.int .u8 0), .c (.int .u8 0), .c (.int .u8 0), .c (.int .u8 0)]) := by kernel_rfl
theorem ty_u70 : (Tryd.prog.underlying 70).isSome = true := by kernel_rfl
theorem ty_z70 : tsz Tryd.prog 70 = some 1 := by kernel_rfl
theorem ty_a70 : isAggT Tryd.prog 70 = some false := by kernel_rfl
theorem ty_i70 : intT Tryd.prog 70 = some .u64 := by kernel_rfl
theorem ty_s70 : isStr Tryd.prog 70 = false := by kernel_rfl
theorem ty_b70 : isBoolT Tryd.prog 70 = false := by kernel_rfl
theorem ty_e70 : elemT Tryd.prog 70 = none := by kernel_rfl
theorem ty_t70 : tapp Tryd.prog 70 = some (1, 8) := by kernel_rfl
theorem ty_c70 : tzc Tryd.prog 70 = some [.c (.int .u64 0)] := by kernel_rfl
theorem ty_y70 : zelem Tryd.prog 70 = some (.c (.int .u64 0)) := by kernel_rfl
theorem ty_u80 : (Tryd.prog.underlying 80).isSome = true := by kernel_rfl
theorem ty_z80 : tsz Tryd.prog 80 = some 20 := by kernel_rfl
theorem ty_a80 : isAggT Tryd.prog 80 = some true := by kernel_rfl
theorem ty_i80 : intT Tryd.prog 80 = none := by kernel_rfl
theorem ty_s80 : isStr Tryd.prog 80 = false := by kernel_rfl
theorem ty_b80 : isBoolT Tryd.prog 80 = false := by kernel_rfl
theorem ty_e80 : elemT Tryd.prog 80 = none := by kernel_rfl
theorem ty_r80 : arrayT Tryd.prog 80 = some (20, 70) := by kernel_rfl
theorem ty_t80 : tapp Tryd.prog 80 = some (20, 160) := by kernel_rfl
theorem ty_c80 : tzc Tryd.prog 80 = some [.c (.int .u64 0), .c (.int .u64 0), .c (.int .u64 0), .c (.int .u64 0), .c (.int .u64 0), .c (.int .u64 0), .c (.int .u64 0), .c (.int .u64 0), .c (.int .u64 0), .c (.int .u64 0), .c (.int .u64 0), .c (.int .u64 0), .c (.int .u64 0), .c (.int .u64 0), .c (.int .u64 0), .c (.int .u64 0), .c (.int .u64 0), .c (.int .u64 0), .c (.int .u64 0), .c (.int .u64 0)] := by kernel_rfl
theorem ty_y80 : zelem Tryd.prog 80 = some (.agg [.c (.int .u64 0), .c (.int .u64 0), .c (.int .u64 0), .c (.int .u64 0), .c (.int .u64 0), .c (.int .u64 0), .c (.int .u64 0), .c (.int .u64 0), .c (.int .u64 0), .c (.int .u64 0), .c (.int .u64 0), .c (.int .u64 0), .c (.int .u64 0), .c (.int .u64 0), .c (.int .u64 0), .c (.int .u64 0), .c (.int .u64 0), .c (.int .u64 0), .c (.int .u64 0), .c (.int .u64 0)]) := by kernel_rfl
theorem ty_u81 : (Tryd.prog.underlying 81).isSome = true := by kernel_rfl
theorem ty_z81 : tsz Tryd.prog 81 = some 1 := by kernel_rfl
theorem ty_a81 : isAggT Tryd.prog 81 = some false := by kernel_rfl
theorem ty_i81 : intT Tryd.prog 81 = some .u32 := by kernel_rfl
theorem ty_s81 : isStr Tryd.prog 81 = false := by kernel_rfl
theorem ty_b81 : isBoolT Tryd.prog 81 = false := by kernel_rfl
theorem ty_e81 : elemT Tryd.prog 81 = none := by kernel_rfl
theorem ty_t81 : tapp Tryd.prog 81 = some (1, 4) := by kernel_rfl
theorem ty_c81 : tzc Tryd.prog 81 = some [.c (.int .u32 0)] := by kernel_rfl
theorem ty_y81 : zelem Tryd.prog 81 = some (.c (.int .u32 0)) := by kernel_rfl
theorem ty_u82 : (Tryd.prog.underlying 82).isSome = true := by kernel_rfl
theorem ty_z82 : tsz Tryd.prog 82 = some 65 := by kernel_rfl
theorem ty_a82 : isAggT Tryd.prog 82 = some true := by kernel_rfl
theorem ty_i82 : intT Tryd.prog 82 = none := by kernel_rfl
theorem ty_s82 : isStr Tryd.prog 82 = false := by kernel_rfl
theorem ty_b82 : isBoolT Tryd.prog 82 = false := by kernel_rfl
theorem ty_e82 : elemT Tryd.prog 82 = none := by kernel_rfl
theorem ty_r82 : arrayT Tryd.prog 82 = some (65, 5) := by kernel_rfl
theorem ty_t82 : tapp Tryd.prog 82 = some (65, 65) := by kernel_rfl
theorem ty_c82 : tzc Tryd.prog 82 = some [.c (.int .u8 0), .c (.int .u8 0), .c (.int .u8 0), .c (.int .u8 0), .c (.int .u8 0), .c (.int .u8 0), .c (.int .u8 0), .c (.int .u8 0), .c (.int .u8 0), .c (.int .u8 0), .c (.int .u8 0), .c (.int .u8 0), .c (.int .u8 0), .c (.int .u8 0), .c (.int .u8 0), .c (.int .u8 0), .c (.int .u8 0), .c (.int .u8 0), .c (.int .u8 0), .c (.int .u8 0), .c (.int .u8 0), .c (.int .u8 0), .c (.int .u8 0), .c (.int .u8 0), .c (.int .u8 0), .c (.int .u8 0), .c (.int .u8 0), .c (.int .u8 0), .c (.int .u8 0), .c (.int .u8 0), .c (.int .u8 0), .c (.int .u8 0), .c (.int .u8 0), .c (.int .u8 0), .c (.int .u8 0), .c (.int .u8 0), .c (.int .u8 0), .c (.int .u8 0), .c (.int .u8 0), .c (.int .u8 0), .c (.int .u8 0), .c (.int .u8 0), .c (.int .u8 0), .c (.int .u8 0), .c (.int .u8 0), .c (.int .u8 0), .c (.int .u8 0), .c (.int .u8 0), .c (.int .u8 0), .c (.int .u8 0), .c (.int .u8 0), .c (.int .u8 0), .c (.int .u8 0), .c (.int .u8 0), .c (.int .u8 0), .c (.int .u8 0), .c (.int .u8 0), .c (.int .u8 0), .c (.int .u8 0), .c (.int .u8 0), .c (.int .u8 0), .c (.int .u8 0), .c (.int .u8 0), .c (.int .u8 0), .c (.int .u8 0)] := by kernel_rfl
theorem ty_y82 : zelem Tryd.prog 82 = some (.agg [.c (.int .u8 0), .c (.int .u8 0), .c (.int .u8 0), .c (.int .u8 0), .c (.int .u8 0), .c (.int .u8 0), .c (.int .u8 0), .c (.int .u8 0), .c (.int .u8 0), .c (.int .u8 0), .c (.int .u8 0), .c (.int .u8 0), .c (.int .u8 0), .c (.int .u8 0), .c (.int .u8 0), .c (.int .u8 0), .c (.int .u8 0), .c (.int .u8 0), .c (.int .u8 0), .c (.int .u8 0), .c (.int .u8 0), .c (.int .u8 0), .c (.int .u8 0), .c (.int .u8 0), .c (.int .u8 0), .c (.int .u8 0), .c (.int .u8 0), .c (.int .u8 0), .c (.int .u8 0), .c (.int .u8 0), .c (.int .u8 0), .c (.int .u8 0), .c (.int .u8 0), .c (.int .u8 0), .c (.int .u8 0), .c (.int .u8 0), .c (.int .u8 0), .c (.int .u8 0), .c (.int .u8 0), .c (.int .u8 0), .c (.int .u8 0), .c (.int .u8 0), .c (.int .u8 0), .c (.int .u8 0), .c (.int .u8 0), .c (.int .u8 0), .c (.int .u8 0), .c (.int .u8 0), .c (.int .u8 0), .c (.int .u8 0), .c (.int .u8 0), .c (.int .u8 0), .c (.int .u8 0), .c (.int .u8 0), .c (.int .u8 0), .c (.int .u8 0), .c (.int .u8 0), .c (.int .u8 0), .c (.int .u8 0), .c (.int .u8 0), .c (.int .u8 0), .c (.int .u8 0), .c (.int .u8 0), .c (.int .u8 0), .c (.int .u8 0)]) := by kernel_rfl
theorem ty_u88 : (Tryd.prog.underlying 88).isSome = true := by kernel_rfl
theorem ty_z88 : tsz Tryd.prog 88 = some 256 := by kernel_rfl
theorem ty_a88 : isAggT Tryd.prog 88 = some true := by kernel_rfl
theorem ty_i88 : intT Tryd.prog 88 = none := by kernel_rfl
theorem ty_s88 : isStr Tryd.prog 88 = false := by kernel_rfl
theorem ty_b88 : isBoolT Tryd.prog 88 = false := by kernel_rfl
theorem ty_e88 : elemT Tryd.prog 88 = none := by kernel_rfl
theorem ty_r88 : arrayT Tryd.prog 88 = some (256, 5) := by kernel_rfl
theorem ty_t88 : tapp Tryd.prog 88 = some (256, 256) := by kernel_rfl
theorem ty_u89 : (Tryd.prog.underlying 89).isSome = true := by kernel_rfl
theorem ty_z89 : tsz Tryd.prog 89 = some 2 := by kernel_rfl
theorem ty_a89 : isAggT Tryd.prog 89 = some true := by kernel_rfl
theorem ty_i89 : intT Tryd.prog 89 = none := by kernel_rfl
theorem ty_s89 : isStr Tryd.prog 89 = false := by kernel_rfl
theorem ty_b89 : isBoolT Tryd.prog 89 = false := by kernel_rfl
theorem ty_e89 : elemT Tryd.prog 89 = none := by kernel_rfl
theorem ty_f89_0 : fieldT Tryd.prog 89 0 = some (5, 0) := by kernel_rfl
theorem ty_f89_1 : fieldT Tryd.prog 89 1 = some (5, 1) := by kernel_rfl
theorem ty_pl89 : placesT Tryd.prog 89 = some [(0, 1), (1, 1)] := by kernel_rfl
theorem ty_t89 : tapp Tryd.prog 89 = some (2, 2) := by kernel_rfl
theorem ty_c89 : tzc Tryd.prog 89 = some [.c (.int .u8 0), .c (.int .u8 0)] := by kernel_rfl
theorem ty_y89 : zelem Tryd.prog 89 = some (.agg [.c (.int .u8 0), .c (.int .u8 0)]) := by kernel_rfl
theorem ty_u90 : (Tryd.prog.underlying 90).isSome = true := by kernel_rfl
theorem ty_z90 : tsz Tryd.prog 90 = some 2 := by kernel_rfl
theorem ty_a90 : isAggT Tryd.prog 90 = some true := by kernel_rfl
theorem ty_i90 : intT Tryd.prog 90 = none := by kernel_rfl
theorem ty_s90 : isStr Tryd.prog 90 = false := by kernel_rfl
theorem ty_b90 : isBoolT Tryd.prog 90 = false := by kernel_rfl
theorem ty_e90 : elemT Tryd.prog 90 = none := by kernel_rfl
theorem ty_f90_0 : fieldT Tryd.prog 90 0 = some (5, 0) := by kernel_rfl
theorem ty_f90_1 : fieldT Tryd.prog 90 1 = some (5, 1) := by kernel_rfl
theorem ty_pl90 : placesT Tryd.prog 90 = some [(0, 1), (1, 1)] := by kernel_rfl
theorem ty_t90 : tapp Tryd.prog 90 = some (2, 2) := by kernel_rfl
theorem ty_c90 : tzc Tryd.prog 90 = some [.c (.int .u8 0), .c (.int .u8 0)] := by kernel_rfl
theorem ty_y90 : zelem Tryd.prog 90 = some (.agg [.c (.int .u8 0), .c (.int .u8 0)]) := by kernel_rfl
theorem ty_u91 : (Tryd.prog.underlying 91).isSome = true := by kernel_rfl
theorem ty_z91 : tsz Tryd.prog 91 = some 32 := by kernel_rfl
theorem ty_a91 : isAggT Tryd.prog 91 = some true := by kernel_rfl
theorem ty_i91 : intT Tryd.prog 91 = none := by kernel_rfl
theorem ty_s91 : isStr Tryd.prog 91 = false := by kernel_rfl
theorem ty_b91 : isBoolT Tryd.prog 91 = false := by kernel_rfl
theorem ty_e91 : elemT Tryd.prog 91 = none := by kernel_rfl
theorem ty_r91 : arrayT Tryd.prog 91 = some (16, 90) := by kernel_rfl
theorem ty_t91 : tapp Tryd.prog 91 = some (32, 32) := by kernel_rfl
theorem ty_c91 : tzc Tryd.prog 91 = some [.c (.int .u8 0), .c (.int .u8 0), .c (.int .u8 0), .c (.int .u8 0), .c (.int .u8 0), .c (.int .u8 0), .c (.int .u8 0), .c (.int .u8 0), .c (.int .u8 0), .c (.int .u8 0), .c (.int .u8 0), .c (.int .u8 0), .c (.int .u8 0), .c (.int .u8 0), .c (.int .u8 0), .c (.int .u8 0), .c (.int .u8 0), .c (.int .u8 0), .c (.int .u8 0), .c (.int .u8 0), .c (.int .u8 0), .c (.int .u8 0), .c (.int .u8 0), .c (.int .u8 0), .c (.int .u8 0), .c (.int .u8 0), .c (.int .u8 0), .c (.int .u8 0), .c (.int .u8 0), .c (.int .u8 0), .c (.int .u8 0), .c (.int .u8 0)] := by kernel_rfl
theorem ty_y91 : zelem Tryd.prog 91 = some (.agg [.c (.int .u8 0), .c (.int .u8 0), .c (.int .u8 0), .c (.int .u8 0), .c (.int .u8 0), .c (.int .u8 0), .c (.int .u8 0), .c (.int .u8 0), .c (.int .u8 0), .c (.int .u8 0), .c (.int .u8 0), .c (.int .u8 0), .c (.int .u8 0), .c (.int .u8 0), .c (.int .u8 0), .c (.int .u8 0), .c (.int .u8 0), .c (.int .u8 0), .c (.int .u8 0), .c (.int .u8 0), .c (.int .u8 0), .c (.int .u8 0), .c (.int .u8 0), .c (.int .u8 0), .c (.int .u8 0), .c (.int .u8 0), .c (.int .u8 0), .c (.int .u8 0), .c (.int .u8 0), .c (.int .u8 0), .c (.int .u8 0), .c (.int .u8 0)]) := by kernel_rfl
theorem ty_u92 : (Tryd.prog.underlying 92).isSome = true := by kernel_rfl
theorem ty_z92 : tsz Tryd.prog 92 = some 32 := by kernel_rfl
theorem ty_a92 : isAggT Tryd.prog 92 = some true := by kernel_rfl
theorem ty_i92 : intT Tryd.prog 92 = none := by kernel_rfl
theorem ty_s92 : isStr Tryd.prog 92 = false := by kernel_rfl
theorem ty_b92 : isBoolT Tryd.prog 92 = false := by kernel_rfl
theorem ty_e92 : elemT Tryd.prog 92 = none := by kernel_rfl
theorem ty_r92 : arrayT Tryd.prog 92 = some (32, 5) := by kernel_rfl
theorem ty_t92 : tapp Tryd.prog 92 = some (32, 32) := by kernel_rfl
theorem ty_c92 : tzc Tryd.prog 92 = some [.c (.int .u8 0), .c (.int .u8 0), .c (.int .u8 0), .c (.int .u8 0), .c (.int .u8 0), .c (.int .u8 0), .c (.int .u8 0), .c (.int .u8 0), .c (.int .u8 0), .c (.int .u8 0), .c (.int .u8 0), .c (.int .u8 0), .c (.int .u8 0), .c (.int .u8 0), .c (.int .u8 0), .c (.int .u8 0), .c (.int .u8 0), .c (.int .u8 0), .c (.int .u8 0), .c (.int .u8 0), .c (.int .u8 0), .c (.int .u8 0), .c (.int .u8 0), .c (.int .u8 0), .c (.int .u8 0), .c (.int .u8 0), .c (.int .u8 0), .c (.int .u8 0), .c (.int .u8 0), .c (.int .u8 0), .c (.int .u8 0), .c (.int .u8 0)] := by kernel_rfl
theorem ty_y92 : zelem Tryd.prog 92 = some (.agg [.c (.int .u8 0), .c (.int .u8 0), .c (.int .u8 0), .c (.int .u8 0), .c (.int .u8 0), .c (.int .u8 0), .c (.int .u8 0), .c (.int .u8 0), .c (.int .u8 0), .c (.int .u8 0), .c (.int .u8 0), .c (.int .u8 0), .c (.int .u8 0), .c (.int .u8 0), .c (.int .u8 0), .c (.int .u8 0), .c (.int .u8 0), .c (.int .u8 0), .c (.int .u8 0), .c (.int .u8 0), .c (.int .u8 0), .c (.int .u8 0), .c (.int .u8 0), .c (.int .u8 0), .c (.int .u8 0), .c (.int .u8 0), .c (.int .u8 0), .c (.int .u8 0), .c (.int .u8 0), .c (.int .u8 0), .c (.int .u8 0), .c (.int .u8 0)]) := by kernel_rfl
theorem ty_u93 : (Tryd.prog.underlying 93).isSome = true := by kernel_rfl
theorem ty_z93 : tsz Tryd.prog 93 = some 64 := by kernel_rfl
theorem ty_a93 : isAggT Tryd.prog 93 = some true := by kernel_rfl
theorem ty_i93 : intT Tryd.prog 93 = none := by kernel_rfl
theorem ty_s93 : isStr Tryd.prog 93 = false := by kernel_rfl
theorem ty_b93 : isBoolT Tryd.prog 93 = false := by kernel_rfl
theorem ty_e93 : elemT Tryd.prog 93 = none := by kernel_rfl
theorem ty_r93 : arrayT Tryd.prog 93 = some (64, 5) := by kernel_rfl
theorem ty_t93 : tapp Tryd.prog 93 = some (64, 64) := by kernel_rfl
theorem ty_c93 : tzc Tryd.prog 93 = some [.c (.int .u8 0), .c (.int .u8 0), .c (.int .u8 0), .c (.int .u8 0), .c (.int .u8 0), .c (.int .u8 0), .c (.int .u8 0), .c (.int .u8 0), .c (.int .u8 0), .c (.int .u8 0), .c (.int .u8 0), .c (.int .u8 0), .c (.int .u8 0), .c (.int .u8 0), .c (.int .u8 0), .c (.int .u8 0), .c (.int .u8 0), .c (.int .u8 0), .c (.int .u8 0), .c (.int .u8 0), .c (.int .u8 0), .c (.int .u8 0), .c (.int .u8 0), .c (.int .u8 0), .c (.int .u8 0), .c (.int .u8 0), .c (.int .u8 0), .c (.int .u8 0), .c (.int .u8 0), .c (.int .u8 0), .c (.int .u8 0), .c (.int .u8 0), .c (.int .u8 0), .c (.int .u8 0), .c (.int .u8 0), .c (.int .u8 0), .c (.int .u8 0), .c (.int .u8 0), .c (.int .u8 0), .c (.int .u8 0), .c (.int .u8 0), .c (.int .u8 0), .c (.int .u8 0), .c (.int .u8 0), .c (.int .u8 0), .c (.int .u8 0), .c (.int .u8 0), .c (.int .u8 0), .c (.int .u8 0), .c (.int .u8 0), .c (.int .u8 0), .c (.int .u8 0), .c (.int .u8 0), .c (.int .u8 0), .c (.int .u8 0), .c (.int .u8 0), .c (.int .u8 0), .c (.int .u8 0), .c (.int .u8 0), .c (.int .u8 0), .c (.int .u8 0), .c (.int .u8 0), .c (.int .u8 0), .c (.int .u8 0)] := by kernel_rfl
theorem ty_y93 : zelem Tryd.prog 93 = some (.agg [.c (.int .u8 0), .c (.int .u8 0), .c (.int .u8 0), .c (.int .u8 0), .c (.int .u8 0), .c (.int .u8 0), .c (.int .u8 0), .c (.int .u8 0), .c (.int .u8 0), .c (.int .u8 0), .c (.int .u8 0), .c (.int .u8 0), .c (.int .u8 0), .c (.int .u8 0), .c (.int .u8 0), .c (.int .u8 0), .c (.int .u8 0), .c (.int .u8 0), .c (.int .u8 0), .c (.int .u8 0), .c (.int .u8 0), .c (.int .u8 0), .c (.int .u8 0), .c (.int .u8 0), .c (.int .u8 0), .c (.int .u8 0), .c (.int .u8 0), .c (.int .u8 0), .c (.int .u8 0), .c (.int .u8 0), .c (.int .u8 0), .c (.int .u8 0), .c (.int .u8 0), .c (.int .u8 0), .c (.int .u8 0), .c (.int .u8 0), .c (.int .u8 0), .c (.int .u8 0), .c (.int .u8 0), .c (.int .u8 0), .c (.int .u8 0), .c (.int .u8 0), .c (.int .u8 0), .c (.int .u8 0), .c (.int .u8 0), .c (.int .u8 0), .c (.int .u8 0), .c (.int .u8 0), .c (.int .u8 0), .c (.int .u8 0), .c (.int .u8 0), .c (.int .u8 0), .c (.int .u8 0), .c (.int .u8 0), .c (.int .u8 0), .c (.int .u8 0), .c (.int .u8 0), .c (.int .u8 0), .c (.int .u8 0), .c (.int .u8 0), .c (.int .u8 0), .c (.int .u8 0), .c (.int .u8 0), .c (.int .u8 0)]) := by kernel_rfl
theorem ty_u94 : (Tryd.prog.underlying 94).isSome = true := by kernel_rfl
theorem ty_z94 : tsz Tryd.prog 94 = some 4 := by kernel_rfl
theorem ty_a94 : isAggT Tryd.prog 94 = some true := by kernel_rfl
theorem ty_i94 : intT Tryd.prog 94 = none := by kernel_rfl
theorem ty_s94 : isStr Tryd.prog 94 = false := by kernel_rfl
theorem ty_b94 : isBoolT Tryd.prog 94 = false := by kernel_rfl
theorem ty_e94 : elemT Tryd.prog 94 = none := by kernel_rfl
theorem ty_f94_0 : fieldT Tryd.prog 94 0 = some (17, 0) := by kernel_rfl
theorem ty_f94_1 : fieldT Tryd.prog 94 1 = some (17, 1) := by kernel_rfl
theorem ty_f94_2 : fieldT Tryd.prog 94 2 = some (17, 2) := by kernel_rfl
theorem ty_f94_3 : fieldT Tryd.prog 94 3 = some (9, 3) := by kernel_rfl
theorem ty_pl94 : placesT Tryd.prog 94 = some [(0, 1), (1, 1), (2, 1), (3, 1)] := by kernel_rfl
theorem ty_t94 : tapp Tryd.prog 94 = some (4, 40) := by kernel_rfl
theorem ty_c94 : tzc Tryd.prog 94 = some [.c (.pointer none), .c (.pointer none), .c (.pointer none), .c (.string ⟨#[]⟩)] := by kernel_rfl
theorem ty_y94 : zelem Tryd.prog 94 = some (.agg [.c (.pointer none), .c (.pointer none), .c (.pointer none), .c (.string ⟨#[]⟩)]) := by kernel_rfl
theorem ty_u96 : (Tryd.prog.underlying 96).isSome = true := by kernel_rfl
theorem ty_z96 : tsz Tryd.prog 96 = some 0 := by kernel_rfl
theorem ty_a96 : isAggT Tryd.prog 96 = some true := by kernel_rfl
theorem ty_i96 : intT Tryd.prog 96 = none := by kernel_rfl
theorem ty_s96 : isStr Tryd.prog 96 = false := by kernel_rfl
theorem ty_b96 : isBoolT Tryd.prog 96 = false := by kernel_rfl
theorem ty_e96 : elemT Tryd.prog 96 = none := by kernel_rfl
theorem ty_r96 : arrayT Tryd.prog 96 = some (0, 16) := by kernel_rfl
theorem ty_u97 : (Tryd.prog.underlying 97).isSome = true := by kernel_rfl
theorem ty_z97 : tsz Tryd.prog 97 = some 0 := by kernel_rfl
theorem ty_a97 : isAggT Tryd.prog 97 = some true := by kernel_rfl
theorem ty_i97 : intT Tryd.prog 97 = none := by kernel_rfl
theorem ty_s97 : isStr Tryd.prog 97 = false := by kernel_rfl
theorem ty_b97 : isBoolT Tryd.prog 97 = false := by kernel_rfl
theorem ty_e97 : elemT Tryd.prog 97 = none := by kernel_rfl
theorem ty_f97_0 : fieldT Tryd.prog 97 0 = some (96, 0) := by kernel_rfl
theorem ty_pl97 : placesT Tryd.prog 97 = some [(0, 0)] := by kernel_rfl
theorem ty_u98 : (Tryd.prog.underlying 98).isSome = true := by kernel_rfl
theorem ty_z98 : tsz Tryd.prog 98 = some 0 := by kernel_rfl
theorem ty_a98 : isAggT Tryd.prog 98 = some true := by kernel_rfl
theorem ty_i98 : intT Tryd.prog 98 = none := by kernel_rfl
theorem ty_s98 : isStr Tryd.prog 98 = false := by kernel_rfl
theorem ty_b98 : isBoolT Tryd.prog 98 = false := by kernel_rfl
theorem ty_e98 : elemT Tryd.prog 98 = none := by kernel_rfl
theorem ty_f98_0 : fieldT Tryd.prog 98 0 = some (96, 0) := by kernel_rfl
theorem ty_pl98 : placesT Tryd.prog 98 = some [(0, 0)] := by kernel_rfl
theorem ty_u100 : (Tryd.prog.underlying 100).isSome = true := by kernel_rfl
theorem ty_z100 : tsz Tryd.prog 100 = some 1 := by kernel_rfl
theorem ty_a100 : isAggT Tryd.prog 100 = some false := by kernel_rfl
theorem ty_i100 : intT Tryd.prog 100 = some .u8 := by kernel_rfl
theorem ty_s100 : isStr Tryd.prog 100 = false := by kernel_rfl
theorem ty_b100 : isBoolT Tryd.prog 100 = false := by kernel_rfl
theorem ty_e100 : elemT Tryd.prog 100 = none := by kernel_rfl
theorem ty_t100 : tapp Tryd.prog 100 = some (1, 1) := by kernel_rfl
theorem ty_c100 : tzc Tryd.prog 100 = some [.c (.int .u8 0)] := by kernel_rfl
theorem ty_y100 : zelem Tryd.prog 100 = some (.c (.int .u8 0)) := by kernel_rfl
theorem ty_u101 : (Tryd.prog.underlying 101).isSome = true := by kernel_rfl
theorem ty_z101 : tsz Tryd.prog 101 = some 1 := by kernel_rfl
theorem ty_a101 : isAggT Tryd.prog 101 = some false := by kernel_rfl
theorem ty_i101 : intT Tryd.prog 101 = some .u8 := by kernel_rfl
theorem ty_s101 : isStr Tryd.prog 101 = false := by kernel_rfl
theorem ty_b101 : isBoolT Tryd.prog 101 = false := by kernel_rfl
theorem ty_e101 : elemT Tryd.prog 101 = none := by kernel_rfl
theorem ty_t101 : tapp Tryd.prog 101 = some (1, 1) := by kernel_rfl
theorem ty_c101 : tzc Tryd.prog 101 = some [.c (.int .u8 0)] := by kernel_rfl
theorem ty_y101 : zelem Tryd.prog 101 = some (.c (.int .u8 0)) := by kernel_rfl
theorem ty_u102 : (Tryd.prog.underlying 102).isSome = true := by kernel_rfl
theorem ty_u103 : (Tryd.prog.underlying 103).isSome = true := by kernel_rfl
theorem ty_z103 : tsz Tryd.prog 103 = some 1 := by kernel_rfl
theorem ty_a103 : isAggT Tryd.prog 103 = some false := by kernel_rfl
theorem ty_i103 : intT Tryd.prog 103 = some .i32 := by kernel_rfl
theorem ty_s103 : isStr Tryd.prog 103 = false := by kernel_rfl
theorem ty_b103 : isBoolT Tryd.prog 103 = false := by kernel_rfl
theorem ty_e103 : elemT Tryd.prog 103 = none := by kernel_rfl
theorem ty_t103 : tapp Tryd.prog 103 = some (1, 4) := by kernel_rfl
theorem ty_c103 : tzc Tryd.prog 103 = some [.c (.int .i32 0)] := by kernel_rfl
theorem ty_y103 : zelem Tryd.prog 103 = some (.c (.int .i32 0)) := by kernel_rfl
theorem ty_u104 : (Tryd.prog.underlying 104).isSome = true := by kernel_rfl
theorem ty_z104 : tsz Tryd.prog 104 = some 1 := by kernel_rfl
theorem ty_a104 : isAggT Tryd.prog 104 = some false := by kernel_rfl
theorem ty_i104 : intT Tryd.prog 104 = some .i32 := by kernel_rfl
theorem ty_s104 : isStr Tryd.prog 104 = false := by kernel_rfl
theorem ty_b104 : isBoolT Tryd.prog 104 = false := by kernel_rfl
theorem ty_e104 : elemT Tryd.prog 104 = none := by kernel_rfl
theorem ty_t104 : tapp Tryd.prog 104 = some (1, 4) := by kernel_rfl
theorem ty_c104 : tzc Tryd.prog 104 = some [.c (.int .i32 0)] := by kernel_rfl
theorem ty_y104 : zelem Tryd.prog 104 = some (.c (.int .i32 0)) := by kernel_rfl
theorem ty_u105 : (Tryd.prog.underlying 105).isSome = true := by kernel_rfl
theorem ty_z105 : tsz Tryd.prog 105 = some 11 := by kernel_rfl
theorem ty_a105 : isAggT Tryd.prog 105 = some true := by kernel_rfl
theorem ty_i105 : intT Tryd.prog 105 = none := by kernel_rfl
theorem ty_s105 : isStr Tryd.prog 105 = false := by kernel_rfl
theorem ty_b105 : isBoolT Tryd.prog 105 = false := by kernel_rfl
theorem ty_e105 : elemT Tryd.prog 105 = none := by kernel_rfl
theorem ty_f105_0 : fieldT Tryd.prog 105 0 = some (12, 0) := by kernel_rfl
theorem ty_f105_1 : fieldT Tryd.prog 105 1 = some (12, 1) := by kernel_rfl
theorem ty_f105_2 : fieldT Tryd.prog 105 2 = some (81, 2) := by kernel_rfl
theorem ty_f105_3 : fieldT Tryd.prog 105 3 = some (100, 3) := by kernel_rfl
theorem ty_f105_4 : fieldT Tryd.prog 105 4 = some (5, 4) := by kernel_rfl
theorem ty_f105_5 : fieldT Tryd.prog 105 5 = some (5, 5) := by kernel_rfl
theorem ty_f105_6 : fieldT Tryd.prog 105 6 = some (101, 6) := by kernel_rfl
theorem ty_f105_7 : fieldT Tryd.prog 105 7 = some (102, 7) := by kernel_rfl
theorem ty_f105_8 : fieldT Tryd.prog 105 8 = some (61, 8) := by kernel_rfl
theorem ty_f105_9 : fieldT Tryd.prog 105 9 = some (103, 9) := by kernel_rfl
theorem ty_f105_10 : fieldT Tryd.prog 105 10 = some (104, 10) := by kernel_rfl
theorem ty_pl105 : placesT Tryd.prog 105 = some [(0, 1), (1, 1), (2, 1), (3, 1), (4, 1), (5, 1), (6, 1), (7, 1), (8, 1), (9, 1), (10, 1)] := by kernel_rfl
theorem ty_t105 : tapp Tryd.prog 105 = some (11, 48) := by kernel_rfl
theorem ty_c105 : tzc Tryd.prog 105 = some [.c (.int .u64 0), .c (.int .u64 0), .c (.int .u32 0), .c (.int .u8 0), .c (.int .u8 0), .c (.int .u8 0), .c (.int .u8 0), .c (.nilFunc), .c (.pointer none), .c (.int .i32 0), .c (.int .i32 0)] := by kernel_rfl
theorem ty_y105 : zelem Tryd.prog 105 = some (.agg [.c (.int .u64 0), .c (.int .u64 0), .c (.int .u32 0), .c (.int .u8 0), .c (.int .u8 0), .c (.int .u8 0), .c (.int .u8 0), .c (.nilFunc), .c (.pointer none), .c (.int .i32 0), .c (.int .i32 0)]) := by kernel_rfl
theorem ty_u106 : (Tryd.prog.underlying 106).isSome = true := by kernel_rfl
theorem ty_z106 : tsz Tryd.prog 106 = some 11 := by kernel_rfl
theorem ty_a106 : isAggT Tryd.prog 106 = some true := by kernel_rfl
theorem ty_i106 : intT Tryd.prog 106 = none := by kernel_rfl
theorem ty_s106 : isStr Tryd.prog 106 = false := by kernel_rfl
theorem ty_b106 : isBoolT Tryd.prog 106 = false := by kernel_rfl
theorem ty_e106 : elemT Tryd.prog 106 = none := by kernel_rfl
theorem ty_f106_0 : fieldT Tryd.prog 106 0 = some (12, 0) := by kernel_rfl
theorem ty_f106_1 : fieldT Tryd.prog 106 1 = some (12, 1) := by kernel_rfl
theorem ty_f106_2 : fieldT Tryd.prog 106 2 = some (81, 2) := by kernel_rfl
theorem ty_f106_3 : fieldT Tryd.prog 106 3 = some (100, 3) := by kernel_rfl
theorem ty_f106_4 : fieldT Tryd.prog 106 4 = some (5, 4) := by kernel_rfl
theorem ty_f106_5 : fieldT Tryd.prog 106 5 = some (5, 5) := by kernel_rfl
theorem ty_f106_6 : fieldT Tryd.prog 106 6 = some (101, 6) := by kernel_rfl
theorem ty_f106_7 : fieldT Tryd.prog 106 7 = some (102, 7) := by kernel_rfl
theorem ty_f106_8 : fieldT Tryd.prog 106 8 = some (61, 8) := by kernel_rfl
theorem ty_f106_9 : fieldT Tryd.prog 106 9 = some (103, 9) := by kernel_rfl
theorem ty_f106_10 : fieldT Tryd.prog 106 10 = some (104, 10) := by kernel_rfl
theorem ty_pl106 : placesT Tryd.prog 106 = some [(0, 1), (1, 1), (2, 1), (3, 1), (4, 1), (5, 1), (6, 1), (7, 1), (8, 1), (9, 1), (10, 1)] := by kernel_rfl
theorem ty_t106 : tapp Tryd.prog 106 = some (11, 48) := by kernel_rfl
theorem ty_c106 : tzc Tryd.prog 106 = some [.c (.int .u64 0), .c (.int .u64 0), .c (.int .u32 0), .c (.int .u8 0), .c (.int .u8 0), .c (.int .u8 0), .c (.int .u8 0), .c (.nilFunc), .c (.pointer none), .c (.int .i32 0), .c (.int .i32 0)] := by kernel_rfl
theorem ty_y106 : zelem Tryd.prog 106 = some (.agg [.c (.int .u64 0), .c (.int .u64 0), .c (.int .u32 0), .c (.int .u8 0), .c (.int .u8 0), .c (.int .u8 0), .c (.int .u8 0), .c (.nilFunc), .c (.pointer none), .c (.int .i32 0), .c (.int .i32 0)]) := by kernel_rfl
def tyf := And.intro @ty_u2 (And.intro @ty_z2 (And.intro @ty_a2 (And.intro @ty_i2 (And.intro @ty_s2 (And.intro @ty_b2 (And.intro @ty_e2 (And.intro @ty_t2 (And.intro @ty_c2 (And.intro @ty_y2 (And.intro @ty_u3 (And.intro @ty_z3 (And.intro @ty_a3 (And.intro @ty_i3 (And.intro @ty_s3 (And.intro @ty_b3 (And.intro @ty_e3 (And.intro @ty_t3 (And.intro @ty_c3 (And.intro @ty_y3 (And.intro @ty_u4 (And.intro @ty_z4 (And.intro @ty_a4 (And.intro @ty_i4 (And.intro @ty_s4 (And.intro @ty_b4 (And.intro @ty_e4 (And.intro @ty_t4 (And.intro @ty_c4 (And.intro @ty_y4 (And.intro @ty_u5 (And.intro @ty_z5 (And.intro @ty_a5 (And.intro @ty_i5 (And.intro @ty_s5 (And.intro @ty_b5 (And.intro @ty_e5 (And.intro @ty_t5 (And.intro @ty_c5 (And.intro @ty_y5 (And.intro @ty_u6 (And.intro @ty_z6 (And.intro @ty_a6 (And.intro @ty_i6 (And.intro @ty_s6 (And.intro @ty_b6 (And.intro @ty_e6 (And.intro @ty_t6 (And.intro @ty_c6 (And.intro @ty_y6 (And.intro @ty_u7 (And.intro @ty_z7 (And.intro @ty_a7 (And.intro @ty_i7 (And.intro @ty_s7 (And.intro @ty_b7 (And.intro @ty_e7 (And.intro @ty_f7_0 (And.intro @ty_f7_1 (And.intro @ty_f7_2 (And.intro @ty_f7_3 (And.intro @ty_pl7 (And.intro @ty_t7 (And.intro @ty_c7 (And.intro @ty_y7 (And.intro @ty_u9 (And.intro @ty_z9 (And.intro @ty_a9 (And.intro @ty_i9 (And.intro @ty_s9 (And.intro @ty_b9 (And.intro @ty_e9 (And.intro @ty_t9 (And.intro @ty_c9 (And.intro @ty_y9 (And.intro @ty_u12 (And.intro @ty_z12 (And.intro @ty_a12 (And.intro @ty_i12 (And.intro @ty_s12 (And.intro @ty_b12 (And.intro @ty_e12 (And.intro @ty_t12 (And.intro @ty_c12 (And.intro @ty_y12 (And.intro @ty_u13 (And.intro @ty_z13 (And.intro @ty_a13 (And.intro @ty_i13 (And.intro @ty_s13 (And.intro @ty_b13 (And.intro @ty_e13 (And.intro @ty_f13_0 (And.intro @ty_f13_1 (And.intro @ty_pl13 (And.intro @ty_t13 (And.intro @ty_c13 (And.intro @ty_y13 (And.intro @ty_u16 (And.intro @ty_z16 (And.intro @ty_a16 (And.intro @ty_i16 (And.intro @ty_s16 (And.intro @ty_b16 (And.intro @ty_e16 (And.intro @ty_p16 (And.intro @ty_q16 (And.intro @ty_t16 (And.intro @ty_c16 (And.intro @ty_y16 (And.intro @ty_u17 (And.intro @ty_z17 (And.intro @ty_a17 (And.intro @ty_i17 (And.intro @ty_s17 (And.intro @ty_b17 (And.intro @ty_e17 (And.intro @ty_p17 (And.intro @ty_q17 (And.intro @ty_t17 (And.intro @ty_c17 (And.intro @ty_y17 (And.intro @ty_u18 (And.intro @ty_z18 (And.intro @ty_a18 (And.intro @ty_i18 (And.intro @ty_s18 (And.intro @ty_b18 (And.intro @ty_e18 (And.intro @ty_f18_0 (And.intro @ty_pl18 (And.intro @ty_t18 (And.intro @ty_c18 (And.intro @ty_y18 (And.intro @ty_u21 (And.intro @ty_z21 (And.intro @ty_a21 (And.intro @ty_i21 (And.intro @ty_s21 (And.intro @ty_b21 (And.intro @ty_e21 (And.intro @ty_t21 (And.intro @ty_c21 (And.intro @ty_y21 (And.intro @ty_u24 (And.intro @ty_z24 (And.intro @ty_a24 (And.intro @ty_i24 (And.intro @ty_s24 (And.intro @ty_b24 (And.intro @ty_e24 (And.intro @ty_t24 (And.intro @ty_c24 (And.intro @ty_y24 (And.intro @ty_u30 (And.intro @ty_z30 (And.intro @ty_a30 (And.intro @ty_i30 (And.intro @ty_s30 (And.intro @ty_b30 (And.intro @ty_e30 (And.intro @ty_f30_0 (And.intro @ty_f30_1 (And.intro @ty_pl30 (And.intro @ty_t30 (And.intro @ty_c30 (And.intro @ty_y30 (And.intro @ty_u31 (And.intro @ty_z31 (And.intro @ty_a31 (And.intro @ty_i31 (And.intro @ty_s31 (And.intro @ty_b31 (And.intro @ty_e31 (And.intro @ty_f31_0 (And.intro @ty_f31_1 (And.intro @ty_pl31 (And.intro @ty_t31 (And.intro @ty_c31 (And.intro @ty_y31 (And.intro @ty_u35 (And.intro @ty_z35 (And.intro @ty_a35 (And.intro @ty_i35 (And.intro @ty_s35 (And.intro @ty_b35 (And.intro @ty_e35 (And.intro @ty_t35 (And.intro @ty_c35 (And.intro @ty_y35 (And.intro @ty_u36 (And.intro @ty_z36 (And.intro @ty_a36 (And.intro @ty_i36 (And.intro @ty_s36 (And.intro @ty_b36 (And.intro @ty_e36 (And.intro @ty_t36 (And.intro @ty_c36 (And.intro @ty_y36 (And.intro @ty_u42 (And.intro @ty_z42 (And.intro @ty_a42 (And.intro @ty_i42 (And.intro @ty_s42 (And.intro @ty_b42 (And.intro @ty_e42 (And.intro @ty_t42 (And.intro @ty_c42 (And.intro @ty_y42 (And.intro @ty_u43 (And.intro @ty_z43 (And.intro @ty_a43 (And.intro @ty_i43 (And.intro @ty_s43 (And.intro @ty_b43 (And.intro @ty_e43 (And.intro @ty_p43 (And.intro @ty_q43 (And.intro @ty_t43 (And.intro @ty_c43 (And.intro @ty_y43 (And.intro @ty_u44 (And.intro @ty_z44 (And.intro @ty_a44 (And.intro @ty_i44 (And.intro @ty_s44 (And.intro @ty_b44 (And.intro @ty_e44 (And.intro @ty_f44_0 (And.intro @ty_f44_1 (And.intro @ty_pl44 (And.intro @ty_t44 (And.intro @ty_c44 (And.intro @ty_y44 (And.intro @ty_u45 (And.intro @ty_z45 (And.intro @ty_a45 (And.intro @ty_i45 (And.intro @ty_s45 (And.intro @ty_b45 (And.intro @ty_e45 (And.intro @ty_f45_0 (And.intro @ty_f45_1 (And.intro @ty_pl45 (And.intro @ty_t45 (And.intro @ty_c45 (And.intro @ty_y45 (And.intro @ty_u47 (And.intro @ty_u61 (And.intro @ty_z61 (And.intro @ty_a61 (And.intro @ty_i61 (And.intro @ty_s61 (And.intro @ty_b61 (And.intro @ty_e61 (And.intro @ty_p61 (And.intro @ty_q61 (And.intro @ty_t61 (And.intro @ty_c61 (And.intro @ty_y61 (And.intro @ty_u64 (And.intro @ty_z64 (And.intro @ty_a64 (And.intro @ty_i64 (And.intro @ty_s64 (And.intro @ty_b64 (And.intro @ty_e64 (And.intro @ty_t64 (And.intro @ty_c64 (And.intro @ty_y64 (And.intro @ty_u69 (And.intro @ty_z69 (And.intro @ty_a69 (And.intro @ty_i69 (And.intro @ty_s69 (And.intro @ty_b69 (And.intro @ty_e69 (And.intro @ty_r69 (And.intro @ty_t69 (And.intro @ty_c69 (And.intro @ty_y69 (And.intro @ty_u70 (And.intro @ty_z70 (And.intro @ty_a70 (And.intro @ty_i70 (And.intro @ty_s70 (And.intro @ty_b70 (And.intro @ty_e70 (And.intro @ty_t70 (And.intro @ty_c70 (And.intro @ty_y70 (And.intro @ty_u80 (And.intro @ty_z80 (And.intro @ty_a80 (And.intro @ty_i80 (And.intro @ty_s80 (And.intro @ty_b80 (And.intro @ty_e80 (And.intro @ty_r80 (And.intro @ty_t80 (And.intro @ty_c80 (And.intro @ty_y80 (And.intro @ty_u81 (And.intro @ty_z81 (And.intro @ty_a81 (And.intro @ty_i81 (And.intro @ty_s81 (And.intro @ty_b81 (And.intro @ty_e81 (And.intro @ty_t81 (And.intro @ty_c81 (And.intro @ty_y81 (And.intro @ty_u82 (And.intro @ty_z82 (And.intro @ty_a82 (And.intro @ty_i82 (And.intro @ty_s82 (And.intro @ty_b82 (And.intro @ty_e82 (And.intro @ty_r82 (And.intro @ty_t82 (And.intro @ty_c82 (And.intro @ty_y82 (And.intro @ty_u88 (And.intro @ty_z88 (And.intro @ty_a88 (And.intro @ty_i88 (And.intro @ty_s88 (And.intro @ty_b88 (And.intro @ty_e88 (And.intro @ty_r88 (And.intro @ty_t88 (And.intro @ty_u89 (And.intro @ty_z89 (And.intro @ty_a89 (And.intro @ty_i89 (And.intro @ty_s89 (And.intro @ty_b89 (And.intro @ty_e89 (And.intro @ty_f89_0 (And.intro @ty_f89_1 (And.intro @ty_pl89 (And.intro @ty_t89 (And.intro @ty_c89 (And.intro @ty_y89 (And.intro @ty_u90 (And.intro @ty_z90 (And.intro @ty_a90 (And.intro @ty_i90 (And.intro @ty_s90 (And.intro @ty_b90 (And.intro @ty_e90 (And.intro @ty_f90_0 (And.intro @ty_f90_1 (And.intro @ty_pl90 (And.intro @ty_t90 (And.intro @ty_c90 (And.intro @ty_y90 (And.intro @ty_u91 (And.intro @ty_z91 (And.intro @ty_a91 (And.intro @ty_i91 (And.intro @ty_s91 (And.intro @ty_b91 (And.intro @ty_e91 (And.intro @ty_r91 (And.intro @ty_t91 (And.intro @ty_c91 (And.intro @ty_y91 (And.intro @ty_u92 (And.intro @ty_z92 (And.intro @ty_a92 (And.intro @ty_i92 (And.intro @ty_s92 (And.intro @ty_b92 (And.intro @ty_e92 (And.intro @ty_r92 (And.intro @ty_t92 (And.intro @ty_c92 (And.intro @ty_y92 (And.intro @ty_u93 (And.intro @ty_z93 (And.intro @ty_a93 (And.intro @ty_i93 (And.intro @ty_s93 (And.intro @ty_b93 (And.intro @ty_e93 (And.intro @ty_r93 (And.intro @ty_t93 (And.intro @ty_c93 (And.intro @ty_y93 (And.intro @ty_u94 (And.intro @ty_z94 (And.intro @ty_a94 (And.intro @ty_i94 (And.intro @ty_s94 (And.intro @ty_b94 (And.intro @ty_e94 (And.intro @ty_f94_0 (And.intro @ty_f94_1 (And.intro @ty_f94_2 (And.intro @ty_f94_3 (And.intro @ty_pl94 (And.intro @ty_t94 (And.intro @ty_c94 (And.intro @ty_y94 (And.intro @ty_u96 (And.intro @ty_z96 (And.intro @ty_a96 (And.intro @ty_i96 (And.intro @ty_s96 (And.intro @ty_b96 (And.intro @ty_e96 (And.intro @ty_r96 (And.intro @ty_u97 (And.intro @ty_z97 (And.intro @ty_a97 (And.intro @ty_i97 (And.intro @ty_s97 (And.intro @ty_b97 (And.intro @ty_e97 (And.intro @ty_f97_0 (And.intro @ty_pl97 (And.intro @ty_u98 (And.intro @ty_z98 (And.intro @ty_a98 (And.intro @ty_i98 (And.intro @ty_s98 (And.intro @ty_b98 (And.intro @ty_e98 (And.intro @ty_f98_0 (And.intro @ty_pl98 (And.intro @ty_u100 (And.intro @ty_z100 (And.intro @ty_a100 (And.intro @ty_i100 (And.intro @ty_s100 (And.intro @ty_b100 (And.intro @ty_e100 (And.intro @ty_t100 (And.intro @ty_c100 (And.intro @ty_y100 (And.intro @ty_u101 (And.intro @ty_z101 (And.intro @ty_a101 (And.intro @ty_i101 (And.intro @ty_s101 (And.intro @ty_b101 (And.intro @ty_e101 (And.intro @ty_t101 (And.intro @ty_c101 (And.intro @ty_y101 (And.intro @ty_u102 (And.intro @ty_u103 (And.intro @ty_z103 (And.intro @ty_a103 (And.intro @ty_i103 (And.intro @ty_s103 (And.intro @ty_b103 (And.intro @ty_e103 (And.intro @ty_t103 (And.intro @ty_c103 (And.intro @ty_y103 (And.intro @ty_u104 (And.intro @ty_z104 (And.intro @ty_a104 (And.intro @ty_i104 (And.intro @ty_s104 (And.intro @ty_b104 (And.intro @ty_e104 (And.intro @ty_t104 (And.intro @ty_c104 (And.intro @ty_y104 (And.intro @ty_u105 (And.intro @ty_z105 (And.intro @ty_a105 (And.intro @ty_i105 (And.intro @ty_s105 (And.intro @ty_b105 (And.intro @ty_e105 (And.intro @ty_f105_0 (And.intro @ty_f105_1 (And.intro @ty_f105_2 (And.intro @ty_f105_3 (And.intro @ty_f105_4 (And.intro @ty_f105_5 (And.intro @ty_f105_6 (And.intro @ty_f105_7 (And.intro @ty_f105_8 (And.intro @ty_f105_9 (And.intro @ty_f105_10 (And.intro @ty_pl105 (And.intro @ty_t105 (And.intro @ty_c105 (And.intro @ty_y105 (And.intro @ty_u106 (And.intro @ty_z106 (And.intro @ty_a106 (And.intro @ty_i106 (And.intro @ty_s106 (And.intro @ty_b106 (And.intro @ty_e106 (And.intro @ty_f106_0 (And.intro @ty_f106_1 (And.intro @ty_f106_2 (And.intro @ty_f106_3 (And.intro @ty_f106_4 (And.intro @ty_f106_5 (And.intro @ty_f106_6 (And.intro @ty_f106_7 (And.intro @ty_f106_8 (And.intro @ty_f106_9 (And.intro @ty_f106_10 (And.intro @ty_pl106 (And.intro @ty_t106 (And.intro @ty_c106 (@ty_y106)))))))))))))))))))))))))))))))))))))))))))))))))))))))))))))))))))))))))))))))))))))))))))))))))))))))))))))))))))))))))))))))))))))))))))))))))))))))))))))))))))))))))))))))))))))))))))))))))))))))))))))))))))))))))))))))))))))))))))))))))))))))))))))))))))))))))))))))))))))))))))))))))))))))))))))))))))))))))))))))))))))))))))))))))))))))))))))))))))))))))))))))))))))))))))))))))))))))))))))))))))))))))))))))))))))))))))))))))))))))))))))))))))))))))))))))))))))))))))))))))))))))))))))))))))))))))))))))))))))
end Go.Proofs.YtkgebocldjhflaaDoor
end
