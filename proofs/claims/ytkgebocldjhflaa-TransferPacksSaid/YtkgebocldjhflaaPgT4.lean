/-
  Frame, the program's and the reference's: of any tag and any body of octets (at most 2^31).
-/
import Derived.Test.YtkgebocldjhflaaPgT3
namespace Go.Proofs.Ytkgebocldjhflaa
open Go Go.Pg
set_option maxRecDepth 10000
set_option linter.unusedSimpArgs false

theorem shru (a k : Nat) (hk : k ≤ 32) : Int.fdiv (a : Int) (2 ^ min k IntKind.u32.bits) = ((a / 2 ^ k : Nat) : Int) := by
  have e : min k IntKind.u32.bits = k := by simp [IntKind.bits]; omega
  rw [e, show (2 : Int) ^ k = ((2 ^ k : Nat) : Int) by simp]
  rw [Int.fdiv_eq_ediv_of_nonneg _ (Int.natCast_nonneg _), Int.natCast_ediv]
theorem shr24 (a : Nat) : Int.fdiv (a : Int) (2 ^ min (Int.toNat 24) IntKind.u32.bits) = ((a / 16777216 : Nat) : Int) := shru a 24 (by omega)
theorem shr16 (a : Nat) : Int.fdiv (a : Int) (2 ^ min (Int.toNat 16) IntKind.u32.bits) = ((a / 65536 : Nat) : Int) := shru a 16 (by omega)
theorem shr8u (a : Nat) : Int.fdiv (a : Int) (2 ^ min (Int.toNat 8) IntKind.u32.bits) = ((a / 256 : Nat) : Int) := shru a 8 (by omega)
theorem bs4 (s : St) (a b c d : Nat) : buildSliceV Try.prog s 22 4 [(0, .c (.int .u8 (a : Int))), (1, .c (.int .u8 (b : Int))), (2, .c (.int .u8 (c : Int))), (3, .c (.int .u8 (d : Int)))] = some (.sl (.own s.nid 5) 1 (bv [a, b, c, d]), { s with nid := s.nid + 1 }) := by
  simp [buildSliceV, el22, ta5, ze5, setAll, cs_c_int, free_c, one_c_int, bv]
theorem be4_at (c : Nat) : [c / 16777216 % 256, c / 65536 % 256, c / 256 % 256, c % 256] = be 4 c := by
  simp [be, Nat.div_div_eq_div_mul]

theorem good9 (tag : Nat) (l : List Nat) (ht : tag < 256) (ho : oct l) (hl : l.length ≤ 2147483648) : Pg.Good Try.prog 9 [.c (.int .u8 (tag : Int)), .sl .fz 1 (bv l)] (frV tag l) := by
  refine good_intro (drawW_ok mix) Try.func9 rfl Try.results9 rfl (by kernel_rfl) (Nat.le_of_ble_eq_true (by kernel_rfl)) ?_
  unfold frV
  rcases Nat.lt_or_ge 1048576 l.length with h3 | h3
  · have e3 : decide ((1048576 : Int) < (l.length : Int)) = true := decide_eq_true (by omega)
    rw [if_neg (by omega)]
    simp only [Try.f9, pgs, pgl, pgx, Nat.reduceEqDiff, reduceIte, e3, el22, bv_len]
    refine ret_at [] _ (retV_two _ _ _ _) .nil ?_ ?_
    · simp only [pgs, pgl, pgx, Nat.reduceEqDiff, reduceIte]
    · simp only [pgs, pgl, pgx, Nat.reduceEqDiff, reduceIte]
  · have e3 : decide ((1048576 : Int) < (l.length : Int)) = false := decide_eq_false (by omega)
    rw [if_pos (by omega)]
    have hel := enc_len (n := l.length) (by omega)
    have hpl := pre_len (tag := tag) h3
    have hcl := chk_lt (pre tag l)
    simp only [Try.f9, pgs, pgl, pgx, Nat.reduceEqDiff, reduceIte, e3, el22, bv_len]
    refine callW_use _ (good13 l.length (by omega)) rfl rfl rfl rfl ?_
    simp (disch := first | omega | (simp [be_len]; omega)) only [pgs, pgl, pgx, Nat.reduceEqDiff, reduceIte, Nat.reduceAdd, bs1, app22, Nat.max_def, Nat.reduceLeDiff, Nat.reduceBEq]
    refine callW_use _ (good14 (pre tag l) (pre_oct ht ho h3) (by omega)) rfl rfl rfl rfl ?_
    simp (disch := first | omega | (simp [be_len]; omega)) only [pgs, pgl, pgx, Nat.reduceEqDiff, reduceIte, Nat.reduceAdd, app22, Nat.max_def, Nat.reduceLeDiff, Nat.reduceBEq, Int.reduceLT, shr24, shr16, shr8u, u8n, convV_int _ _ _ _ _ _ it5 un33, bs4, be4_at]
    refine ret_at [1] _ (retV_two _ _ _ _) (by decide) ?_ ?_
    · simp only [pgs, pgl, pgx, Nat.reduceEqDiff, reduceIte, Nat.reduceBEq] <;> rfl
    · simp only [pgs, pgl, pgx, Nat.reduceEqDiff, reduceIte, Nat.reduceBEq] <;> rfl

theorem good10 (tag : Nat) (l : List Nat) (ht : tag < 256) (ho : oct l) (hl : l.length ≤ 2147483648) : Pg.Good Try.prog 10 [.c (.int .u8 (tag : Int)), .sl .fz 1 (bv l)] (frV tag l) := by
  refine good_intro (drawW_ok mix) Try.func10 rfl Try.results10 rfl (by kernel_rfl) (Nat.le_of_ble_eq_true (by kernel_rfl)) ?_
  unfold frV
  rcases Nat.lt_or_ge 1048576 l.length with h3 | h3
  · have e3 : decide ((1048576 : Int) < (l.length : Int)) = true := decide_eq_true (by omega)
    rw [if_neg (by omega)]
    simp only [Try.f10, pgs, pgl, pgx, Nat.reduceEqDiff, reduceIte, e3, el22, bv_len]
    refine ret_at [] _ (retV_two _ _ _ _) .nil ?_ ?_
    · simp only [pgs, pgl, pgx, Nat.reduceEqDiff, reduceIte]
    · simp only [pgs, pgl, pgx, Nat.reduceEqDiff, reduceIte]
  · have e3 : decide ((1048576 : Int) < (l.length : Int)) = false := decide_eq_false (by omega)
    rw [if_pos (by omega)]
    have hel := enc_len (n := l.length) (by omega)
    have hpl := pre_len (tag := tag) h3
    have hcl := chk_lt (pre tag l)
    simp only [Try.f10, pgs, pgl, pgx, Nat.reduceEqDiff, reduceIte, e3, el22, bv_len, bs1]
    refine callW_use _ (good15 l.length (by omega)) rfl rfl rfl rfl ?_
    simp (disch := first | omega | (simp [be_len]; omega)) only [pgs, pgl, pgx, Nat.reduceEqDiff, reduceIte, Nat.reduceAdd, bs1, app22, Nat.max_def, Nat.reduceLeDiff, Nat.reduceBEq]
    refine callW_use _ (good16 (pre tag l) (pre_oct ht ho h3) (by omega)) rfl rfl rfl rfl ?_
    simp (disch := first | omega | (simp [be_len]; omega)) only [pgs, pgl, pgx, Nat.reduceEqDiff, reduceIte, Nat.reduceAdd, app22, Nat.max_def, Nat.reduceLeDiff, Nat.reduceBEq, Int.reduceLT, shr24, shr16, shr8u, u8n, convV_int _ _ _ _ _ _ it5 un33, bs4, be4_at]
    refine ret_at [0] _ (retV_two _ _ _ _) (by decide) ?_ ?_
    · simp only [pgs, pgl, pgx, Nat.reduceEqDiff, reduceIte, Nat.reduceBEq] <;> rfl
    · simp only [pgs, pgl, pgx, Nat.reduceEqDiff, reduceIte, Nat.reduceBEq] <;> rfl
end Go.Proofs.Ytkgebocldjhflaa
