/-
  The law TransferPacks returns true for all octets, all places and all octets to change by.
-/
import Derived.Test.YtkgebocldjhflaaPgT10
import Derived.Laws.BitsAllLaws
namespace Go.Proofs.Ytkgebocldjhflaa
open Go Go.Pg
set_option maxRecDepth 10000
set_option linter.unusedSimpArgs false

theorem storeK_el (P : Program) (s : St) (d : Option Nat) (t : TypeId) (id : Nat) (e : TypeId) (k : Nat) (xs : List V) (i off : Nat) (y : V) (K : Kd → St → Prop) : storeK P s d t (.el (.own id e) k xs i off) y K = optK ((storeE P s t id k xs i off y).map fun s' => (.top, s')) d .x K := rfl
theorem setOwn_own (id k i : Nat) (x : V) (j : Nat) (e : TypeId) (k' : Nat) (xs : List V) : setOwn id k i x (.sl (.own j e) k' xs) = if j = id then (if k' = k then .sl (.own j e) k' (xs.set i x) else .top) else .sl (.own j e) k' xs := rfl
theorem setOwn_c (id k i : Nat) (x : V) (v : Value) : setOwn id k i x (.c v) = .c v := rfl
theorem setOwn_fz (id k i : Nat) (x : V) (k' : Nat) (xs : List V) : setOwn id k i x (.sl .fz k' xs) = .sl .fz k' xs := rfl
theorem bv_set (l : List Nat) (i v : Nat) : (bv l).set i (.c (.int .u8 (v : Int))) = bv (l.set i v) := by simp [bv, List.map_set]
theorem st5 (s : St) (id : Nat) (l : List Nat) (i v : Nat) (h : i < l.length) : storeE Try.prog s 5 id 1 (bv l) i 0 (.c (.int .u8 (v : Int))) = some (s.mapV (setOwn id 1 i (.c (.int .u8 (v : Int))))) := by
  unfold storeE
  rw [bv_get l i h]
  simp [cs_c_int, rebuild, one_c_int, ts5, free_c]
theorem set_oct {l : List Nat} (h : oct l) {i v : Nat} (hv : v < 256) : oct (l.set i v) := by
  intro b hb
  rcases List.mem_or_eq_of_mem_set hb with hb | rfl
  · exact h b hb
  · exact hv
theorem and_rng (a : Int) : 0 ≤ bits .and .i64 a 65535 ∧ bits .and .i64 a 65535 ≤ 65535 := by
  have e : bits .and .i64 a 65535 = IntKind.i64.wrap ((BitVec.ofInt 64 a &&& BitVec.ofInt 64 65535).toNat : Int) := rfl
  have h1 : (BitVec.ofInt 64 a &&& BitVec.ofInt 64 65535).toNat ≤ 65535 := by
    rw [BitVec.toNat_and]
    exact Nat.le_trans Nat.and_le_right (by decide)
  rw [e, i64w _ (by omega)]
  omega
theorem xor_lt {a b : Nat} (ha : a < 256) (hb : b < 256) : a ^^^ b < 256 := Nat.xor_lt_two_pow (n := 8) ha hb

theorem good3 (b c : List Nat) (at_ : Int) (by_ : Nat) (hb : oct b) (hc : oct c) (hy : by_ < 256) :
    Pg.Good Try.prog 3 [.sl .fz 1 (bv b), .sl .fz 1 (bv c), .c (.int .i64 at_), .c (.int .u8 (by_ : Int))] (.c (.bool true)) := by
  refine good_intro (drawW_ok mix) Try.func3 rfl Try.results3 rfl (by kernel_rfl) (Nat.le_of_ble_eq_true (by kernel_rfl)) ?_
  have hfirst : (decide ((500 : Int) < (b.length : Int)) = true ∧ True) ∨ (decide ((500 : Int) < (b.length : Int)) = false ∧ decide ((500 : Int) < (c.length : Int)) = true) ∨ (b.length ≤ 500 ∧ c.length ≤ 500) := by
    rcases Nat.lt_or_ge 500 b.length with h | h
    · exact .inl ⟨decide_eq_true (by omega), trivial⟩
    · rcases Nat.lt_or_ge 500 c.length with h' | h'
      · exact .inr (.inl ⟨decide_eq_false (by omega), decide_eq_true (by omega)⟩)
      · exact .inr (.inr ⟨h, h'⟩)
  rcases hfirst with ⟨e1, e2⟩ | ⟨e1, e2⟩ | ⟨h1, h2⟩
  · simp only [Try.f3, pgs, pgl, pgx, Nat.reduceEqDiff, reduceIte, el22, bv_len, e1]
    refine callW_use _ good4 rfl rfl rfl rfl ?_
    simp only [pgs, pgl, pgx, Nat.reduceEqDiff, reduceIte]
    refine ret_at [] _ (retV_one _ _ _) .nil ?_ ?_
    · simp only [pgs, pgl, pgx, Nat.reduceEqDiff, reduceIte]
    · simp only [pgs, pgl, pgx, Nat.reduceEqDiff, reduceIte]
  · simp only [Try.f3, pgs, pgl, pgx, Nat.reduceEqDiff, reduceIte, el22, bv_len, e1, e2]
    refine callW_use _ good4 rfl rfl rfl rfl ?_
    simp only [pgs, pgl, pgx, Nat.reduceEqDiff, reduceIte]
    refine ret_at [] _ (retV_one _ _ _) .nil ?_ ?_
    · simp only [pgs, pgl, pgx, Nat.reduceEqDiff, reduceIte]
    · simp only [pgs, pgl, pgx, Nat.reduceEqDiff, reduceIte]
  · have e1 : decide ((500 : Int) < (b.length : Int)) = false := decide_eq_false (by omega)
    have e2 : decide ((500 : Int) < (c.length : Int)) = false := decide_eq_false (by omega)
    have hfo := fr_oct (t := 88) (by omega) hb (by omega)
    have hfl := fr_len (t := 88) (b := b) (by omega)
    have hfp : 0 < (fr 88 b).length := by simp [fr, pre]
    have hG5 := good5 b hb (by omega)
    have hG6 := good6 b hb (by omega)
    generalize fr 88 b = y at hfo hfl hfp hG5 hG6
    simp only [Try.f3, pgs, pgl, pgx, Nat.reduceEqDiff, reduceIte, el22, bv_len, e1, e2]
    refine callW_use _ hG5 rfl rfl rfl rfl ?_
    simp only [pgs, pgl, pgx, Nat.reduceEqDiff, reduceIte, Nat.reduceAdd]
    refine callW_use _ hG6 rfl rfl rfl rfl ?_
    obtain ⟨ha1, ha2⟩ := and_rng at_
    generalize hA : bits .and .i64 at_ 65535 = A at ha1 ha2
    have hr1 : 0 ≤ A.tmod (y.length : Int) := Int.tmod_nonneg _ ha1
    have hr2 : A.tmod (y.length : Int) < (y.length : Int) := Int.tmod_lt_of_pos _ (by omega)
    have hz : ((y.length : Int) = 0) = False := eq_false (by omega)
    generalize hR : A.tmod (y.length : Int) = R at hr1 hr2
    have hbR := getD_lt hfo R.toNat
    have hx := u8_xor_nat (y.getD R.toNat 0) by_ hbR hy
    have hxl := xor_lt hbR hy
    have hdo := set_oct hfo (i := R.toNat) hxl
    simp (disch := omega) only [app22n, hA, el22, bv_len, hz, hR, ia22, bv_get, ld5, hx, storeK_el, st5, pgs, pgl, pgx, Nat.reduceEqDiff, reduceIte, Nat.reduceAdd, put_none, bs1, app22, beq_self_eq_true, convK_sl, decide_true, setOwn_own, setOwn_c, setOwn_fz, bv_set, Nat.reduceBEq, Nat.max_def, Nat.reduceLeDiff]
    refine callW_use _ (good7 c hc (by omega)) rfl rfl rfl rfl ?_
    simp only [pgs, pgl, pgx, Nat.reduceEqDiff, reduceIte, Nat.reduceAdd, put_none, bs1, app22, beq_self_eq_true, convK_sl, decide_true, setOwn_own, setOwn_c, setOwn_fz, bv_set, Nat.reduceBEq, Nat.max_def, Nat.reduceLeDiff]
    refine callW_use _ (good7 y hfo (by omega)) rfl rfl rfl rfl ?_
    simp only [pgs, pgl, pgx, Nat.reduceEqDiff, reduceIte, Nat.reduceAdd, put_none, bs1, app22, beq_self_eq_true, convK_sl, decide_true, setOwn_own, setOwn_c, setOwn_fz, bv_set, Nat.reduceBEq, Nat.max_def, Nat.reduceLeDiff]
    refine callW_use _ (good7 _ hdo (by rw [List.length_set]; omega)) rfl rfl rfl rfl ?_
    simp (disch := first | omega | (simp; omega)) only [pgs, pgl, pgx, Nat.reduceEqDiff, reduceIte, Nat.reduceAdd, put_none, bs1, app22, beq_self_eq_true, convK_sl, decide_true, setOwn_own, setOwn_c, setOwn_fz, bv_set, Nat.reduceBEq, Nat.max_def, Nat.reduceLeDiff]
    refine callW_use _ (good7 (y ++ [by_]) (oct_app hfo (oct_one hy)) (by simp; omega)) rfl rfl rfl rfl ?_
    simp only [pgs, pgl, pgx, Nat.reduceEqDiff, reduceIte, Nat.reduceAdd, put_none, bs1, app22, beq_self_eq_true, convK_sl, decide_true, setOwn_own, setOwn_c, setOwn_fz, bv_set, Nat.reduceBEq, Nat.max_def, Nat.reduceLeDiff]
    refine callW_use _ good4 rfl rfl rfl rfl ?_
    simp only [pgs, pgl, pgx, Nat.reduceEqDiff, reduceIte, Nat.reduceAdd, put_none, bs1, app22, beq_self_eq_true, convK_sl, decide_true, setOwn_own, setOwn_c, setOwn_fz, bv_set, Nat.reduceBEq, Nat.max_def, Nat.reduceLeDiff]
    refine ret_at [] _ (retV_one _ _ _) .nil ?_ ?_
    · simp only [pgs, pgl, pgx, Nat.reduceEqDiff, reduceIte]
    · simp only [pgs, pgl, pgx, Nat.reduceEqDiff, reduceIte]
end Go.Proofs.Ytkgebocldjhflaa
