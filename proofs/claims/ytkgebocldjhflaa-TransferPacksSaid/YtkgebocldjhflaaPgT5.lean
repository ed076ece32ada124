/-
  DecodeUint of any octets (at most 2^31): the number, how many were used, the error.
-/
import Derived.Test.YtkgebocldjhflaaPgT4
import Derived.Laws.BitsLemmas
import Derived.Laws.Bits64
namespace Go.Proofs.Ytkgebocldjhflaa
open Go Go.Pg
set_option maxRecDepth 10000
set_option linter.unusedSimpArgs false

theorem sl22 (l : List Nat) (k1 k2 : IntKind) (lo hi : Int) (h0 : 0 ≤ lo) (h1 : lo ≤ hi) (h2 : hi ≤ l.length) : slV Try.prog 22 (.sl .fz 1 (bv l)) (some (.c (.int k1 lo))) (some (.c (.int k2 hi))) = some (.sl .fz 1 (bv ((l.take hi.toNat).drop lo.toNat))) := by
  rw [slV_fz, el22]
  simp only [bdV_int, Option.bind_some, bv_len, bv_take, bv_drop]
  rw [if_pos ⟨ts5, h0, h1, h2⟩]
theorem sl22a (l : List Nat) (k1 : IntKind) (lo : Int) (h0 : 0 ≤ lo) (h2 : lo ≤ l.length) : slV Try.prog 22 (.sl .fz 1 (bv l)) (some (.c (.int k1 lo))) none = some (.sl .fz 1 (bv (l.drop lo.toNat))) := by
  rw [slV_fz, el22]
  simp only [bdV_int, bdV_none, Option.bind_some, bv_len, bv_take, bv_drop]
  rw [if_pos ⟨ts5, h0, h2, Int.le_refl _⟩]
  simp
theorem sl22b (l : List Nat) (k2 : IntKind) (hi : Int) (h0 : 0 ≤ hi) (h2 : hi ≤ l.length) : slV Try.prog 22 (.sl .fz 1 (bv l)) none (some (.c (.int k2 hi))) = some (.sl .fz 1 (bv (l.take hi.toNat))) := by
  rw [slV_fz, el22]
  simp only [bdV_int, bdV_none, Option.bind_some, bv_len, bv_take, bv_drop]
  rw [if_pos ⟨ts5, by simp, h0, h2⟩]
  simp

theorem u64w (n : Int) (h : 0 ≤ n ∧ n ≤ 18446744073709551615) : IntKind.u64.wrap n = n := IntWalk.u64_in n h
theorem or_acc (x c : Nat) (hx : x < 72057594037927936) (hc : c < 256) : bits .or .u64 (IntKind.u64.wrap ((x : Int) * 2 ^ min (Int.toNat 8) IntKind.u64.bits)) (c : Int) = ((x * 256 + c : Nat) : Int) := by
  have e : (2 : Int) ^ min (Int.toNat 8) IntKind.u64.bits = 256 := rfl
  rw [e, u64w _ (by omega)]
  rw [bits_join .u64 64 (by decide) (fun n h0 h1 => u64w n ⟨h0, by omega⟩) 8 _ _ (by omega) (by omega) (by omega) (by omega) (by omega) (by omega)]
  omega

def acc (l : List Nat) : Nat := l.foldl (fun x c => x * 256 + c) 0
theorem acc_snoc (l : List Nat) (c : Nat) : acc (l ++ [c]) = acc l * 256 + c := by simp [acc]
theorem acc_lt : ∀ (n : Nat) (l : List Nat), l.length = n → oct l → acc l < 256 ^ n := by
  intro n
  induction n with
  | zero => intro l h _; simp at h; subst h; simp [acc]
  | succ n ih =>
    intro l h ho
    rcases List.eq_nil_or_concat l with rfl | ⟨L, b, rfl⟩
    · simp at h
    · have h1 := ih L (by simp at h; exact h) (fun x hx => ho x (by simp [hx]))
      have h2 := ho b (by simp)
      rw [List.concat_eq_append, acc_snoc, Nat.pow_succ]
      omega
/-- The octets from the second to the i-th. -/
def mid (l : List Nat) (i : Nat) : List Nat := (l.take i).drop 1
theorem mid_next {l : List Nat} {i : Nat} (h1 : 1 ≤ i) (h : i < l.length) : mid l (i + 1) = mid l i ++ [l.getD i 0] := by
  unfold mid
  rw [List.take_succ_eq_append_getElem h, List.drop_append_of_le_length (by simp; omega)]
  simp [List.getD, h]
theorem mid_oct {l : List Nat} (h : oct l) (i : Nat) : oct (mid l i) := fun x hx => h x (List.mem_of_mem_take (List.mem_of_mem_drop hx))
theorem mid_len {l : List Nat} {i : Nat} (h : i ≤ l.length) : (mid l i).length = i - 1 := by simp [mid]; omega
theorem accm_lt {l : List Nat} {i : Nat} (ho : oct l) (h : i ≤ l.length) : acc (mid l i) < 256 ^ (i - 1) := acc_lt _ _ (mid_len h) (mid_oct ho i)
theorem mid_get {l : List Nat} {i k : Nat} (h : i + 1 < k) : (mid l k).getD i 0 = l.getD (i + 1) 0 := by
  simp only [mid, List.getD, List.getElem?_drop, List.getElem?_take, Nat.add_comm 1 i]
  rw [if_pos h]

def decN (l : List Nat) : Nat × Nat × Nat :=
  if l.length = 0 then (0, 0, 3) else
  if l.getD 0 0 < 248 then (l.getD 0 0, 1, 0) else
  if l.length < l.getD 0 0 - 246 then (0, 0, 3) else
  if l.getD 1 0 = 0 ∨ acc (mid l (l.getD 0 0 - 246)) < 248 ∨ 4611686018427387904 < acc (mid l (l.getD 0 0 - 246)) then (0, 0, 2) else (acc (mid l (l.getD 0 0 - 246)), l.getD 0 0 - 246, 0)
def tri (p : Nat × Nat × Nat) : V := .tup [.c (.int .i64 p.1), .c (.int .i64 p.2.1), .c (.int .i64 p.2.2)]

theorem dec_cases (b x : Nat) : (((b : Nat) : Int) == 0) = true ∧ True ∧ True ∧ (b = 0 ∨ x < 248 ∨ 4611686018427387904 < x) ∨
    (((b : Nat) : Int) == 0) = false ∧ decide (((x : Nat) : Int) < 248) = true ∧ True ∧ (b = 0 ∨ x < 248 ∨ 4611686018427387904 < x) ∨
    (((b : Nat) : Int) == 0) = false ∧ decide (((x : Nat) : Int) < 248) = false ∧ decide (4611686018427387904 < ((x : Nat) : Int)) = true ∧ (b = 0 ∨ x < 248 ∨ 4611686018427387904 < x) ∨
    (((b : Nat) : Int) == 0) = false ∧ decide (((x : Nat) : Int) < 248) = false ∧ decide (4611686018427387904 < ((x : Nat) : Int)) = false ∧ ¬ (b = 0 ∨ x < 248 ∨ 4611686018427387904 < x) := by
  rcases Nat.eq_zero_or_pos b with h | h
  · exact .inl ⟨by rw [h]; rfl, trivial, trivial, .inl h⟩
  · have e : (((b : Nat) : Int) == 0) = false := by rw [beq_eq_false_iff_ne]; omega
    rcases Nat.lt_or_ge x 248 with h1 | h1
    · exact .inr (.inl ⟨e, decide_eq_true (by omega), trivial, .inr (.inl h1)⟩)
    · rcases Nat.lt_or_ge 4611686018427387904 x with h2 | h2
      · exact .inr (.inr (.inl ⟨e, decide_eq_false (by omega), decide_eq_true (by omega), .inr (.inr h2)⟩))
      · exact .inr (.inr (.inr ⟨e, decide_eq_false (by omega), decide_eq_false (by omega), by omega⟩))
theorem good18 (l : List Nat) (ho : oct l) (hl : l.length ≤ 2147483648) : Pg.Good Try.prog 18 [.sl .fz 1 (bv l)] (tri (decN l)) := by
  refine good_intro (drawW_ok mix) Try.func18 rfl Try.results18 rfl (by kernel_rfl) (Nat.le_of_ble_eq_true (by kernel_rfl)) ?_
  unfold decN
  rcases Nat.eq_zero_or_pos l.length with h0 | h0
  · have e1 : ((l.length : Int) == 0) = true := by rw [h0]; rfl
    rw [if_pos h0]
    simp only [Try.f18, pgs, pgl, pgx, Nat.reduceEqDiff, reduceIte, e1, el22, bv_len]
    refine ret_at [] _ (retV_three _ _ _ _ _) .nil ?_ ?_
    · simp only [pgs, pgl, pgx, Nat.reduceEqDiff, reduceIte]
    · simp only [pgs, pgl, pgx, Nat.reduceEqDiff, reduceIte, tri] <;> rfl
  have e1 : ((l.length : Int) == 0) = false := by rw [beq_eq_false_iff_ne]; omega
  rw [if_neg (by omega)]
  have hc := getD_lt ho 0
  generalize hcd : l.getD 0 0 = c at hc
  rcases Nat.lt_or_ge c 248 with h1 | h1
  · have e2 : decide ((c : Int) < 248) = true := decide_eq_true (by omega)
    rw [if_pos h1]
    simp (disch := omega) only [Try.f18, pgs, pgl, pgx, Nat.reduceEqDiff, reduceIte, e1, el22, bv_len, ia22, Int.reduceToNat, bv_get, ld5, hcd, e2, convV_int _ _ _ _ _ _ it3 un5, i64w]
    refine ret_at [] _ (retV_three _ _ _ _ _) .nil ?_ ?_
    · simp only [pgs, pgl, pgx, Nat.reduceEqDiff, reduceIte]
    · simp only [pgs, pgl, pgx, Nat.reduceEqDiff, reduceIte, tri] <;> rfl
  have e2 : decide ((c : Int) < 248) = false := decide_eq_false (by omega)
  rw [if_neg (by omega)]
  obtain ⟨k, rfl⟩ : ∃ k, c = k + 247 := ⟨c - 247, by omega⟩
  have ek : ((k + 247 : Nat) : Int) - 248 + 1 = (k : Int) := by omega
  have ek1 : 1 + (k : Int) = ((k + 1 : Nat) : Int) := by omega
  have ek2 : k + 247 - 246 = k + 1 := by omega
  rw [ek2]
  rcases Nat.lt_or_ge l.length (k + 1) with h2 | h2
  · have e3 : decide ((l.length : Int) < ((k + 1 : Nat) : Int)) = true := decide_eq_true (by omega)
    rw [if_pos h2]
    simp (disch := omega) only [Try.f18, pgs, pgl, pgx, Nat.reduceEqDiff, reduceIte, e1, el22, bv_len, ia22, Int.reduceToNat, bv_get, ld5, hcd, e2, convV_int _ _ _ _ _ _ it3 un5, i64w, ek, ek1, e3]
    refine ret_at [] _ (retV_three _ _ _ _ _) .nil ?_ ?_
    · simp only [pgs, pgl, pgx, Nat.reduceEqDiff, reduceIte]
    · simp only [pgs, pgl, pgx, Nat.reduceEqDiff, reduceIte, tri] <;> rfl
  have e3 : decide ((l.length : Int) < ((k + 1 : Nat) : Int)) = false := decide_eq_false (by omega)
  rw [if_neg (by omega)]
  have hml : (mid l (k + 1)).length = k := by rw [mid_len h2]; omega
  have emid : (l.take (k + 1)).drop 1 = mid l (k + 1) := rfl
  simp (disch := omega) only [Try.f18, pgs, pgl, pgx, Nat.reduceEqDiff, reduceIte, e1, el22, bv_len, ia22, Int.reduceToNat, bv_get, ld5, hcd, e2, convV_int _ _ _ _ _ _ it3 un5, i64w, ek, ek1, e3, sl22, Int.toNat_natCast, emid, hml]
  refine loop_at (fun i => mkS [.sl .fz 1 (bv l), .top, .top, .top, .top, .c (.int .i64 k), .c (.int .u64 (acc (mid l (i + 1)) : Nat)), .top, .top, .top,
    .top, .top, .top, .top, .top, .top, .top, .top, .top, .top, .top, .top, .top, .top, .top, .top, .top, .top, .top, .top, .top, .top, .top, .top, .sl .fz 1 (bv (mid l (k + 1))), .c (.int .i64 k), .c (.int .i64 (i : Nat))] 0) (fun i => i ≤ k) (fun i => k - i) 0 [] [] ?_ (Nat.zero_le _) ?_
  · refine keep_mk ?_ .nil (Nat.le_refl _)
    simp only [pgs, pgl, pgx, GenE_cons, GenE_nil, gen_top, gen_c, gen_fz, Nat.reduceEqDiff, reduceIte, Nat.reduceAdd]
    have : acc (mid l 1) = 0 := by
      have := accm_lt (l := l) (i := 1) ho (by omega)
      simpa using this
    simp only [this]
    exact ⟨of_eq_true (gen_c _ _ _), of_eq_true (gen_c _ _ _)⟩
  · intro i hi s hs
    simp only [mkS_at, pgs, pgl, Nat.reduceAdd] at hs
    subst hs
    have hb := getD_lt ho (i + 1)
    have ha := accm_lt (l := l) (i := i + 1) ho (by omega)
    rw [Nat.add_sub_cancel] at ha
    rcases Nat.lt_or_ge i k with hlt | hge
    · have e4 : decide ((i : Int) < (k : Int)) = true := decide_eq_true (by omega)
      have hp : 256 ^ i ≤ 256 ^ 7 := Nat.pow_le_pow_right (by omega) (by omega)
      have e5 := mid_get (l := l) (i := i) (k := k + 1) (by omega)
      have e6 : acc (mid l (i + 1)) * 256 + l.getD (i + 1) 0 = acc (mid l (i + 1 + 1)) := by rw [mid_next (l := l) (i := i + 1) (by omega) (by omega), acc_snoc]
      simp (disch := omega) only [pgs, pgl, pgx, Nat.reduceEqDiff, reduceIte, Nat.reduceAdd, e4, ia22, Int.toNat_natCast, bv_get, ld5, e5, convV_int _ _ _ _ _ _ it39 un5, u64w, or_acc, e6, i64w, Int.reduceLT, headC_normal]
      refine back_at (i + 1) [] [] (by omega) (by omega) (keep_mk ?_ .nil (Nat.le_refl _))
      simp only [pgs, pgl, pgx, GenE_cons, GenE_nil, gen_top, gen_c, gen_fz, Nat.reduceEqDiff, reduceIte, Nat.reduceAdd, Int.natCast_add, Int.cast_ofNat_Int]
    · have hik : i = k := by omega
      subst hik
      have e4 : decide ((i : Int) < (i : Int)) = false := decide_eq_false (by omega)
      have hfin := dec_cases (l.getD 1 0) (acc (mid l (i + 1)))
      rcases hfin with ⟨f1, f2, f3, f4⟩ | ⟨f1, f2, f3, f4⟩ | ⟨f1, f2, f3, f4⟩ | ⟨f1, f2, f3, f4⟩
      all_goals
        simp (disch := omega) only [pgs, pgl, pgx, Nat.reduceEqDiff, reduceIte, Nat.reduceAdd, e4, ia22, Int.reduceToNat, bv_get, ld5, f1, f2, f3, f4, convV_int _ _ _ _ _ _ it3 un39, i64w, ek1, headC_exit]
        refine ret_at [] _ (retV_three _ _ _ _ _) .nil ?_ ?_
        · simp only [pgs, pgl, pgx, Nat.reduceEqDiff, reduceIte]
        · simp only [pgs, pgl, pgx, Nat.reduceEqDiff, reduceIte, tri] <;> rfl
end Go.Proofs.Ytkgebocldjhflaa
