/-
  The program's and the reference's checksum give the same number for all octets (fewer than 2^32); numbers written in base 256.
-/
import Derived.Test.YtkgebocldjhflaaPgUse
import Derived.Test.YtkgebocldjhflaaProg
namespace Go.Proofs.Ytkgebocldjhflaa
open Go Go.Pg
set_option maxRecDepth 10000
set_option linter.unusedSimpArgs false
theorem el22 : elemT Try.prog 22 = some 5 := by kernel_rfl
theorem ta5 : tapp Try.prog 5 = some (1, 1) := by kernel_rfl
theorem ts5 : tsz Try.prog 5 = some 1 := by kernel_rfl
theorem ag5 : isAggT Try.prog 5 = some false := by kernel_rfl
theorem ze5 : zelem Try.prog 5 = some (.c (.int .u8 0)) := by kernel_rfl
theorem it5 : intT Try.prog 5 = some .u8 := by kernel_rfl
theorem it3 : intT Try.prog 3 = some .i64 := by kernel_rfl
theorem it33 : intT Try.prog 33 = some .u32 := by kernel_rfl
theorem it39 : intT Try.prog 39 = some .u64 := by kernel_rfl
theorem un3 : (Try.prog.underlying 3).isSome = true := by kernel_rfl
theorem un5 : (Try.prog.underlying 5).isSome = true := by kernel_rfl
theorem un33 : (Try.prog.underlying 33).isSome = true := by kernel_rfl
theorem un39 : (Try.prog.underlying 39).isSome = true := by kernel_rfl
theorem ld5 (v : Value) : ldCells Try.prog 5 [.c v] 0 = some (.c v) := by
  simp [ldCells, ag5]
theorem mix : Try.prog.follows .mixedOrders = true := by kernel_rfl

/-- All octets. -/
def oct (l : List Nat) : Prop := ∀ b ∈ l, b < 256
/-- Octets as cells. -/
def bv (l : List Nat) : List V := l.map fun (b : Nat) => V.c (.int .u8 (b : Int))
theorem bv_len (l : List Nat) : (bv l).length = l.length := by simp [bv]
theorem bv_get (l : List Nat) (i : Nat) (h : i < l.length) : (bv l)[i]? = some (.c (.int .u8 (l.getD i 0 : Nat))) := by simp [bv, h, List.getD]
theorem getD_lt {l : List Nat} (h : oct l) (i : Nat) : l.getD i 0 < 256 := by
  rcases Nat.lt_or_ge i l.length with h1 | h1
  · simp only [List.getD, List.getElem?_eq_getElem h1, Option.getD_some]; exact h _ (List.getElem_mem h1)
  · simp [List.getD, h1]
theorem ia22 (l : List Nat) (tg : Tag) (ik : IntKind) (n : Int) (h0 : 0 ≤ n) (h : n < l.length) : iaV Try.prog 22 (.sl tg 1 (bv l)) (.c (.int ik n)) = some (.el tg 1 (bv l) n.toNat 0) := by
  rw [iaV_sl, el22, if_pos ⟨by simp [ts5], h0, by rw [bv_len]; exact h⟩]
theorem bv_app (l l' : List Nat) : bv l ++ bv l' = bv (l ++ l') := by simp [bv]
theorem bv_one (a : Nat) : [V.c (.int .u8 a)] = bv [a] := rfl
theorem bv_take (l : List Nat) (n : Nat) : (bv l).take n = bv (l.take n) := by simp [bv, List.map_take]
theorem bv_drop (l : List Nat) (n : Nat) : (bv l).drop n = bv (l.drop n) := by simp [bv, List.map_drop]

/-! ### The checksum -/
def adS (p : Nat × Nat) (c : Nat) : Nat × Nat := ((p.1 + c) % 65521, (p.2 + (p.1 + c) % 65521) % 65521)
def ad (l : List Nat) : Nat × Nat := l.foldl adS (1, 0)
def chk (l : List Nat) : Nat := (ad l).2 * 65536 + (ad l).1
theorem ad_lt (l : List Nat) : (ad l).1 < 65521 ∧ (ad l).2 < 65521 := by
  unfold ad
  rcases List.eq_nil_or_concat l with rfl | ⟨L, b, rfl⟩
  · simp
  · simp [adS]; omega
theorem ad_next {l : List Nat} {i : Nat} (h : i < l.length) : ad (l.take (i + 1)) = adS (ad (l.take i)) (l.getD i 0) := by
  have e : l.getD i 0 = l[i] := by simp [List.getD, h]
  rw [e]
  unfold ad
  rw [List.take_succ_eq_append_getElem h, List.foldl_append]
  rfl

theorem u32w (n : Int) (h : 0 ≤ n ∧ n ≤ 4294967295) : IntKind.u32.wrap n = n := IntWalk.u32_in n h
theorem i64w (n : Int) (h : -9223372036854775808 ≤ n ∧ n ≤ 9223372036854775807) : IntKind.i64.wrap n = n := IntWalk.i64_in n h
theorem u8w (n : Int) (h : 0 ≤ n ∧ n ≤ 255) : IntKind.u8.wrap n = n := IntWalk.u8_in n h
theorem tmod_cast (a b m : Nat) : ((a : Int) + (b : Int)).tmod (m : Int) = (((a + b) % m : Nat) : Int) := by
  rw [← Int.natCast_add]; rfl
theorem tmod_ad (a b : Nat) : ((a : Int) + (b : Int)).tmod 65521 = (((a + b) % 65521 : Nat) : Int) := tmod_cast a b 65521
theorem shl16 (a : Int) : IntKind.u32.wrap (a * 2 ^ min (Int.toNat 16) IntKind.u32.bits) = IntKind.u32.wrap (a * 65536) := rfl
theorem good14 (l : List Nat) (ho : oct l) (hl : l.length < 4294967296) : Pg.Good Try.prog 14 [.sl .fz 1 (bv l)] (.c (.int .u32 (chk l))) := by
  refine good_intro (drawW_ok mix) Try.func14 rfl Try.results14 rfl (by kernel_rfl) (Nat.le_of_ble_eq_true (by kernel_rfl)) ?_
  simp only [Try.f14, pgs, pgl, pgx, Nat.reduceEqDiff, reduceIte, el22]
  refine loop_at (fun i => mkS [.sl .fz 1 (bv l), .top, .top, .c (.int .u32 (ad (l.take i)).1), .c (.int .u32 (ad (l.take i)).2), .top, .top, .sl .fz 1 (bv l), .c (.int .i64 l.length), .c (.int .i64 i)] 0) (fun i => i ≤ l.length) (fun i => l.length - i) 0 [] [] ?_ (Nat.zero_le _) ?_
  · refine keep_mk ?_ .nil (Nat.le_refl _)
    simp only [pgs, pgl, pgx, GenE_cons, GenE_nil, gen_top, gen_c, gen_fz, Nat.reduceEqDiff, reduceIte, bv_len, Nat.reduceAdd]
    exact ⟨of_eq_true (gen_c _ _ _), of_eq_true (gen_c _ _ _), of_eq_true (gen_c _ _ _)⟩
  · intro i hi s hs
    simp only [mkS_at, pgs, pgl, Nat.reduceAdd] at hs
    subst hs
    simp only [pgs, pgl, pgx, Nat.reduceEqDiff, reduceIte, Nat.reduceAdd]
    refine cond_at (fun ht => ?_) (fun hf => ?_)
    · have hlt : i < l.length := by simpa using ht
      have e := ad_next hlt
      have h1 := ad_lt (l.take i)
      have hb := getD_lt ho i
      simp (disch := omega) only [pgs, pgl, pgx, headC_normal, Nat.reduceEqDiff, reduceIte, el22, Nat.reduceAdd, ia22, Int.toNat_natCast, bv_get, ld5, convV_int _ _ _ _ _ _ it33 un5, u32w, i64w, tmod_ad, Int.reduceEq]
      refine back_at (i + 1) [] [] (by omega) (by omega) (keep_mk ?_ .nil (Nat.le_refl _))
      simp only [pgs, pgl, pgx, GenE_cons, GenE_nil, gen_top, gen_c, gen_fz, Nat.reduceEqDiff, reduceIte, Nat.reduceAdd, e, adS, Int.natCast_add, Int.cast_ofNat_Int]
    · have hge : i = l.length := by simp at hf; omega
      subst hge
      have h1 := ad_lt (l.take l.length)
      rw [List.take_length] at h1
      simp (disch := omega) only [pgs, pgl, pgx, headC_exit, Nat.reduceEqDiff, reduceIte, el22, Nat.reduceAdd, Int.reduceLT, List.take_length, shl16, u32w]
      refine ret_at [] _ (retV_one _ _ _) .nil ?_ ?_
      · simp only [pgs, pgl, pgx, Nat.reduceEqDiff, reduceIte]
      · simp only [pgs, pgl, pgx, Nat.reduceEqDiff, reduceIte, chk, Int.natCast_add, Int.natCast_mul, Int.cast_ofNat_Int]
theorem len22 (tg : Tag) (k : Nat) (xs : List V) : lenV Try.prog 22 (.sl tg k xs) = some (.c (.int .i64 xs.length)) := by rw [lenV_sl, el22]; rfl
theorem len22n (n c : Nat) : lenV Try.prog 22 (.c (.slice none n c)) = some (.c (.int .i64 n)) := by rw [lenV_nil, el22]; rfl
theorem u32m (a : Int) : IntKind.u32.wrap (a * 65536) = IntKind.u32.wrap (a * 65536) := rfl
theorem good16 (l : List Nat) (ho : oct l) (hl : l.length < 4294967296) : Pg.Good Try.prog 16 [.sl .fz 1 (bv l)] (.c (.int .u32 (chk l))) := by
  refine good_intro (drawW_ok mix) Try.func16 rfl Try.results16 rfl (by kernel_rfl) (Nat.le_of_ble_eq_true (by kernel_rfl)) ?_
  simp only [Try.f16, pgs, pgl, pgx, Nat.reduceEqDiff, reduceIte, el22]
  refine loop_at (fun i => mkS [.sl .fz 1 (bv l), .top, .top, .c (.int .u32 (ad (l.take i)).1), .c (.int .u32 (ad (l.take i)).2), .c (.int .i64 i)] 0) (fun i => i ≤ l.length) (fun i => l.length - i) 0 [] [] ?_ (Nat.zero_le _) ?_
  · refine keep_mk ?_ .nil (Nat.le_refl _)
    simp only [pgs, pgl, pgx, GenE_cons, GenE_nil, gen_top, gen_c, gen_fz, Nat.reduceEqDiff, reduceIte, bv_len, Nat.reduceAdd]
    exact ⟨of_eq_true (gen_c _ _ _), of_eq_true (gen_c _ _ _), of_eq_true (gen_c _ _ _)⟩
  · intro i hi s hs
    simp only [mkS_at, pgs, pgl, Nat.reduceAdd] at hs
    subst hs
    simp only [pgs, pgl, pgx, Nat.reduceEqDiff, reduceIte, Nat.reduceAdd, el22, bv_len]
    refine cond_at (fun ht => ?_) (fun hf => ?_)
    · have hlt : i < l.length := by simpa using ht
      have e := ad_next hlt
      have h1 := ad_lt (l.take i)
      have hb := getD_lt ho i
      simp (disch := omega) only [pgs, pgl, pgx, headC_normal, Nat.reduceEqDiff, reduceIte, Nat.reduceAdd, ia22, Int.toNat_natCast, bv_get, ld5, convV_int _ _ _ _ _ _ it33 un5, u32w, i64w, tmod_ad, Int.reduceEq]
      refine back_at (i + 1) [] [] (by omega) (by omega) (keep_mk ?_ .nil (Nat.le_refl _))
      simp only [pgs, pgl, pgx, GenE_cons, GenE_nil, gen_top, gen_c, gen_fz, Nat.reduceEqDiff, reduceIte, Nat.reduceAdd, e, adS, Int.natCast_add, Int.cast_ofNat_Int]
    · have hge : i = l.length := by simp at hf; omega
      subst hge
      have h1 := ad_lt (l.take l.length)
      rw [List.take_length] at h1
      simp (disch := omega) only [pgs, pgl, pgx, headC_exit, Nat.reduceEqDiff, reduceIte, Nat.reduceAdd, Int.reduceLT, List.take_length, u32w]
      refine ret_at [] _ (retV_one _ _ _) .nil ?_ ?_
      · simp only [pgs, pgl, pgx, Nat.reduceEqDiff, reduceIte]
      · simp only [pgs, pgl, pgx, Nat.reduceEqDiff, reduceIte, chk, Int.natCast_add, Int.natCast_mul, Int.cast_ofNat_Int]

/-! ### Numbers -/
/-- The last 'k' octets of 'n'. -/
def be : Nat → Nat → List Nat
  | 0, _ => []
  | k + 1, n => be k (n / 256) ++ [n % 256]
/-- How many octets. -/
def dg : Nat → Nat → Nat
  | 0, _ => 0
  | f + 1, n => if n = 0 then 0 else dg f (n / 256) + 1
def enc (n : Nat) : List Nat := if n < 248 then [n] else (247 + dg 8 n) :: be (dg 8 n) n

theorem be_len : ∀ (k n : Nat), (be k n).length = k := by
  intro k
  induction k with
  | zero => intro n; rfl
  | succ k ih => intro n; simp [be, ih]
theorem be_oct : ∀ (k n : Nat), oct (be k n) := by
  intro k
  induction k with
  | zero => intro n b h; cases h
  | succ k ih =>
    intro n b h
    simp only [be, List.mem_append, List.mem_singleton] at h
    rcases h with h | rfl
    · exact ih _ b h
    · omega
/-- From the other end. -/
theorem be_head : ∀ (k n : Nat), be (k + 1) n = (n / 256 ^ k % 256) :: be k n := by
  intro k
  induction k with
  | zero => intro n; simp [be]
  | succ k ih =>
    intro n
    rw [be, ih (n / 256), be, List.cons_append, Nat.div_div_eq_div_mul]
    congr 3
    rw [Nat.pow_succ, Nat.mul_comm]
theorem dg_spec : ∀ (f n : Nat), n < 256 ^ f → n < 256 ^ dg f n ∧ (0 < n → 256 ^ (dg f n - 1) ≤ n ∧ 1 ≤ dg f n) ∧ dg f n ≤ f := by
  intro f
  induction f with
  | zero => intro n h; simp at h; subst h; simp [dg]
  | succ f ih =>
    intro n h
    unfold dg
    split
    · rename_i h0; subst h0; simp
    · rename_i h0
      have hd : n / 256 < 256 ^ f := by rw [Nat.div_lt_iff_lt_mul (by omega)]; rw [Nat.pow_succ] at h; exact h
      obtain ⟨h1, h2, h3⟩ := ih (n / 256) hd
      refine ⟨?_, fun _ => ⟨?_, by omega⟩, by omega⟩
      · rw [Nat.pow_succ]; omega
      · rw [Nat.add_sub_cancel]
        rcases Nat.eq_zero_or_pos (n / 256) with hz | hz
        · have : dg f (n / 256) = 0 := by rw [hz]; cases f <;> rfl
          rw [this]; simp; omega
        · obtain ⟨h4, h5⟩ := h2 hz
          have : 256 ^ dg f (n / 256) = 256 ^ (dg f (n / 256) - 1) * 256 := by rw [← Nat.pow_succ]; congr 1; omega
          rw [this]; omega
end Go.Proofs.Ytkgebocldjhflaa
