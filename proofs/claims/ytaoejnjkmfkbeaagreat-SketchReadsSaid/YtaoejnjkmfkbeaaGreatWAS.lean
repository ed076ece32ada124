/-
  Texts of this claim, merged; own names are short.
-/
import Derived.Test.YtaoejnjkmfkbeaaGreatWAR
set_option linter.unusedVariables false
set_option linter.unusedSimpArgs false
set_option linter.unusedSectionVars false
set_option linter.defProp false
set_option maxRecDepth 100000
set_option maxHeartbeats 8000000
namespace Go.Proofs.YtaoejnjkmfkbeaaGreat
open Go Go.Pg
def beF : Nat → Nat → List Nat
 | 0, _ => []
 | f + 1, n => if n = 0 then [] else beF f (n / 256) ++ [n % 256]
def beB (n : Nat) : List Nat := beF 8 n
theorem ER (f n : Nat) : (beF f n).length ≤ f := by
 induction f generalizing n with
 | zero => exact Nat.le_refl _
 | succ f ih =>
  unfold beF
  split
  ·exact Nat.zero_le _
  ·rw [List.length_append]
   have := ih (n / 256)
   simp only [List.length_cons, List.length_nil]
   omega
theorem aaH (f n : Nat) : oct (beF f n) := by
 induction f generalizing n with
 | zero => exact kY
 | succ f ih =>
  unfold beF
  split
  ·exact kY
  ·exact aY (ih _) (lV (Nat.mod_lt _ (by omega)))
theorem aey (f : Nat) : beF f 0 = [] := by cases f <;> rfl
theorem aez (f n : Nat) (h : 0 < n) : beF (f + 1) n = beF f (n / 256) ++ [n % 256] := if_neg (by omega)
def ae (n : Nat) : List Nat := if n < 248 then [n] else (247 + (beB n).length) :: beB n
theorem ax (n : Nat) : (ae n).length ≤ 9 := by
 unfold ae
 have := ER 8 n
 split <;> simp only [List.length_cons, List.length_nil, beB] <;> omega
theorem aO (n : Nat) : oct (ae n) := by
 unfold ae
 have := ER 8 n
 split
 ·exact lV (by omega)
 ·exact vI (by unfold beB; omega) (aaH _ _)
def eX (x : Int) : List Nat := (List.range 8).map fun j => u8i (x.fdiv (2 ^ (8 * (7 - j))))
theorem fC (x : Int) : (eX x).length = 8 := rfl
theorem VZ (n : Int) : u8i n < 256 := by unfold u8i; omega
theorem xE (x : Int) : oct (eX x) := by
 intro b hb
 obtain ⟨j, _, rfl⟩ := List.mem_map.1 hb
 exact VZ _
def bT (s : List Nat) : List Nat := ae s.length ++ s
theorem iG (s : List Nat) : (bT s).length ≤ 9 + s.length := by
 have := ax s.length
 unfold bT; rw [List.length_append]; omega
theorem mr {s : List Nat} (h : oct s) : oct (bT s) := aY (aO _) h
def ckS : List Nat → Nat × Nat → Nat × Nat
 | [], p => p
 | b :: l, p => ckS l ((p.1 + b) % 65521, (p.2 + (p.1 + b) % 65521) % 65521)
def ckN (l : List Nat) : Nat := (ckS l (1, 0)).2 * 65536 + (ckS l (1, 0)).1
theorem aaI (l : List Nat) (p : Nat × Nat) (h : p.1 < 65521 ∧ p.2 < 65521) : (ckS l p).1 < 65521 ∧ (ckS l p).2 < 65521 := by
 induction l generalizing p with
 | nil => exact h
 | cons b l ih => exact ih _ ⟨Nat.mod_lt _ (by omega), Nat.mod_lt _ (by omega)⟩
theorem xG (l : List Nat) : ckN l < 4294967296 := by
 have := aaI l (1, 0) ⟨by decide, by decide⟩
 unfold ckN; omega
def ckB (l : List Nat) : List Nat := [ckN l / 16777216, ckN l / 65536 % 256, ckN l / 256 % 256, ckN l % 256]
theorem aaJ (l : List Nat) : oct (ckB l) := by
 have := xG l
 intro b hb
 simp only [ckB, List.mem_cons, List.not_mem_nil, or_false] at hb
 rcases hb with rfl | rfl | rfl | rfl <;> omega
def eU (tag : Nat) (body : List Nat) : List Nat := tag :: ae body.length ++ body
def jG (tag : Nat) (body : List Nat) : List Nat := eU tag body ++ ckB (eU tag body)
theorem V3 (tag : Nat) (body : List Nat) : (jG tag body).length ≤ body.length + 14 := by
 have := ax body.length
 unfold jG eU ckB
 simp only [List.length_append, List.length_cons, List.length_nil]; omega
theorem V4 {tag : Nat} {body : List Nat} (ht : tag < 256) (h : oct body) : oct (jG tag body) := aY (aY (vI ht (aO _)) h) (aaJ _)
theorem bvS (l : List Nat) (n : Nat) : bv l ++ [V.c (.int .u8 (n : Int))] = bv (l ++ [n]) := by simp [bv]
theorem bvC (n : Nat) (l : List Nat) : V.c (.int .u8 (n : Int)) :: bv l = bv (n :: l) := rfl
theorem aeA (n : Nat) : Int.fdiv (n : Int) (2 ^ min 8 IntKind.i64.bits) = ((n / 256 : Nat) : Int) := by
 show Int.fdiv (n : Int) ((256 : Nat) : Int) = _
 rw [Int.fdiv_eq_ediv_of_nonneg _ (Int.natCast_nonneg _), Int.natCast_ediv]
abbrev ob (id : Nat) (l : List Nat) : V := .sl (.own id 5) 1 (bv l)
theorem AX (n : Nat) (hn : n < 9223372036854775808) : Pg.Good Tryz.prog 93 [vi n] (ob 0 (ae n)) := by
 unfold ae
 by_cases h : n < 248
 ·rw [if_pos h]
  have e1 : IntKind.u8.wrap (n : Int) = ((n : Nat) : Int) := by rw [IntKind.wrap_u8]; omega
  refine gI oW Tryz.func93 Tryz.results93 ?_
  exact wR @e1 trivial (ids [0])
 ·rw [if_neg h]
  have hb : beF 8 n = beB n := rfl
  have hbl := ER 8 n
  rw [hb] at hbl
  generalize beB n = B at *
  refine gI oW Tryz.func93 Tryz.results93 ?_
  refine wS trivial trivial ?_
  refine bn (fun x : Nat × Nat × List Nat => mkA [(0, vi (x.2.1 : Nat)), (3, ob 0 x.2.2)] [] 1 (fun _ => .top)) (fun x => x.2.1 < 256 ^ x.1 ∧ x.1 ≤ 8 ∧ beF x.1 x.2.1 ++ x.2.2 = B ∧ x.2.1 ≤ n) (fun x => x.2.1) (8, n, []) [] [] ?_ ⟨by simp only; omega, Nat.le_refl _, by simp only; rw [List.append_nil]; exact hb, Nat.le_refl _⟩ ?_
  ·exact kE
   all_goals first | exact di rfl | skip
  ·rintro ⟨f, m, acc⟩ ⟨h1, h2, h3, h4⟩
   simp only at h1 h2 h3 h4
   have hml : m < 18446744073709551616 := Nat.lt_of_lt_of_le h1 (Nat.pow_le_pow_right (by decide) h2)
   have hal : acc.length ≤ 8 := by rw [← h3, List.length_append] at hbl; omega
   have hbv := ai acc
   rcases Nat.eq_zero_or_pos m with rfl | hpos
   ·rw [aey, List.nil_append] at h3
    subst h3
    have e1 : IntKind.u8.wrap (247 + (acc.length : Int)) = ((247 + acc.length : Nat) : Int) := by rw [IntKind.wrap_u8]; omega
    exact wR (aI @hbv @e1) trivial (ids [1])
   ·cases f with
    | zero => simp at h1; omega
    | succ f =>
    rw [aez f m hpos, List.append_assoc] at h3
    have e1 : IntKind.u8.wrap (m : Int) = ((m % 256 : Nat) : Int) := by rw [IntKind.wrap_u8]; omega
    have e2 := aeA m
    refine wS (aI @hbv (aI @e1 @e2)) trivial ?_
    refine bu (f, m / 256, m % 256 :: acc) [1] [] ⟨?_, by omega, h3, by simp only; omega⟩ (by show m / 256 < m; omega) ?_
    ·show m / 256 < 256 ^ f
     rw [Nat.pow_succ] at h1
     exact Nat.div_lt_of_lt_mul (by omega)
    ·exact kE
theorem jv (n : Int) (hn : 0 ≤ n ∧ n < 9223372036854775808) : Pg.Good Tryz.prog 93 [vi n] (ob 0 (ae n.toNat)) := by
 have := AX n.toNat (by omega)
 rwa [Int.toNat_of_nonneg hn.1] at this
theorem gu (n : Int) (hn : 0 ≤ n ∧ n < 9223372036854775808) : Pg.Good Tryz.prog 93 [vi n] (fzb (ae n.toNat)) := (jv n hn).fzr rfl (aj _)
theorem aaK (x : Int) (hx : 0 ≤ x ∧ x < 18446744073709551616) : Pg.Good Tryz.prog 172 [vu x] (ob 0 (eX x)) := by
 refine gI oW Tryz.func172 Tryz.results172 ?_
 refine wS trivial trivial ?_
 refine bn (fun j : Nat => mkA [(0, vu x), (3, ob 0 ((eX x).take j)), (4, vi (7 - (j : Int)))] [] 1 (fun _ => .top)) (fun j => j ≤ 8) (fun j => 8 - j) 0 [] [] ?_ (Nat.zero_le _) ?_
 ·exact kE
  all_goals first | exact di rfl | skip
 ·intro j hj
  replace hj : j ≤ 8 := hj
  have hbl := ai ((eX x).take j)
  rw [List.length_take, fC, Nat.min_eq_left hj] at hbl
  rcases Nat.lt_or_ge j 8 with hlt | hge
  ·have e0 : (8 * (7 - (j : Int))).toNat = 8 * (7 - j) := by omega
   have em : min (8 * (7 - j)) IntKind.u64.bits = 8 * (7 - j) := Nat.min_eq_left (show 8 * (7 - j) ≤ 64 by omega)
   have e1 : IntKind.u8.wrap (x.fdiv (2 ^ min (8 * (7 - j)) IntKind.u64.bits)) = ((u8i (x.fdiv (2 ^ (8 * (7 - j)))) : Nat) : Int) := by rw [em, Qu]
   have hnx : bv ((eX x).take j) ++ [V.c (.int .u8 ((u8i (x.fdiv (2 ^ (8 * (7 - j)))) : Nat) : Int))] = bv ((eX x).take (j + 1)) := by
    rw [bvS, List.take_succ_eq_append_getElem (by rw [fC]; exact hlt)]
    simp [eX]
   refine wS (aI @hbl (aI @e0 (aI @e1 @hnx))) trivial ?_
   exact bE (j + 1) [0] [] hlt
  ·have : j = 8 := by omega
   subst this
   rw [List.take_of_length_le (by rw [fC]; exact Nat.le_refl _)]
   exact wR @hbl trivial (ids [0])
theorem DC {s : List Nat} (ho : oct s) : lH (sB s) = bv s := Qs ho
theorem aaL (s : List Nat) (ho : oct s) (hl : s.length ≤ 1000000) : Pg.Good Tryz.prog 173 [vs s] (ob 0 (bT s)) := by
 have h1 := AX s.length (by omega)
 have hul := ax s.length
 have hbl := ai (ae s.length)
 have hsl := ai s
 have ha := bQ (ae s.length) s
 have hby := DC ho
 unfold bT
 generalize ae s.length = u at *
 refine gI oW Tryz.func173 Tryz.results173 ?_
 exact wR (aI @hbl (aI @hsl (aI @hby @ha))) h1 (ids [0])
theorem IA (l : List Nat) (i : Nat) (h : i < l.length) : l.drop i = l.getD i 0 :: l.drop (i + 1) := by rw [List.drop_eq_getElem_cons h]; simp [List.getD, h]
theorem ND (a b : Nat) : Int.tmod ((a : Int) + (b : Int)) 65521 = (((a + b) % 65521 : Nat) : Int) := rfl
theorem IB (l : List Nat) (ho : oct l) (hl : l.length ≤ 10000000) : Pg.Good Tryz.prog 102 [fzb l] (.c (.int .u32 (ckN l : Nat))) := by
 have hbl := ai l
 unfold ckN
 generalize hP : ckS l (1, 0) = P
 refine gI oW Tryz.func102 Tryz.results102 ?_
 refine wS trivial trivial ?_
 refine bn (fun x : Nat × Nat × Nat => mkA [(0, fzb l), (3, .c (.int .u32 (x.2.1 : Nat))), (4, .c (.int .u32 (x.2.2 : Nat))), (5, vi (x.1 : Nat))] [] 0 (fun _ => .top)) (fun x => x.1 ≤ l.length ∧ x.2.1 < 65521 ∧ x.2.2 < 65521 ∧ ckS (l.drop x.1) (x.2.1, x.2.2) = P) (fun x => l.length - x.1) (0, 1, 0) [] [] ?_ ⟨Nat.zero_le _, by decide, by decide, hP⟩ ?_
 ·exact kE
 ·rintro ⟨i, u, v⟩ ⟨h1, h2, h3, h4⟩
  simp only at h1 h2 h3 h4
  rcases Nat.lt_or_ge i l.length with hlt | hge
  ·have hg := lL l i hlt
   have hc := iZ ho i
   rw [IA l i hlt] at h4
   generalize l.getD i 0 = c at *
   have e1 := ND u c
   have e2 := ND v ((u + c) % 65521)
   have r1 : (u + c) % 65521 < 65521 := Nat.mod_lt _ (by omega)
   refine wS (aI @hbl (aI @hg (aI @e1 @e2))) trivial ?_
   refine bu (i + 1, (u + c) % 65521, (v + (u + c) % 65521) % 65521) [] [] ⟨hlt, Nat.mod_lt _ (by omega), Nat.mod_lt _ (by omega), h4⟩ (by show l.length - (i + 1) < l.length - i; omega) ?_
   exact kE
  ·have : i = l.length := by omega
   subst this
   rw [List.drop_length] at h4
   have h5 : (u, v) = P := h4
   subst h5
   exact wR @hbl trivial ah
theorem aeB (n : Nat) (h : n < 4294967296) : IntKind.u8.wrap ((n : Int).fdiv (2 ^ min 24 IntKind.u32.bits)) = ((n / 16777216 : Nat) : Int) := by
 have e : (n : Int).fdiv (2 ^ min 24 IntKind.u32.bits) = ((n / 16777216 : Nat) : Int) := by
  show Int.fdiv (n : Int) ((16777216 : Nat) : Int) = _
  rw [Int.fdiv_eq_ediv_of_nonneg _ (Int.natCast_nonneg _), Int.natCast_ediv]
 rw [e, IntKind.wrap_u8]; omega
theorem aeC (n : Nat) : IntKind.u8.wrap ((n : Int).fdiv (2 ^ min 16 IntKind.u32.bits)) = ((n / 65536 % 256 : Nat) : Int) := by
 have e : (n : Int).fdiv (2 ^ min 16 IntKind.u32.bits) = ((n / 65536 : Nat) : Int) := by
  show Int.fdiv (n : Int) ((65536 : Nat) : Int) = _
  rw [Int.fdiv_eq_ediv_of_nonneg _ (Int.natCast_nonneg _), Int.natCast_ediv]
 rw [e, IntKind.wrap_u8]; omega
theorem ck8 (n : Nat) : IntKind.u8.wrap ((n : Int).fdiv (2 ^ min 8 IntKind.u32.bits)) = ((n / 256 % 256 : Nat) : Int) := by
 have e : (n : Int).fdiv (2 ^ min 8 IntKind.u32.bits) = ((n / 256 : Nat) : Int) := by
  show Int.fdiv (n : Int) ((256 : Nat) : Int) = _
  rw [Int.fdiv_eq_ediv_of_nonneg _ (Int.natCast_nonneg _), Int.natCast_ediv]
 rw [e, IntKind.wrap_u8]; omega
theorem ck0 (n : Nat) : IntKind.u8.wrap (n : Int) = ((n % 256 : Nat) : Int) := by rw [IntKind.wrap_u8]; omega
theorem bv4 (a b c d : Nat) : [V.c (.int .u8 (a : Int)), V.c (.int .u8 (b : Int)), V.c (.int .u8 (c : Int)), V.c (.int .u8 (d : Int))] = bv [a, b, c, d] := rfl
theorem pF (tag : Nat) (body : List Nat) (ht : tag < 256) (ho : oct body) (hl : body.length ≤ 1048576) : Pg.Good Tryz.prog 33 [.c (.int .u8 (tag : Nat)), fzb body] (.tup [fzb (jG tag body), vi 0]) := by
 have h1 := AX body.length (by omega)
 have hul := ax body.length
 have hbl := ai (ae body.length)
 have hbb := ai body
 have ho2 : oct (eU tag body) := aY (vI ht (aO _)) ho
 have hfl : (eU tag body).length = 1 + (ae body.length).length + body.length := by unfold eU; simp only [List.length_append, List.length_cons]; omega
 have h2 := IB (eU tag body) ho2 (by omega)
 have hck := xG (eU tag body)
 have e24 := aeB _ hck
 have e16 := aeC (ckN (eU tag body))
 have e8 := ck8 (ckN (eU tag body))
 have e0 := ck0 (ckN (eU tag body))
 have hF : V.c (.int .u8 (tag : Int)) :: (bv (ae body.length) ++ bv body) = bv (eU tag body) := by unfold eU; rw [List.cons_append, ← bvC, ← bQ]
 have hE : jG tag body = eU tag body ++ [ckN (eU tag body) / 16777216, ckN (eU tag body) / 65536 % 256, ckN (eU tag body) / 256 % 256, ckN (eU tag body) % 256] := rfl
 rw [hE]
 refine Good.fzt (vs := [ob 0 (eU tag body ++ [ckN (eU tag body) / 16777216, ckN (eU tag body) / 65536 % 256, ckN (eU tag body) / 256 % 256, ckN (eU tag body) % 256]), vi 0]) ?_ rfl ⟨aj _, aj _, trivial⟩
 have hfbl := ai (eU tag body)
 generalize eU tag body = F at *
 generalize ckN F = c at *
 refine gI oW Tryz.func33 Tryz.results33 ?_
 (repeat' first | refine wP (aI @hbl (aI @hbb (aI @hfbl (aI @hF (aI @e24 (aI @e16 (aI @e8 (aI @e0 (aI @List.cons_append.{0} @List.nil_append.{0}))))))))) (aI h1 h2) ?_ | refine tS ?_ ?_ <;> intro hc | fail)
 all_goals (refine rT [0] ?_; first | rfl | simp only [pgo, simprocAttr] | skip)
 all_goals (rw [bv4, bQ]; rfl)
def gy (b : Bool) : List Nat := if b = true then [1] else [0]
theorem pG (b : Bool) : oct (gy b) := by cases b <;> exact lV (by decide)
theorem fU (b : Bool) : (gy b).length = 1 := by cases b <;> rfl
theorem aaM (b : Bool) : Pg.Good Tryz.prog 171 [vb b] (ob 0 (gy b)) := by
 cases b
 ·refine gI oW Tryz.func171 Tryz.results171 ?_
  exact wR trivial trivial (ids [0])
 ·refine gI oW Tryz.func171 Tryz.results171 ?_
  exact wR trivial trivial (ids [0])
theorem rq (b : Bool) : Pg.Good Tryz.prog 171 [vb b] (fzb (gy b)) := (aaM b).fzr rfl (aj _)
theorem IC (x : Int) (hx : 0 ≤ x ∧ x < 18446744073709551616) : Pg.Good Tryz.prog 172 [vu x] (fzb (eX x)) := (aaK x hx).fzr rfl (aj _)
theorem AY (s : List Nat) (ho : oct s) (hl : s.length ≤ 1000000) : Pg.Good Tryz.prog 173 [vs s] (fzb (bT s)) := (aaL s ho hl).fzr rfl (aj _)
def be : Nat → Nat → List Nat
 | 0, _ => []
 | k + 1, n => be k (n / 256) ++ [n % 256]
def dg : Nat → Nat → Nat
 | 0, _ => 0
 | f + 1, n => if n = 0 then 0 else dg f (n / 256) + 1
theorem Lj : ∀ (k n : Nat), (be k n).length = k := by
 intro k
 induction k with
 | zero => intro n; rfl
 | succ k ih => intro n; simp [be, ih]
theorem V5 : ∀ (f n : Nat), beF f n = be (dg f n) n := by
 intro f
 induction f with
 | zero => intro n; rfl
 | succ f ih =>
  intro n
  unfold beF dg
  by_cases h : n = 0
  ·rw [if_pos h, if_pos h]; rfl
  ·rw [if_neg h, if_neg h, ih]; rfl
theorem NE {n : Nat} (h : n < 248) : ae n = [n] := if_pos h
theorem NF {n : Nat} (h : ¬ n < 248) : ae n = (247 + dg 8 n) :: be (dg 8 n) n := by
 have e : (beB n).length = dg 8 n := by rw [beB, V5, Lj]
 have : ae n = (247 + (beB n).length) :: beB n := if_neg h
 rw [this, e, beB, V5]
theorem lY : ∀ (k n : Nat), be (k + 1) n = (n / 256 ^ k % 256) :: be k n := by
 intro k
 induction k with
 | zero => intro n; simp [be]
 | succ k ih =>
  intro n
  rw [be, ih (n / 256), be, List.cons_append, Nat.div_div_eq_div_mul]
  congr 3
  rw [Nat.pow_succ, Nat.mul_comm]
theorem ES : ∀ (f n : Nat), n < 256 ^ f → n < 256 ^ dg f n ∧ (0 < n → 256 ^ (dg f n - 1) ≤ n ∧ 1 ≤ dg f n) ∧ dg f n ≤ f := by
 intro f
 induction f with
 | zero => intro n h; simp at h; subst h; simp [dg]
 | succ f ih =>
  intro n h
  unfold dg
  split
  ·rename_i h0; subst h0; simp
  ·rename_i h0
   have hd : n / 256 < 256 ^ f := by rw [Nat.div_lt_iff_lt_mul (by omega)]; rw [Nat.pow_succ] at h; exact h
   obtain ⟨h1, h2, h3⟩ := ih (n / 256) hd
   refine ⟨?_, fun _ => ⟨?_, by omega⟩, by omega⟩
   ·rw [Nat.pow_succ]; omega
   ·rw [Nat.add_sub_cancel]
    rcases Nat.eq_zero_or_pos (n / 256) with hz | hz
    ·have : dg f (n / 256) = 0 := by rw [hz]; cases f <;> rfl
     rw [this]; simp; omega
    ·obtain ⟨h4, h5⟩ := h2 hz
     have : 256 ^ dg f (n / 256) = 256 ^ (dg f (n / 256) - 1) * 256 := by rw [← Nat.pow_succ]; congr 1; omega
     rw [this]; omega
theorem adm {n k : Nat} (h : n < 256 ^ 8) (h0 : 0 < n) : 0 < n / 256 ^ k ↔ k < dg 8 n := by
 obtain ⟨h1, h2, h3⟩ := ES 8 n h
 obtain ⟨h2, h4⟩ := h2 h0
 constructor
 ·intro hp
  rcases Nat.lt_or_ge k (dg 8 n) with hk | hk
  ·exact hk
  ·have : 256 ^ dg 8 n ≤ 256 ^ k := Nat.pow_le_pow_right (by omega) hk
   rw [Nat.div_eq_of_lt (by omega)] at hp
   omega
 ·intro hk
  have : 256 ^ k ≤ 256 ^ (dg 8 n - 1) := Nat.pow_le_pow_right (by omega) (by omega)
  exact Nat.div_pos (by omega) (Nat.pow_pos (by omega))
theorem aeD (a k : Nat) (h : k ≤ 8) : Int.fdiv (a : Int) (2 ^ min (Int.toNat (8 * (k : Int))) IntKind.i64.bits) = ((a / 256 ^ k : Nat) : Int) := by
 have e : min (Int.toNat (8 * (k : Int))) IntKind.i64.bits = 8 * k := by simp [IntKind.bits]; omega
 have e2 : (256 ^ k : Nat) = 2 ^ (8 * k) := by rw [Nat.pow_mul]
 rw [e, e2, show (2 : Int) ^ (8 * k) = ((2 ^ (8 * k) : Nat) : Int) by simp]
 rw [Int.fdiv_eq_ediv_of_nonneg _ (Int.natCast_nonneg _), Int.natCast_ediv]
theorem u8m (a : Nat) : IntKind.u8.wrap (a : Int) = ((a % 256 : Nat) : Int) := by rw [IntKind.wrap_u8]; omega
theorem xH (n : Nat) (hn : n ≤ 4611686018427387904) : Pg.Good Tryz.prog 84 [vi n] (.tup [ob 0 (ae n), vi 0]) := by
 by_cases h3 : n < 248
 ·rw [NE h3]
  have e1 := u8m n
  rw [Nat.mod_eq_of_lt (by omega)] at e1
  refine gI oW Tryz.func84 Tryz.results84 ?_
  exact wR @e1 trivial (ids [0])
 ·rw [NF h3]
  have h8 : n < 256 ^ 8 := by omega
  obtain ⟨hd1, hd2, hd3⟩ := ES 8 n h8
  have hd4 := (hd2 (by omega)).2
  refine gI oW Tryz.func84 Tryz.results84 ?_
  refine wS trivial trivial ?_
  refine bn (fun k : Nat => mkA [(0, vi n), (4, vi k)] [] 0 (fun _ => .top)) (fun k => 1 ≤ k ∧ k ≤ dg 8 n) (fun k => 8 - k) 1 [] [] ?_ ⟨by omega, hd4⟩ ?_
  ·exact kE
  ·rintro k ⟨hk1, hk2⟩
   have hcmp := adm (k := k) h8 (by omega)
   have hs := aeD n k (by omega)
   rcases Nat.lt_or_ge k (dg 8 n) with hk | hk
   ·have hp := hcmp.2 hk
    generalize n / 256 ^ k = q at *
    refine wS @hs trivial ?_
    exact bE (k + 1) [] [] ⟨by omega, hk⟩
   ·have hkd : dg 8 n = k := by omega
    have hnp : ¬ 0 < n / 256 ^ k := fun h => by have := hcmp.1 h; omega
    have e1 : IntKind.u8.wrap ((247 : Int) + (k : Int)) = ((247 + k : Nat) : Int) := by rw [IntKind.wrap_u8]; omega
    have hbe : ∀ m, m < k → (247 + k) :: be (k - (m + 1)) (n / 256 ^ (m + 1)) ++ [n / 256 ^ m % 256] = (247 + k) :: be (k - m) (n / 256 ^ m) := by
     intro m hm
     rw [show k - m = (k - (m + 1)) + 1 by omega, be, Nat.div_div_eq_div_mul, ← Nat.pow_succ]
     rfl
    rw [hkd]
    generalize n / 256 ^ k = q at hnp hs
    have hq : q = 0 := by omega
    subst hq
    have hs0 : k < 8 ∨ 8 ≤ k := by omega
    rcases hs0 with h | h
    all_goals
     (repeat' (first | (simp (disch := first | exact dqz | fail) only [pgz, simprocAttr, hs, e1]) | ((with_reducible first | apply aQ | apply aB | apply bz) <;> intro hc <;> (try simp only [hc]) <;> (try simp only [pgd] at hc)) | (with_reducible refine cK ?_)))
     refine bn (fun j : Nat => mkA [(0, vi n), (5, ob 0 ((247 + k) :: be (k - j) (n / 256 ^ j))), (6, vi ((j : Int) - 1))] [] 1 (fun _ => .top)) (fun j => j ≤ k) (fun j => j) k [0] [] ?_ (Nat.le_refl _) ?_
     ·(refine aN ?_ ?_ (bG _ _ _) (by decide) (by decide) (by decide) (by decide); (repeat' (first | exact trivial | refine aG _ _ rfl rfl ?_ ?_)); all_goals (try simp only [pgs, pgl, pgx, pgf, pgw, ay, aJ, az, aK, aZ, bV, bD, pgn, simprocAttr]); all_goals (try (repeat' (first | apply aI))); all_goals (try (first | exact trivial | exact au (by omega) | exact aU rfl | exact ak rfl rfl | exact bg rfl)))
      all_goals first | exact ak rfl (by rw [Nat.sub_self]; rfl) | exact au (by omega) | skip
     ·intro j hj
      replace hj : j ≤ k := hj
      cases j with
      | zero =>
       (repeat' (first | (simp (disch := first | exact dqz | fail) only [pgz, simprocAttr, Nat.sub_zero, Nat.pow_zero, Nat.div_one]) | ((with_reducible first | apply aQ | apply aB | apply bz) <;> intro hc <;> (try simp only [hc]) <;> (try simp only [pgd] at hc)) | (with_reducible refine cK ?_)))
       exact rE [0]
      | succ m =>
       have hb := hbe m (by omega)
       have hl : ((247 + k) :: be (k - (m + 1)) (n / 256 ^ (m + 1))).length ≤ 9 := by simp [Lj]; omega
       have hs2 := aeD n m (by omega)
       have e8 : (m : Int) + 1 - 1 = (m : Int) := by omega
       have e9 := u8m (n / 256 ^ m)
       have hbs := bvS ((247 + k) :: be (k - (m + 1)) (n / 256 ^ (m + 1))) (n / 256 ^ m % 256)
       rw [hb] at hbs
       have hbl := ai ((247 + k) :: be (k - (m + 1)) (n / 256 ^ (m + 1)))
       (repeat' (first | (simp (disch := first | exact dqz | fail) only [pgz, simprocAttr, e8, hs2, e9, hbs, hbl]) | ((with_reducible first | apply aQ | apply aB | apply bz) <;> intro hc <;> (try simp only [hc]) <;> (try simp only [pgd] at hc)) | (with_reducible refine cK ?_)))
       (refine bu (m) [0] [] ((by omega)) (by first | omega | (simp only [List.length_cons]; omega)) ?_; (refine aN ?_ ?_ (bG _ _ _) (by decide) (by decide) (by decide) (by decide); (repeat' (first | exact trivial | refine aG _ _ rfl rfl ?_ ?_)); all_goals (try simp only [pgs, pgl, pgx, pgf, pgw, ay, aJ, az, aK, aZ, bV, bD, pgn, simprocAttr]); all_goals (try (repeat' (first | apply aI))); all_goals (try (first | exact trivial | exact au (by omega) | exact aU rfl | exact ak rfl rfl | exact bg rfl))))
       all_goals first | exact ak rfl rfl | exact au (by omega) | skip
theorem Qx (x : Int) (hx : 0 ≤ x ∧ x < 18446744073709551616) : Pg.Good Tryz.prog 220 [vu x] (ob 0 (eX x)) := by
 refine gI oW Tryz.func220 Tryz.results220 ?_
 refine wS trivial trivial ?_
 refine bn (fun j : Nat => mkA [(0, vu x), (3, ob 0 ((eX x).take j)), (4, vi (56 - 8 * (j : Int)))] [] 1 (fun _ => .top)) (fun j => j ≤ 8) (fun j => 8 - j) 0 [] [] ?_ (Nat.zero_le _) ?_
 ·(refine aN ?_ ?_ (bG _ _ _) (by decide) (by decide) (by decide) (by decide); (repeat' (first | exact trivial | refine aG _ _ rfl rfl ?_ ?_)); all_goals (try simp only [pgs, pgl, pgx, pgf, pgw, ay, aJ, az, aK, aZ, bV, bD, pgn, simprocAttr]); all_goals (try (repeat' (first | apply aI))); all_goals (try (first | exact trivial | exact au (by omega) | exact aU rfl | exact ak rfl rfl | exact bg rfl)))
  all_goals first | exact di rfl | exact au (by omega) | skip
 ·intro j hj
  replace hj : j ≤ 8 := hj
  have hbl := ai ((eX x).take j)
  rw [List.length_take, fC, Nat.min_eq_left hj] at hbl
  rcases Nat.lt_or_ge j 8 with hlt | hge
  ·have e0 : (56 - 8 * (j : Int)).toNat = 8 * (7 - j) := by omega
   have em : min (8 * (7 - j)) IntKind.u64.bits = 8 * (7 - j) := Nat.min_eq_left (show 8 * (7 - j) ≤ 64 by omega)
   have e1 : IntKind.u8.wrap (x.fdiv (2 ^ min (8 * (7 - j)) IntKind.u64.bits)) = ((u8i (x.fdiv (2 ^ (8 * (7 - j)))) : Nat) : Int) := by rw [em, Qu]
   have hnx : bv ((eX x).take j) ++ [V.c (.int .u8 ((u8i (x.fdiv (2 ^ (8 * (7 - j)))) : Nat) : Int))] = bv ((eX x).take (j + 1)) := by
    rw [bvS, List.take_succ_eq_append_getElem (by rw [fC]; exact hlt)]
    simp [eX]
   refine wS (aI @hbl (aI @e0 (aI @e1 @hnx))) trivial ?_
   (refine bu (j + 1) [0] [] (hlt) (by first | omega | (simp only [List.length_cons]; omega)) ?_; (refine aN ?_ ?_ (bG _ _ _) (by decide) (by decide) (by decide) (by decide); (repeat' (first | exact trivial | refine aG _ _ rfl rfl ?_ ?_)); all_goals (try simp only [pgs, pgl, pgx, pgf, pgw, ay, aJ, az, aK, aZ, bV, bD, pgn, simprocAttr]); all_goals (try (repeat' (first | apply aI))); all_goals (try (first | exact trivial | exact au (by omega) | exact aU rfl | exact ak rfl rfl | exact bg rfl))))
   all_goals first | exact ak rfl rfl | exact au (by omega) | skip
  ·have : j = 8 := by omega
   subst this
   rw [List.take_of_length_le (by rw [fC]; exact Nat.le_refl _)]
   exact wR @hbl trivial (ids [0])
theorem Qy (s : List Nat) (ho : oct s) (hl : s.length ≤ 65536) : Pg.Good Tryz.prog 222 [vs s] (.tup [ob 0 (bT s), vi 0]) := by
 have h1 := xH s.length (by omega)
 have hul := ax s.length
 have hbl := ai (ae s.length)
 have hsl := ai s
 have ha := bQ (ae s.length) s
 have hby := DC ho
 unfold bT
 generalize ae s.length = u at *
 refine gI oW Tryz.func222 Tryz.results222 ?_
 exact wR (aI @hbl (aI @hsl (aI @hby @ha))) h1 (ids [0])
theorem uB (l : List Nat) (ho : oct l) (hl : l.length ≤ 10000000) : Pg.Good Tryz.prog 164 [fzb l] (.c (.int .u32 (ckN l : Nat))) := by
 have hbl := ai l
 unfold ckN
 generalize hP : ckS l (1, 0) = P
 refine gI oW Tryz.func164 Tryz.results164 ?_
 refine wS @hbl trivial ?_
 refine bn (fun x : Nat × Nat × Nat => mkA [(3, .c (.int .u32 (x.2.1 : Nat))), (4, .c (.int .u32 (x.2.2 : Nat))), (7, fzb l), (8, vi l.length), (9, vi (x.1 : Nat))] [] 0 (fun _ => .top)) (fun x => x.1 ≤ l.length ∧ x.2.1 < 65521 ∧ x.2.2 < 65521 ∧ ckS (l.drop x.1) (x.2.1, x.2.2) = P) (fun x => l.length - x.1) (0, 1, 0) [] [] ?_ ⟨Nat.zero_le _, by decide, by decide, hP⟩ ?_
 ·exact kE
 ·rintro ⟨i, u, v⟩ ⟨h1, h2, h3, h4⟩
  simp only at h1 h2 h3 h4
  rcases Nat.lt_or_ge i l.length with hlt | hge
  ·have hg := lL l i hlt
   have hc := iZ ho i
   rw [IA l i hlt] at h4
   generalize l.getD i 0 = c at *
   have e1 := ND u c
   have e2 := ND v ((u + c) % 65521)
   have r1 : (u + c) % 65521 < 65521 := Nat.mod_lt _ (by omega)
   refine wS (aI @hbl (aI @hg (aI @e1 @e2))) trivial ?_
   refine bu (i + 1, (u + c) % 65521, (v + (u + c) % 65521) % 65521) [] [] ⟨hlt, Nat.mod_lt _ (by omega), Nat.mod_lt _ (by omega), h4⟩ (by show l.length - (i + 1) < l.length - i; omega) ?_
   exact kE
  ·have : i = l.length := by omega
   subst this
   rw [List.drop_length] at h4
   have h5 : (u, v) = P := h4
   subst h5
   have hsh : IntKind.u32.wrap ((v : Int) * 2 ^ min 16 IntKind.u32.bits) = ((v * 65536 : Nat) : Int) := by
    show IntKind.u32.wrap ((v : Int) * ((65536 : Nat) : Int)) = _
    rw [← Int.natCast_mul]
    exact abC _ (by omega) (by omega)
   refine wS (aI @hbl @hsh) trivial ?_
   (refine rT [] ?_; first | rfl | simp only [pgo, simprocAttr] | skip)
   all_goals first | (congr 2; omega) | skip
theorem aaN (tag : Nat) (body : List Nat) (ht : tag < 256) (ho : oct body) (hl : body.length ≤ 1048576) : Pg.Good Tryz.prog 85 [.c (.int .u8 (tag : Nat)), fzb body] (.tup [fzb (jG tag body), vi 0]) := by
 have h1 := xH body.length (by omega)
 have hul := ax body.length
 have hbl := ai (ae body.length)
 have hbb := ai body
 have ho2 : oct (eU tag body) := aY (vI ht (aO _)) ho
 have hfl : (eU tag body).length = 1 + (ae body.length).length + body.length := by unfold eU; simp only [List.length_append, List.length_cons]; omega
 have h2 := uB (eU tag body) ho2 (by omega)
 have hck := xG (eU tag body)
 have e24 := aeB _ hck
 have e16 := aeC (ckN (eU tag body))
 have e8 := ck8 (ckN (eU tag body))
 have e0 := ck0 (ckN (eU tag body))
 have hF : V.c (.int .u8 (tag : Int)) :: (bv (ae body.length) ++ bv body) = bv (eU tag body) := by unfold eU; rw [List.cons_append, ← bvC, ← bQ]
 have hE : jG tag body = eU tag body ++ [ckN (eU tag body) / 16777216, ckN (eU tag body) / 65536 % 256, ckN (eU tag body) / 256 % 256, ckN (eU tag body) % 256] := rfl
 rw [hE]
 refine Good.fzt (vs := [ob 0 (eU tag body ++ [ckN (eU tag body) / 16777216, ckN (eU tag body) / 65536 % 256, ckN (eU tag body) / 256 % 256, ckN (eU tag body) % 256]), vi 0]) ?_ rfl ⟨aj _, aj _, trivial⟩
 have hfbl := ai (eU tag body)
 generalize eU tag body = F at *
 generalize ckN F = c at *
 refine gI oW Tryz.func85 Tryz.results85 ?_
 (repeat' first | refine wP (aI @hbl (aI @hbb (aI @hfbl (aI @hF (aI @e24 (aI @e16 (aI @e8 (aI @e0 (aI @List.cons_append.{0} @List.nil_append.{0}))))))))) (aI h1 h2) ?_ | refine tS ?_ ?_ <;> intro hc | fail)
 all_goals (refine rT [1] ?_; first | rfl | simp only [pgo, simprocAttr] | skip)
 all_goals (rw [bv4, bQ]; rfl)
theorem bH (n a b : Int) (h : a ≤ n ∧ n ≤ b) : Pg.Good Tryz.prog 157 [vi n, vi a, vi b] (vb true) := by
 have := dN n a b; rwa [Dz h] at this
theorem rC {k z d s : Int} (h : vp k z d s = 0) : k = 1 ∨ k = 2 ∨ k = 3 ∨ k = 4 ∨ k = 5 ∨ k = 6 := by unfold vp at h; repeat' split at h <;> omega
def vTl (t : Tl) : Int := if (0 ≤ t.t ∧ t.t ≤ 4294967295) ∧ (0 ≤ t.i ∧ t.i ≤ 4294967295) ∧ t.i ≤ t.t then 0 else 5
theorem kS (t : Tl) : Pg.Good Tryz.prog 65 [.agg (tlF t)] (vi (vTl t)) := by
 obtain ⟨a, b, s⟩ := t
 skip
 refine gI oW Tryz.func65 Tryz.results65 ?_
 (repeat' first | refine wP trivial trivial ?_ | refine cU (dN _ _ _) ?_ | refine tX (aI @kG @lw) ?_ ?_ <;> intro hc | fail)
 all_goals (refine rT [] ?_; first | rfl | simp only [pgo, simprocAttr] | skip)
 all_goals (unfold vTl; simp only; (repeat' split) <;> first | rfl | (exfalso; omega))
def AZ (a b : Tl) : Tl := ⟨(lX a.t b.t 4294967295).1, (lX a.i b.i 4294967295).1, a.b || b.b || (lX a.t b.t 4294967295).2 || (lX a.i b.i 4294967295).2⟩
theorem Lm (a b : Tl) (h1 : W64 a.t) (h2 : W64 a.i) (h3 : W64 b.t) (h4 : W64 b.i) : Pg.Good Tryz.prog 134 [.agg (tlF a), .agg (tlF b)] (.agg (tlF (AZ a b))) := by
 obtain ⟨a1, a2, a3⟩ := a
 obtain ⟨b1, b2, b3⟩ := b
 simp only at h1 h2 h3 h4
 unfold AZ
 simp only
 have k1 := EO a1 b1 4294967295 (by decide) h1 h3
 have k2 := EO a2 b2 4294967295 (by decide) h2 h4
 generalize lX a1 b1 4294967295 = x at *
 generalize lX a2 b2 4294967295 = y at *
 obtain ⟨x1, x2⟩ := x
 obtain ⟨y1, y2⟩ := y
 simp only at k1 k2 ⊢
 refine gI oW Tryz.func134 Tryz.results134 ?_
 cases a3 <;> cases b3 <;> cases x2 <;> cases y2
 all_goals
  (repeat' first | refine wP trivial (aI k1 k2) ?_ | refine tX (aI @kG @lw) ?_ ?_ <;> intro hc | fail)
  exact rE []
def vN (t : Tl) (k : List Nat) (w : Int) : Tl × Int := if vTl t ≠ 0 then (Tl.o, vTl t) else if dW k w ≠ 0 then (Tl.o, dW k w) else (AZ t ⟨w, 1, false⟩, 0)
theorem ET {t : Tl} (h : vTl t = 0) : W64 t.t ∧ W64 t.i := by
 unfold vTl at h
 split at h
 ·unfold W64; omega
 ·cases h
theorem ng {k : List Nat} {w : Int} (h : dW k w = 0) : (1 ≤ w ∧ w ≤ 4294967295) ∧ 1 ≤ k.length ∧ k.length ≤ 32 := by
 unfold dW at h
 split at h
 ·split at h
  ·omega
  ·cases h
 ·cases h
theorem A7 (t : Tl) (k : List Nat) (w : Int) : Pg.Good Tryz.prog 48 [.agg (tlF t), .agg [vs k, vi w]] (.tup [.agg (tlF (vN t k w).1), vi (vN t k w).2]) := by
 have h1 := kS t
 have h2 := bZ k w
 unfold vN
 by_cases c1 : vTl t = 0
 ·rw [if_neg (by omega)]
  rw [c1] at h1
  by_cases c2 : dW k w = 0
  ·rw [if_neg (by omega)]
   rw [c2] at h2
   have h3 := Lm t ⟨w, 1, false⟩ (ET c1).1 (ET c1).2 (show W64 w from by have := ng c2; unfold W64; omega) (show W64 1 from ⟨by decide, by decide⟩)
   generalize AZ t ⟨w, 1, false⟩ = r at *
   refine gI oW Tryz.func48 Tryz.results48 ?_
   (repeat' first | refine wP trivial (aI h1 (aI h2 h3)) ?_ | refine tX (aI @kG @lw) ?_ ?_ <;> intro hc | fail)
   exact rE []
  ·rw [if_pos (by omega)]
   refine gI oW Tryz.func48 Tryz.results48 ?_
   (repeat' first | refine wP trivial (aI h1 h2) ?_ | refine tX (aI @kG @lw) ?_ ?_ <;> intro hc | fail)
   exact rE []
 ·rw [if_pos (by omega)]
  refine gI oW Tryz.func48 Tryz.results48 ?_
  (repeat' first | refine wP trivial h1 ?_ | refine tX (aI @kG @lw) ?_ ?_ <;> intro hc | fail)
  exact rE []
theorem oN {d z : Int} (hd : 1 ≤ d ∧ d ≤ 8) (hz : 1 ≤ z ∧ z ≤ 64) : 0 ≤ d * z ∧ d * z ≤ 512 := by
 refine ⟨Int.mul_nonneg (by omega) (by omega), ?_⟩
 have h1 : d * z ≤ 8 * z := Int.mul_le_mul_of_nonneg_right hd.2 (by omega)
 omega
def jR (a b : Int) (l : List Int) : Bool := l.all fun n => decide (a ≤ n ∧ n ≤ b)
theorem qm {a b : Int} {l : List Int} {i : Nat} (h : i < l.length) : jR a b (l.take (i + 1)) = (jR a b (l.take i) && decide (a ≤ l.getD i 0 ∧ l.getD i 0 ≤ b)) := by
 unfold jR
 rw [List.take_succ_eq_append_getElem h, List.all_append]
 simp [List.getD, h]
theorem sJ {a b : Int} {l : List Int} {i : Nat} (h : i < l.length) (hn : ¬ (a ≤ l.getD i 0 ∧ l.getD i 0 ≤ b)) : jR a b l = false := by
 unfold jR
 rw [← Bool.not_eq_true, List.all_eq_true]
 intro h'
 have := h' l[i] (List.getElem_mem h)
 simp only [decide_eq_true_eq] at this
 apply hn
 simpa [List.getD, h] using this
theorem pI {a b : Int} {l : List Int} (h : jR a b l = true) {i : Nat} (hi : i < l.length) : a ≤ l.getD i 0 ∧ l.getD i 0 ≤ b := by
 unfold jR at h
 have := List.all_eq_true.1 h l[i] (List.getElem_mem hi)
 simpa [List.getD, hi] using this
def vCm (c : Cm) : Int := if ¬ (1 ≤ c.d ∧ c.d ≤ 8 ∧ 1 ≤ c.z ∧ c.z ≤ 64) then 5 else if (c.c.length : Int) ≠ c.d * c.z then 18 else if jR 0 4294967295 c.c = true then 0 else 5
theorem jA (c : Cm) : Pg.Good Tryz.prog 66 [.agg (cmF c)] (vi (vCm c)) := by
 obtain ⟨d, z, s, l, b⟩ := c
 unfold vCm
 simp only
 have hil := bC l
 by_cases c1 : 1 ≤ d ∧ d ≤ 8 ∧ 1 ≤ z ∧ z ≤ 64
 ·rw [if_neg (by simpa using c1)]
  have k1 := bH d 1 8 (by omega)
  have k2 := bH z 1 64 (by omega)
  have hm := oN ⟨c1.1, c1.2.1⟩ c1.2.2
  by_cases c2 : (l.length : Int) = d * z
  ·rw [if_neg (by omega)]
   generalize hdz : d * z = dz at *
   refine gI oW Tryz.func66 Tryz.results66 ?_
   (repeat' first | refine wP (aI @hdz @bC) (aI k1 k2) ?_ | refine tX (aI @kG @lw) ?_ ?_ <;> intro hc | fail)
   refine bn (fun i : Nat => mkA [(1, .ref 0 0), (3, vi i)] [(0, (29, cmF ⟨d, z, s, l, b⟩))] 1 (fun _ => .top)) (fun i => i ≤ l.length ∧ jR 0 4294967295 (l.take i) = true) (fun i => l.length - i) 0 [] [0] ?_ ⟨Nat.zero_le _, rfl⟩ ?_
   ·exact kE
   ·rintro i ⟨hi, ha⟩
    rcases Nat.lt_or_ge i l.length with hlt | hge
    ·have hg := gQ l i hlt
     have hx := sJ (a := 0) (b := 4294967295) hlt
     have hn := qm (a := 0) (b := 4294967295) hlt
     rw [ha] at hn
     generalize l.getD i 0 = n at *
     by_cases hc : 0 ≤ n ∧ n ≤ 4294967295
     ·have k3 := bH n 0 4294967295 hc
      (repeat' first | refine wP (aI @bC @hg) k3 ?_ | refine tX (aI @kG @lw) ?_ ?_ <;> intro hc | fail)
      exact bE (i + 1) [] [0] ⟨hlt, by rw [hn, decide_eq_true hc]; rfl⟩
     ·have k3 := dN n 0 4294967295
      rw [jY hc] at k3
      rw [hx hc, if_neg (by simp)]
      (repeat' first | refine wP (aI @bC @hg) k3 ?_ | refine tX (aI @kG @lw) ?_ ?_ <;> intro hc | fail)
      exact rE []
    ·have : i = l.length := by omega
     subst this
     rw [List.take_length] at ha
     rw [ha, if_pos rfl]
     (repeat' first | refine wP @bC trivial ?_ | refine tX (aI @kG @lw) ?_ ?_ <;> intro hc | fail)
     exact rE []
  ·rw [if_pos c2]
   generalize hdz : d * z = dz at *
   refine gI oW Tryz.func66 Tryz.results66 ?_
   (repeat' first | refine wP (aI @hdz @bC) (aI k1 k2) ?_ | refine tX (aI @kG @lw) ?_ ?_ <;> intro hc | fail)
   exact rE []
 ·rw [if_pos c1]
  by_cases c2 : 1 ≤ d ∧ d ≤ 8
  ·have k1 := bH d 1 8 c2
   have k2 := dN z 1 64
   rw [jY (by omega)] at k2
   refine gI oW Tryz.func66 Tryz.results66 ?_
   (repeat' first | refine wP trivial (aI k1 k2) ?_ | refine tX (aI @kG @lw) ?_ ?_ <;> intro hc | fail)
   exact rE []
  ·have k1 := dN d 1 8
   rw [jY c2] at k1
   refine gI oW Tryz.func66 Tryz.results66 ?_
   (repeat' first | refine wP trivial k1 ?_ | refine tX (aI @kG @lw) ?_ ?_ <;> intro hc | fail)
   exact rE []
theorem NG (n : Int) : 0 ≤ IntKind.u64.wrap n ∧ IntKind.u64.wrap n < 18446744073709551616 := by
 rw [IntKind.wrap_u64]
 omega
theorem V6 (x : Int) : 0 ≤ EP x ∧ EP x < 18446744073709551616 := NG _
theorem sK (t : List Int) (k : List Nat) : 0 ≤ qY t k ∧ qY t k < 18446744073709551616 := V6 _
def Lp (s row z : Int) (k : List Nat) : Int := (qY (nK (Qp s row) 256) k).tmod z
theorem A8 (s row z : Int) (k : List Nat) (hz : 1 ≤ z) : 0 ≤ Lp s row z k ∧ Lp s row z k < z := by
 unfold Lp
 have h := (sK (nK (Qp s row) 256) k).1
 rw [Int.tmod_eq_emod_of_nonneg h]
 exact ⟨Int.emod_nonneg _ (by omega), Int.emod_lt_of_pos _ (by omega)⟩
theorem Qz (s row z : Int) (k : List Nat) (ho : oct k) (hr : 0 ≤ row ∧ row ≤ 7) (hz : 1 ≤ z ∧ z ≤ 64) (hk : 1 ≤ k.length ∧ k.length ≤ 32) : Pg.Good Tryz.prog 209 [vu s, vi row, vi z, vs k] (.tup [vi (Lp s row z k), vi 0]) := by
 have k1 := bH row 0 7 hr
 have k2 := bH z 1 64 hz
 have k3 := xB k
 rw [Nw hk] at k3
 have k4 := Nz (nK (Qp s row) 256) (AV _ _) k ho (by omega)
 have hc := A8 s row z k hz.1
 have hh := sK (nK (Qp s row) 256) k
 unfold Lp at *
 generalize qY (nK (Qp s row) 256) k = h at *
 refine gI oW Tryz.func209 Tryz.results209 ?_
 (repeat' first | refine wP trivial (aI k1 (aI k2 (aI k3 (aI (adf s row hr) k4)))) ?_ | refine cU (Iy _) ?_ | refine tX (aI @kG @lw) ?_ ?_ <;> intro hc | fail)
 exact rE []
def vO (s z row : Int) (k : List Nat) : Int := row * z + Lp s row z k
theorem DD (s z row d : Int) (k : List Nat) (hz : 1 ≤ z) (hr : 0 ≤ row ∧ row < d) : 0 ≤ vO s z row k ∧ vO s z row k < d * z := by
 have h := A8 s row z k hz
 unfold vO
 have h1 : 0 ≤ row * z := Int.mul_nonneg hr.1 (by omega)
 have h2 : (row + 1) * z ≤ d * z := Int.mul_le_mul_of_nonneg_right (by omega) (by omega)
 rw [Int.add_mul] at h2
 omega
theorem aaO (c : Cm) (row : Int) (k : List Nat) (ho : oct k) (hr : 0 ≤ row ∧ row ≤ 7) (hz : 1 ≤ c.z ∧ c.z ≤ 64) (hk : 1 ≤ k.length ∧ k.length ≤ 32) : Pg.Good Tryz.prog 135 [.agg (cmF c), vi row, vs k] (vi (vO c.s c.z row k)) := by
 obtain ⟨d, z, s, l, b⟩ := c
 simp only at hz ⊢
 have k1 := Qz s row z k ho hr hz hk
 have hc := A8 s row z k hz.1
 have hcell := DD s z row 8 k hz.1 (by omega)
 have hm : 0 ≤ row * z := Int.mul_nonneg hr.1 (by omega)
 have hm2 : row * z ≤ 7 * z := Int.mul_le_mul_of_nonneg_right hr.2 (by omega)
 unfold vO at *
 generalize Lp s row z k = q at *
 generalize hrz : row * z = rz at *
 refine gI oW Tryz.func135 Tryz.results135 ?_
 (repeat' first | refine wP @hrz k1 ?_ | refine tX (aI @kG @lw) ?_ ?_ <;> intro hc | fail)
 exact rE []
end Go.Proofs.YtaoejnjkmfkbeaaGreat
