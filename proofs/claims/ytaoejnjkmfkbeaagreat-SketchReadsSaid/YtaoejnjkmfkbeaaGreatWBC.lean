/-
  Texts of this claim, merged; own names are short.
-/
import Derived.Test.YtaoejnjkmfkbeaaGreatWBB
import Derived.Test.YtaoejnjkmfkbeaaGreatWAW
import Derived.Test.YtaoejnjkmfkbeaaGreatWAS
import Derived.Test.YtaoejnjkmfkbeaaGreatWAX
set_option linter.unusedVariables false
set_option linter.unusedSimpArgs false
set_option linter.unusedSectionVars false
set_option linter.defProp false
set_option maxRecDepth 100000
set_option maxHeartbeats 8000000
namespace Go.Proofs.YtaoejnjkmfkbeaaGreat
open Go Go.Pg
theorem BM {s : List Nat} {i : Nat} (h : i < s.length) : acc (s.take i) * 256 + s.getD i 0 = acc (s.take (i + 1)) := by
 rw [List.take_succ_eq_append_getElem h, ww]
 simp [List.getD, h]
theorem wz {s : List Nat} (ho : oct s) {i : Nat} (h : i ≤ s.length) : acc (s.take i) < 256 ^ i := Xv _ _ (by rw [List.length_take]; omega) (mY ho i)
def kF (l : List Nat) : Nat × Nat × Nat := if l.length < 8 then (0, 0, 3) else (acc (l.take 8), 8, 0)
def Xx (p : Nat × Nat × Nat) : V := .tup [vu (p.1 : Nat), vi (p.2.1 : Nat), vi (p.2.2 : Nat)]
theorem xR (l : List Nat) (ho : oct l) (hl : l.length ≤ 2147483648) : Pg.Good Tryz.prog 178 [fzb l] (Xx (kF l)) := by
 have hbl := ai l
 unfold kF
 rcases Nat.lt_or_ge l.length 8 with h1 | h1
 ·rw [if_pos h1]
  refine gI oW Tryz.func178 Tryz.results178 ?_
  exact wR @hbl trivial ah
 rw [if_neg (by omega)]
 have ht := BL l 8
 have ho8 := mY ho 8
 have hl8 : (l.take 8).length = 8 := by rw [List.length_take]; omega
 generalize l.take 8 = s at *
 have hsl := ai s
 rw [hl8] at hsl
 refine gI oW Tryz.func178 Tryz.results178 ?_
 refine wS (aI @pgv (aI @hbl (aI @ht (aI @List.drop_zero.{0} @hsl)))) trivial ?_
 refine bn (fun i : Nat => mkA [(2, .c (.int .u64 (acc (s.take i) : Nat))), (11, fzb s), (12, vi 8), (13, vi i)] [] 0 (fun _ => .top)) (fun i => i ≤ 8) (fun i => 8 - i) 0 [] [] ?_ (Nat.zero_le _) ?_
 ·(refine aN ?_ ?_ (bG _ _ _) (by decide) (by decide) (by decide) (by decide); (repeat' (first | exact trivial | refine aG _ _ rfl rfl ?_ ?_)); all_goals (try simp only [pgs, pgl, pgx, pgf, pgw, ay, aJ, az, aK, aZ, bV, bD, pgn, simprocAttr]); all_goals (try (repeat' (first | apply aI))); all_goals (try (first | exact trivial | exact au (by omega) | exact aU rfl | exact ak rfl rfl | exact bg rfl)))
  all_goals first | exact aU rfl | exact au (by omega) | skip
 ·intro i hi
  replace hi : i ≤ 8 := hi
  have hb := iZ ho8 i
  have ha := wz ho8 (i := i) (by omega)
  rcases Nat.lt_or_ge i 8 with hlt | hge
  ·have hp : 256 ^ i ≤ 256 ^ 7 := Nat.pow_le_pow_right (by omega) (by omega)
   have hgi := lL s i (by omega)
   have e6 := BM (s := s) (i := i) (by omega)
   have e7 := Xu (acc (s.take i)) (s.getD i 0) (by omega) hb
   rw [e6] at e7
   refine wS (aI @hsl (aI @hgi @e7)) trivial ?_
   (refine bu (i + 1) [] [] (hlt) (by first | omega | (simp only [List.length_cons]; omega)) ?_; (refine aN ?_ ?_ (bG _ _ _) (by decide) (by decide) (by decide) (by decide); (repeat' (first | exact trivial | refine aG _ _ rfl rfl ?_ ?_)); all_goals (try simp only [pgs, pgl, pgx, pgf, pgw, ay, aJ, az, aK, aZ, bV, bD, pgn, simprocAttr]); all_goals (try (repeat' (first | apply aI))); all_goals (try (first | exact trivial | exact au (by omega) | exact aU rfl | exact ak rfl rfl | exact bg rfl))))
   all_goals first | exact au (by omega) | skip
  ·have hik : i = 8 := by omega
   subst hik
   have e : s.take 8 = s := List.take_of_length_le (by omega)
   rw [e]
   exact wR @hsl trivial ah
def fO (l : List Nat) : List Nat × Nat × Nat :=
 if (aW l).2.2 ≠ 0 then ([], 0, (aW l).2.2) else
 if 65536 < (aW l).1 then ([], 0, 2) else
 if l.length - (aW l).2.1 < (aW l).1 then ([], 0, 3) else ((l.drop (aW l).2.1).take (aW l).1, (aW l).2.1 + (aW l).1, 0)
def LQ (p : List Nat × Nat × Nat) : V := .tup [vs p.1, vi (p.2.1 : Nat), vi (p.2.2 : Nat)]
theorem iT (l : List Nat) (ho : oct l) : (aW l).1 ≤ 4611686018427387904 ∧ (aW l).2.1 ≤ l.length ∧ (aW l).2.2 ≤ 3 := by
 have hc := iZ ho 0
 unfold aW
 split
 ·simp
 ·split
  ·rename_i h1 h2
   simp only; omega
  ·split
   ·simp
   ·split
    ·simp
    ·rename_i h1 h2 h3 h4
     simp only; omega
theorem mD (l : List Nat) (ho : oct l) (hl : l.length ≤ 2147483648) : Pg.Good Tryz.prog 225 [fzb l] (LQ (fO l)) := by
 have hbl := ai l
 have h1 := eQ l ho hl
 obtain ⟨l1, l2, l3⟩ := iT l ho
 unfold uK at h1
 unfold fO
 generalize aW l = q at *
 obtain ⟨n, k, e⟩ := q
 simp only at *
 by_cases he : e = 0
 ·subst he
  rw [if_neg (by simp)]
  rcases Nat.lt_or_ge 65536 n with h2 | h2
  ·rw [if_pos h2]
   refine gI oW Tryz.func225 Tryz.results225 ?_
   exact wR @hbl h1 ah
  ·rw [if_neg (by omega)]
   rcases Nat.lt_or_ge (l.length - k) n with h3 | h3
   ·rw [if_pos h3]
    refine gI oW Tryz.func225 Tryz.results225 ?_
    exact wR @hbl h1 ah
   ·rw [if_neg (by omega)]
    have et : ((bv l).take (k + n)).drop k = bv ((l.drop k).take n) := by rw [BL, iq, List.drop_take]; congr 2; omega
    have et1 : Int.toNat ((k : Int) + (n : Int)) = k + n := by omega
    have hcv := fun s d K => dV (P := Tryz.prog) s d 48 9 .fz ((l.drop k).take n) K (by kernel_rfl) (by kernel_rfl) (by kernel_rfl) (by kernel_rfl)
    refine gI oW Tryz.func225 Tryz.results225 ?_
    (repeat' first | refine wP (aI @pgv (aI @hbl (aI @et1 (aI @et @hcv)))) h1 ?_ | refine tS ?_ ?_ <;> intro hc | fail)
    all_goals (refine rT [] ?_; first | rfl | simp only [pgo, simprocAttr] | skip)
 ·rw [if_pos he]
  refine gI oW Tryz.func225 Tryz.results225 ?_
  exact wR @hbl h1 ah
end Go.Proofs.YtaoejnjkmfkbeaaGreat
section
namespace Go.Proofs.YtaoejnjkmfkbeaaGreat
open Go Go.Pg
section
variable (e : Nat → V) (bx : Nat → Option (TypeId × List V)) (n : Nat) (h : Nat → V)
theorem agv (b : Nat) (l : List Nat) (x : Nat) (k : Nat) (ho : oct l) (hl : l.length ≤ 2147483648) (hk : k ≤ l.length) (hd : aW l = (x, k, 0)) (hb : bx b = some (193, [fzb l, vb false])) (hbn : b < n) :
  GoodZ Tryz.prog 174 [.ref b 0] ⟨e, bx, n, h⟩ ⟨e, upd bx b (some (193, [fzb (l.drop k), vb false])), n, h⟩ (vi (x : Nat)) := by
 have hn := eQ l ho hl
 rw [hd] at hn
 unfold uK at hn
 simp only at hn
 have hbl := ai l
 have ed := iq l k
 refine gZ oW Tryz.func174 Tryz.results174 ?_
 refine wS (aI @dB (aI @bP (aI @bi (aI @hb (aI @pgv (aI @hbl @ed)))))) hn ?_
 refine eY (bU _ _ _) ?_
 rw [cO, df]
theorem aeP (b : Nat) (l : List Nat) (bad : Bool) (ho : oct l) (hl : l.length ≤ 2147483648) (hd : bad = true ∨ (aW l).2.2 ≠ 0) (hb : bx b = some (193, [fzb l, vb bad])) (hbn : b < n) :
  GoodZ Tryz.prog 174 [.ref b 0] ⟨e, bx, n, h⟩ ⟨e, upd bx b (some (193, [fzb l, vb true])), n, h⟩ (vi 0) := by
 have hn := eQ l ho hl
 generalize aW l = q at *
 obtain ⟨x, k, er⟩ := q
 unfold uK at hn
 simp only at hn hd
 cases bad
 ·have he : er ≠ 0 := by rcases hd with hd | hd; cases hd; exact hd
  refine gZ oW Tryz.func174 Tryz.results174 ?_
  (repeat' first | refine wP (aI @dB (aI @bP (aI @bi @hb))) hn ?_ | refine tS ?_ ?_ <;> intro hc | fail)
  all_goals (refine eY (bU _ _ _) ?_; rw [cO, df])
 ·refine gZ oW Tryz.func174 Tryz.results174 ?_
  (repeat' first | refine wP (aI @dB (aI @bP (aI @bi @hb))) hn ?_ | refine tS ?_ ?_ <;> intro hc | fail)
  all_goals (refine eY (bU _ _ _) ?_; rw [cO, df])
theorem agw (b : Nat) (l : List Nat) (x : Nat) (k : Nat) (ho : oct l) (hl : l.length ≤ 2147483648) (hk : k ≤ l.length) (hd : kF l = (x, k, 0)) (hb : bx b = some (193, [fzb l, vb false])) (hbn : b < n) :
  GoodZ Tryz.prog 175 [.ref b 0] ⟨e, bx, n, h⟩ ⟨e, upd bx b (some (193, [fzb (l.drop k), vb false])), n, h⟩ (vu (x : Nat)) := by
 have hn := xR l ho hl
 rw [hd] at hn
 unfold Xx at hn
 simp only at hn
 have hbl := ai l
 have ed := iq l k
 refine gZ oW Tryz.func175 Tryz.results175 ?_
 refine wS (aI @dB (aI @bP (aI @bi (aI @hb (aI @pgv (aI @hbl @ed)))))) hn ?_
 refine eY (bU _ _ _) ?_
 rw [cO, df]
theorem aeQ (b : Nat) (l : List Nat) (bad : Bool) (ho : oct l) (hl : l.length ≤ 2147483648) (hd : bad = true ∨ (kF l).2.2 ≠ 0) (hb : bx b = some (193, [fzb l, vb bad])) (hbn : b < n) :
  GoodZ Tryz.prog 175 [.ref b 0] ⟨e, bx, n, h⟩ ⟨e, upd bx b (some (193, [fzb l, vb true])), n, h⟩ (vu 0) := by
 have hn := xR l ho hl
 generalize kF l = q at *
 obtain ⟨x, k, er⟩ := q
 unfold Xx at hn
 simp only at hn hd
 cases bad
 ·have he : er ≠ 0 := by rcases hd with hd | hd; cases hd; exact hd
  refine gZ oW Tryz.func175 Tryz.results175 ?_
  (repeat' first | refine wP (aI @dB (aI @bP (aI @bi @hb))) hn ?_ | refine tS ?_ ?_ <;> intro hc | fail)
  all_goals (refine eY (bU _ _ _) ?_; rw [cO, df])
 ·refine gZ oW Tryz.func175 Tryz.results175 ?_
  (repeat' first | refine wP (aI @dB (aI @bP (aI @bi @hb))) hn ?_ | refine tS ?_ ?_ <;> intro hc | fail)
  all_goals (refine eY (bU _ _ _) ?_; rw [cO, df])
theorem agx (b : Nat) (l : List Nat) (x : Nat) (k : Nat) (ho : oct l) (hl : l.length ≤ 2147483648) (hk : k ≤ l.length) (hd : aW l = (x, k, 0)) (hb : bx b = some (201, [fzb l, vb false])) (hbn : b < n) :
  GoodZ Tryz.prog 179 [.ref b 0] ⟨e, bx, n, h⟩ ⟨e, upd bx b (some (201, [fzb (l.drop k), vb false])), n, h⟩ (vi (x : Nat)) := by
 have hn := eQ l ho hl
 rw [hd] at hn
 unfold uK at hn
 simp only at hn
 have hbl := ai l
 have ed := iq l k
 refine gZ oW Tryz.func179 Tryz.results179 ?_
 refine wS (aI @dB (aI @bP (aI @bi (aI @hb (aI @pgv (aI @hbl @ed)))))) hn ?_
 refine eY (bU _ _ _) ?_
 rw [cO, df]
theorem aeR (b : Nat) (l : List Nat) (bad : Bool) (ho : oct l) (hl : l.length ≤ 2147483648) (hd : bad = true ∨ (aW l).2.2 ≠ 0) (hb : bx b = some (201, [fzb l, vb bad])) (hbn : b < n) :
  GoodZ Tryz.prog 179 [.ref b 0] ⟨e, bx, n, h⟩ ⟨e, upd bx b (some (201, [fzb l, vb true])), n, h⟩ (vi 0) := by
 have hn := eQ l ho hl
 generalize aW l = q at *
 obtain ⟨x, k, er⟩ := q
 unfold uK at hn
 simp only at hn hd
 cases bad
 ·have he : er ≠ 0 := by rcases hd with hd | hd; cases hd; exact hd
  refine gZ oW Tryz.func179 Tryz.results179 ?_
  (repeat' first | refine wP (aI @dB (aI @bP (aI @bi @hb))) hn ?_ | refine tS ?_ ?_ <;> intro hc | fail)
  all_goals (refine eY (bU _ _ _) ?_; rw [cO, df])
 ·refine gZ oW Tryz.func179 Tryz.results179 ?_
  (repeat' first | refine wP (aI @dB (aI @bP (aI @bi @hb))) hn ?_ | refine tS ?_ ?_ <;> intro hc | fail)
  all_goals (refine eY (bU _ _ _) ?_; rw [cO, df])
theorem agy (b : Nat) (l : List Nat) (x : List Nat) (k : Nat) (ho : oct l) (hl : l.length ≤ 2147483648) (hk : k ≤ l.length) (hd : fO l = (x, k, 0)) (hb : bx b = some (201, [fzb l, vb false])) (hbn : b < n) :
  GoodZ Tryz.prog 180 [.ref b 0] ⟨e, bx, n, h⟩ ⟨e, upd bx b (some (201, [fzb (l.drop k), vb false])), n, h⟩ (vs x) := by
 have hn := mD l ho hl
 rw [hd] at hn
 unfold LQ at hn
 simp only at hn
 have hbl := ai l
 have ed := iq l k
 refine gZ oW Tryz.func180 Tryz.results180 ?_
 refine wS (aI @dB (aI @bP (aI @bi (aI @hb (aI @pgv (aI @hbl @ed)))))) hn ?_
 refine eY (bU _ _ _) ?_
 rw [cO, df]
theorem aeS (b : Nat) (l : List Nat) (bad : Bool) (ho : oct l) (hl : l.length ≤ 2147483648) (hd : bad = true ∨ (fO l).2.2 ≠ 0) (hb : bx b = some (201, [fzb l, vb bad])) (hbn : b < n) :
  GoodZ Tryz.prog 180 [.ref b 0] ⟨e, bx, n, h⟩ ⟨e, upd bx b (some (201, [fzb l, vb true])), n, h⟩ (vs []) := by
 have hn := mD l ho hl
 generalize fO l = q at *
 obtain ⟨x, k, er⟩ := q
 unfold LQ at hn
 simp only at hn hd
 cases bad
 ·have he : er ≠ 0 := by rcases hd with hd | hd; cases hd; exact hd
  refine gZ oW Tryz.func180 Tryz.results180 ?_
  (repeat' first | refine wP (aI @dB (aI @bP (aI @bi @hb))) hn ?_ | refine tS ?_ ?_ <;> intro hc | fail)
  all_goals (refine eY (bU _ _ _) ?_; rw [cO, df])
 ·refine gZ oW Tryz.func180 Tryz.results180 ?_
  (repeat' first | refine wP (aI @dB (aI @bP (aI @bi @hb))) hn ?_ | refine tS ?_ ?_ <;> intro hc | fail)
  all_goals (refine eY (bU _ _ _) ?_; rw [cO, df])
theorem agz (b : Nat) (l : List Nat) (x : Nat) (k : Nat) (ho : oct l) (hl : l.length ≤ 2147483648) (hk : k ≤ l.length) (hd : aW l = (x, k, 0)) (hb : bx b = some (205, [fzb l, vb false])) (hbn : b < n) :
  GoodZ Tryz.prog 181 [.ref b 0] ⟨e, bx, n, h⟩ ⟨e, upd bx b (some (205, [fzb (l.drop k), vb false])), n, h⟩ (vi (x : Nat)) := by
 have hn := eQ l ho hl
 rw [hd] at hn
 unfold uK at hn
 simp only at hn
 have hbl := ai l
 have ed := iq l k
 refine gZ oW Tryz.func181 Tryz.results181 ?_
 refine wS (aI @dB (aI @bP (aI @bi (aI @hb (aI @pgv (aI @hbl @ed)))))) hn ?_
 refine eY (bU _ _ _) ?_
 rw [cO, df]
theorem aeT (b : Nat) (l : List Nat) (bad : Bool) (ho : oct l) (hl : l.length ≤ 2147483648) (hd : bad = true ∨ (aW l).2.2 ≠ 0) (hb : bx b = some (205, [fzb l, vb bad])) (hbn : b < n) :
  GoodZ Tryz.prog 181 [.ref b 0] ⟨e, bx, n, h⟩ ⟨e, upd bx b (some (205, [fzb l, vb true])), n, h⟩ (vi 0) := by
 have hn := eQ l ho hl
 generalize aW l = q at *
 obtain ⟨x, k, er⟩ := q
 unfold uK at hn
 simp only at hn hd
 cases bad
 ·have he : er ≠ 0 := by rcases hd with hd | hd; cases hd; exact hd
  refine gZ oW Tryz.func181 Tryz.results181 ?_
  (repeat' first | refine wP (aI @dB (aI @bP (aI @bi @hb))) hn ?_ | refine tS ?_ ?_ <;> intro hc | fail)
  all_goals (refine eY (bU _ _ _) ?_; rw [cO, df])
 ·refine gZ oW Tryz.func181 Tryz.results181 ?_
  (repeat' first | refine wP (aI @dB (aI @bP (aI @bi @hb))) hn ?_ | refine tS ?_ ?_ <;> intro hc | fail)
  all_goals (refine eY (bU _ _ _) ?_; rw [cO, df])
theorem agA (b : Nat) (l : List Nat) (x : List Nat) (k : Nat) (ho : oct l) (hl : l.length ≤ 2147483648) (hk : k ≤ l.length) (hd : fO l = (x, k, 0)) (hb : bx b = some (205, [fzb l, vb false])) (hbn : b < n) :
  GoodZ Tryz.prog 182 [.ref b 0] ⟨e, bx, n, h⟩ ⟨e, upd bx b (some (205, [fzb (l.drop k), vb false])), n, h⟩ (vs x) := by
 have hn := mD l ho hl
 rw [hd] at hn
 unfold LQ at hn
 simp only at hn
 have hbl := ai l
 have ed := iq l k
 refine gZ oW Tryz.func182 Tryz.results182 ?_
 refine wS (aI @dB (aI @bP (aI @bi (aI @hb (aI @pgv (aI @hbl @ed)))))) hn ?_
 refine eY (bU _ _ _) ?_
 rw [cO, df]
theorem aeU (b : Nat) (l : List Nat) (bad : Bool) (ho : oct l) (hl : l.length ≤ 2147483648) (hd : bad = true ∨ (fO l).2.2 ≠ 0) (hb : bx b = some (205, [fzb l, vb bad])) (hbn : b < n) :
  GoodZ Tryz.prog 182 [.ref b 0] ⟨e, bx, n, h⟩ ⟨e, upd bx b (some (205, [fzb l, vb true])), n, h⟩ (vs []) := by
 have hn := mD l ho hl
 generalize fO l = q at *
 obtain ⟨x, k, er⟩ := q
 unfold LQ at hn
 simp only at hn hd
 cases bad
 ·have he : er ≠ 0 := by rcases hd with hd | hd; cases hd; exact hd
  refine gZ oW Tryz.func182 Tryz.results182 ?_
  (repeat' first | refine wP (aI @dB (aI @bP (aI @bi @hb))) hn ?_ | refine tS ?_ ?_ <;> intro hc | fail)
  all_goals (refine eY (bU _ _ _) ?_; rw [cO, df])
 ·refine gZ oW Tryz.func182 Tryz.results182 ?_
  (repeat' first | refine wP (aI @dB (aI @bP (aI @bi @hb))) hn ?_ | refine tS ?_ ?_ <;> intro hc | fail)
  all_goals (refine eY (bU _ _ _) ?_; rw [cO, df])
theorem agB (b : Nat) (l : List Nat) (x : Nat) (k : Nat) (ho : oct l) (hl : l.length ≤ 2147483648) (hk : k ≤ l.length) (hd : aW l = (x, k, 0)) (hb : bx b = some (208, [fzb l, vb false])) (hbn : b < n) :
  GoodZ Tryz.prog 183 [.ref b 0] ⟨e, bx, n, h⟩ ⟨e, upd bx b (some (208, [fzb (l.drop k), vb false])), n, h⟩ (vi (x : Nat)) := by
 have hn := eQ l ho hl
 rw [hd] at hn
 unfold uK at hn
 simp only at hn
 have hbl := ai l
 have ed := iq l k
 refine gZ oW Tryz.func183 Tryz.results183 ?_
 refine wS (aI @dB (aI @bP (aI @bi (aI @hb (aI @pgv (aI @hbl @ed)))))) hn ?_
 refine eY (bU _ _ _) ?_
 rw [cO, df]
theorem aeV (b : Nat) (l : List Nat) (bad : Bool) (ho : oct l) (hl : l.length ≤ 2147483648) (hd : bad = true ∨ (aW l).2.2 ≠ 0) (hb : bx b = some (208, [fzb l, vb bad])) (hbn : b < n) :
  GoodZ Tryz.prog 183 [.ref b 0] ⟨e, bx, n, h⟩ ⟨e, upd bx b (some (208, [fzb l, vb true])), n, h⟩ (vi 0) := by
 have hn := eQ l ho hl
 generalize aW l = q at *
 obtain ⟨x, k, er⟩ := q
 unfold uK at hn
 simp only at hn hd
 cases bad
 ·have he : er ≠ 0 := by rcases hd with hd | hd; cases hd; exact hd
  refine gZ oW Tryz.func183 Tryz.results183 ?_
  (repeat' first | refine wP (aI @dB (aI @bP (aI @bi @hb))) hn ?_ | refine tS ?_ ?_ <;> intro hc | fail)
  all_goals (refine eY (bU _ _ _) ?_; rw [cO, df])
 ·refine gZ oW Tryz.func183 Tryz.results183 ?_
  (repeat' first | refine wP (aI @dB (aI @bP (aI @bi @hb))) hn ?_ | refine tS ?_ ?_ <;> intro hc | fail)
  all_goals (refine eY (bU _ _ _) ?_; rw [cO, df])
theorem agC (b : Nat) (l : List Nat) (x : List Nat) (k : Nat) (ho : oct l) (hl : l.length ≤ 2147483648) (hk : k ≤ l.length) (hd : fO l = (x, k, 0)) (hb : bx b = some (208, [fzb l, vb false])) (hbn : b < n) :
  GoodZ Tryz.prog 184 [.ref b 0] ⟨e, bx, n, h⟩ ⟨e, upd bx b (some (208, [fzb (l.drop k), vb false])), n, h⟩ (vs x) := by
 have hn := mD l ho hl
 rw [hd] at hn
 unfold LQ at hn
 simp only at hn
 have hbl := ai l
 have ed := iq l k
 refine gZ oW Tryz.func184 Tryz.results184 ?_
 refine wS (aI @dB (aI @bP (aI @bi (aI @hb (aI @pgv (aI @hbl @ed)))))) hn ?_
 refine eY (bU _ _ _) ?_
 rw [cO, df]
theorem aeW (b : Nat) (l : List Nat) (bad : Bool) (ho : oct l) (hl : l.length ≤ 2147483648) (hd : bad = true ∨ (fO l).2.2 ≠ 0) (hb : bx b = some (208, [fzb l, vb bad])) (hbn : b < n) :
  GoodZ Tryz.prog 184 [.ref b 0] ⟨e, bx, n, h⟩ ⟨e, upd bx b (some (208, [fzb l, vb true])), n, h⟩ (vs []) := by
 have hn := mD l ho hl
 generalize fO l = q at *
 obtain ⟨x, k, er⟩ := q
 unfold LQ at hn
 simp only at hn hd
 cases bad
 ·have he : er ≠ 0 := by rcases hd with hd | hd; cases hd; exact hd
  refine gZ oW Tryz.func184 Tryz.results184 ?_
  (repeat' first | refine wP (aI @dB (aI @bP (aI @bi @hb))) hn ?_ | refine tS ?_ ?_ <;> intro hc | fail)
  all_goals (refine eY (bU _ _ _) ?_; rw [cO, df])
 ·refine gZ oW Tryz.func184 Tryz.results184 ?_
  (repeat' first | refine wP (aI @dB (aI @bP (aI @bi @hb))) hn ?_ | refine tS ?_ ?_ <;> intro hc | fail)
  all_goals (refine eY (bU _ _ _) ?_; rw [cO, df])
end
end Go.Proofs.YtaoejnjkmfkbeaaGreat
end
section
namespace Go.Proofs.YtaoejnjkmfkbeaaGreat
open Go Go.Pg
def nuX (l : List Nat) (b : Bool) : Nat := if b = true ∨ (aW l).2.2 ≠ 0 then 0 else (aW l).1
def nuL (l : List Nat) (b : Bool) : List Nat := if b = true ∨ (aW l).2.2 ≠ 0 then l else l.drop (aW l).2.1
def nuB (l : List Nat) (b : Bool) : Bool := if b = true ∨ (aW l).2.2 ≠ 0 then true else false
def woX (l : List Nat) (b : Bool) : Nat := if b = true ∨ (kF l).2.2 ≠ 0 then 0 else (kF l).1
def woL (l : List Nat) (b : Bool) : List Nat := if b = true ∨ (kF l).2.2 ≠ 0 then l else l.drop (kF l).2.1
def woB (l : List Nat) (b : Bool) : Bool := if b = true ∨ (kF l).2.2 ≠ 0 then true else false
def teX (l : List Nat) (b : Bool) : List Nat := if b = true ∨ (fO l).2.2 ≠ 0 then [] else (fO l).1
def teL (l : List Nat) (b : Bool) : List Nat := if b = true ∨ (fO l).2.2 ≠ 0 then l else l.drop (fO l).2.1
def teB (l : List Nat) (b : Bool) : Bool := if b = true ∨ (fO l).2.2 ≠ 0 then true else false
theorem zK (l : List Nat) (b : Bool) (ho : oct l) : nuX l b ≤ 4611686018427387904 := by unfold nuX; split; omega; exact (iT l ho).1
theorem sQ {l : List Nat} (b : Bool) (ho : oct l) : oct (nuL l b) := by unfold nuL; split; exact ho; exact dZ ho _
theorem sU (l : List Nat) (b : Bool) : (nuL l b).length ≤ l.length := by unfold nuL; split; omega; rw [List.length_drop]; omega
theorem abe {l : List Nat} (b : Bool) (ho : oct l) : oct (woL l b) := by unfold woL; split; exact ho; exact dZ ho _
theorem abf (l : List Nat) (b : Bool) : (woL l b).length ≤ l.length := by unfold woL; split; omega; rw [List.length_drop]; omega
theorem FV {l : List Nat} (b : Bool) (ho : oct l) : oct (teL l b) := by unfold teL; split; exact ho; exact dZ ho _
theorem FW (l : List Nat) (b : Bool) : (teL l b).length ≤ l.length := by unfold teL; split; omega; rw [List.length_drop]; omega
theorem BN (l : List Nat) (ho : oct l) : (kF l).1 < 18446744073709551616 ∧ ((kF l).2.2 = 0 → (kF l).2.1 ≤ l.length) := by
 unfold kF
 split
 ·exact ⟨by decide, fun h => by cases h⟩
 ·exact ⟨wz ho (i := 8) (by omega), fun _ => by simp only; omega⟩
theorem Og (l : List Nat) (b : Bool) (ho : oct l) : woX l b < 18446744073709551616 := by unfold woX; split; omega; exact (BN l ho).1
theorem rV (l : List Nat) (ho : oct l) : oct (fO l).1 ∧ (fO l).1.length ≤ 65536 ∧ ((fO l).2.2 = 0 → (fO l).2.1 ≤ l.length) := by
 obtain ⟨l1, l2, l3⟩ := iT l ho
 unfold fO
 split
 ·exact ⟨kY, by simp, fun h => by simp only; omega⟩
 ·split
  ·exact ⟨kY, by simp, fun h => by cases h⟩
  ·split
   ·exact ⟨kY, by simp, fun h => by cases h⟩
   ·exact ⟨mY (dZ ho _) _, by simp only [List.length_take]; omega, fun _ => by simp only; omega⟩
theorem FX (l : List Nat) (b : Bool) (ho : oct l) : oct (teX l b) ∧ (teX l b).length ≤ 65536 := by
 unfold teX
 split
 ·exact ⟨kY, by simp⟩
 ·exact ⟨(rV l ho).1, (rV l ho).2.1⟩
section
variable (e : Nat → V) (bx : Nat → Option (TypeId × List V)) (n : Nat) (h : Nat → V)
theorem Xy (b : Nat) (l : List Nat) (bad : Bool) (ho : oct l) (hl : l.length ≤ 2147483648) (hb : bx b = some (193, [fzb l, vb bad])) (hbn : b < n) :
  GoodZ Tryz.prog 174 [.ref b 0] ⟨e, bx, n, h⟩ ⟨e, upd bx b (some (193, [fzb (nuL l bad), vb (nuB l bad)])), n, h⟩ (vi (nuX l bad : Nat)) := by
 by_cases hc : bad = true ∨ (aW l).2.2 ≠ 0
 ·have e1 : nuX l bad = 0 := if_pos hc
  have e2 : nuL l bad = l := if_pos hc
  have e3 : nuB l bad = true := if_pos hc
  rw [e1, e2, e3]
  exact aeP e bx n h b l bad ho hl hc hb hbn
 ·have e1 : nuX l bad = (aW l).1 := if_neg hc
  have e2 : nuL l bad = l.drop (aW l).2.1 := if_neg hc
  have e3 : nuB l bad = false := if_neg hc
  rw [e1, e2, e3]
  have h0 : (aW l).2.2 = 0 := by
   rcases Nat.eq_zero_or_pos (aW l).2.2 with h0 | h0
   ·exact h0
   ·exact absurd (.inr (by omega)) hc
  cases bad with
  | true => exact absurd (.inl rfl) hc
  | false => exact agv e bx n h b l (aW l).1 (aW l).2.1 ho hl ((iT l ho).2.1) (by rw [← h0]) hb hbn
theorem aeX (b : Nat) (l : List Nat) (bad : Bool) (ho : oct l) (hl : l.length ≤ 2147483648) (hb : bx b = some (193, [fzb l, vb bad])) (hbn : b < n) :
  GoodZ Tryz.prog 175 [.ref b 0] ⟨e, bx, n, h⟩ ⟨e, upd bx b (some (193, [fzb (woL l bad), vb (woB l bad)])), n, h⟩ (vu (woX l bad : Nat)) := by
 by_cases hc : bad = true ∨ (kF l).2.2 ≠ 0
 ·have e1 : woX l bad = 0 := if_pos hc
  have e2 : woL l bad = l := if_pos hc
  have e3 : woB l bad = true := if_pos hc
  rw [e1, e2, e3]
  exact aeQ e bx n h b l bad ho hl hc hb hbn
 ·have e1 : woX l bad = (kF l).1 := if_neg hc
  have e2 : woL l bad = l.drop (kF l).2.1 := if_neg hc
  have e3 : woB l bad = false := if_neg hc
  rw [e1, e2, e3]
  have h0 : (kF l).2.2 = 0 := by
   rcases Nat.eq_zero_or_pos (kF l).2.2 with h0 | h0
   ·exact h0
   ·exact absurd (.inr (by omega)) hc
  cases bad with
  | true => exact absurd (.inl rfl) hc
  | false => exact agw e bx n h b l (kF l).1 (kF l).2.1 ho hl ((BN l ho).2 h0) (by rw [← h0]) hb hbn
theorem Xz (b : Nat) (l : List Nat) (bad : Bool) (ho : oct l) (hl : l.length ≤ 2147483648) (hb : bx b = some (201, [fzb l, vb bad])) (hbn : b < n) :
  GoodZ Tryz.prog 179 [.ref b 0] ⟨e, bx, n, h⟩ ⟨e, upd bx b (some (201, [fzb (nuL l bad), vb (nuB l bad)])), n, h⟩ (vi (nuX l bad : Nat)) := by
 by_cases hc : bad = true ∨ (aW l).2.2 ≠ 0
 ·have e1 : nuX l bad = 0 := if_pos hc
  have e2 : nuL l bad = l := if_pos hc
  have e3 : nuB l bad = true := if_pos hc
  rw [e1, e2, e3]
  exact aeR e bx n h b l bad ho hl hc hb hbn
 ·have e1 : nuX l bad = (aW l).1 := if_neg hc
  have e2 : nuL l bad = l.drop (aW l).2.1 := if_neg hc
  have e3 : nuB l bad = false := if_neg hc
  rw [e1, e2, e3]
  have h0 : (aW l).2.2 = 0 := by
   rcases Nat.eq_zero_or_pos (aW l).2.2 with h0 | h0
   ·exact h0
   ·exact absurd (.inr (by omega)) hc
  cases bad with
  | true => exact absurd (.inl rfl) hc
  | false => exact agx e bx n h b l (aW l).1 (aW l).2.1 ho hl ((iT l ho).2.1) (by rw [← h0]) hb hbn
theorem aeY (b : Nat) (l : List Nat) (bad : Bool) (ho : oct l) (hl : l.length ≤ 2147483648) (hb : bx b = some (201, [fzb l, vb bad])) (hbn : b < n) :
  GoodZ Tryz.prog 180 [.ref b 0] ⟨e, bx, n, h⟩ ⟨e, upd bx b (some (201, [fzb (teL l bad), vb (teB l bad)])), n, h⟩ (vs (teX l bad)) := by
 by_cases hc : bad = true ∨ (fO l).2.2 ≠ 0
 ·have e1 : teX l bad = [] := if_pos hc
  have e2 : teL l bad = l := if_pos hc
  have e3 : teB l bad = true := if_pos hc
  rw [e1, e2, e3]
  exact aeS e bx n h b l bad ho hl hc hb hbn
 ·have e1 : teX l bad = (fO l).1 := if_neg hc
  have e2 : teL l bad = l.drop (fO l).2.1 := if_neg hc
  have e3 : teB l bad = false := if_neg hc
  rw [e1, e2, e3]
  have h0 : (fO l).2.2 = 0 := by
   rcases Nat.eq_zero_or_pos (fO l).2.2 with h0 | h0
   ·exact h0
   ·exact absurd (.inr (by omega)) hc
  cases bad with
  | true => exact absurd (.inl rfl) hc
  | false => exact agy e bx n h b l (fO l).1 (fO l).2.1 ho hl ((rV l ho).2.2 h0) (by rw [← h0]) hb hbn
theorem abK (b : Nat) (l : List Nat) (bad : Bool) (ho : oct l) (hl : l.length ≤ 2147483648) (hb : bx b = some (205, [fzb l, vb bad])) (hbn : b < n) :
  GoodZ Tryz.prog 181 [.ref b 0] ⟨e, bx, n, h⟩ ⟨e, upd bx b (some (205, [fzb (nuL l bad), vb (nuB l bad)])), n, h⟩ (vi (nuX l bad : Nat)) := by
 by_cases hc : bad = true ∨ (aW l).2.2 ≠ 0
 ·have e1 : nuX l bad = 0 := if_pos hc
  have e2 : nuL l bad = l := if_pos hc
  have e3 : nuB l bad = true := if_pos hc
  rw [e1, e2, e3]
  exact aeT e bx n h b l bad ho hl hc hb hbn
 ·have e1 : nuX l bad = (aW l).1 := if_neg hc
  have e2 : nuL l bad = l.drop (aW l).2.1 := if_neg hc
  have e3 : nuB l bad = false := if_neg hc
  rw [e1, e2, e3]
  have h0 : (aW l).2.2 = 0 := by
   rcases Nat.eq_zero_or_pos (aW l).2.2 with h0 | h0
   ·exact h0
   ·exact absurd (.inr (by omega)) hc
  cases bad with
  | true => exact absurd (.inl rfl) hc
  | false => exact agz e bx n h b l (aW l).1 (aW l).2.1 ho hl ((iT l ho).2.1) (by rw [← h0]) hb hbn
theorem aeZ (b : Nat) (l : List Nat) (bad : Bool) (ho : oct l) (hl : l.length ≤ 2147483648) (hb : bx b = some (205, [fzb l, vb bad])) (hbn : b < n) :
  GoodZ Tryz.prog 182 [.ref b 0] ⟨e, bx, n, h⟩ ⟨e, upd bx b (some (205, [fzb (teL l bad), vb (teB l bad)])), n, h⟩ (vs (teX l bad)) := by
 by_cases hc : bad = true ∨ (fO l).2.2 ≠ 0
 ·have e1 : teX l bad = [] := if_pos hc
  have e2 : teL l bad = l := if_pos hc
  have e3 : teB l bad = true := if_pos hc
  rw [e1, e2, e3]
  exact aeU e bx n h b l bad ho hl hc hb hbn
 ·have e1 : teX l bad = (fO l).1 := if_neg hc
  have e2 : teL l bad = l.drop (fO l).2.1 := if_neg hc
  have e3 : teB l bad = false := if_neg hc
  rw [e1, e2, e3]
  have h0 : (fO l).2.2 = 0 := by
   rcases Nat.eq_zero_or_pos (fO l).2.2 with h0 | h0
   ·exact h0
   ·exact absurd (.inr (by omega)) hc
  cases bad with
  | true => exact absurd (.inl rfl) hc
  | false => exact agA e bx n h b l (fO l).1 (fO l).2.1 ho hl ((rV l ho).2.2 h0) (by rw [← h0]) hb hbn
theorem abL (b : Nat) (l : List Nat) (bad : Bool) (ho : oct l) (hl : l.length ≤ 2147483648) (hb : bx b = some (208, [fzb l, vb bad])) (hbn : b < n) :
  GoodZ Tryz.prog 183 [.ref b 0] ⟨e, bx, n, h⟩ ⟨e, upd bx b (some (208, [fzb (nuL l bad), vb (nuB l bad)])), n, h⟩ (vi (nuX l bad : Nat)) := by
 by_cases hc : bad = true ∨ (aW l).2.2 ≠ 0
 ·have e1 : nuX l bad = 0 := if_pos hc
  have e2 : nuL l bad = l := if_pos hc
  have e3 : nuB l bad = true := if_pos hc
  rw [e1, e2, e3]
  exact aeV e bx n h b l bad ho hl hc hb hbn
 ·have e1 : nuX l bad = (aW l).1 := if_neg hc
  have e2 : nuL l bad = l.drop (aW l).2.1 := if_neg hc
  have e3 : nuB l bad = false := if_neg hc
  rw [e1, e2, e3]
  have h0 : (aW l).2.2 = 0 := by
   rcases Nat.eq_zero_or_pos (aW l).2.2 with h0 | h0
   ·exact h0
   ·exact absurd (.inr (by omega)) hc
  cases bad with
  | true => exact absurd (.inl rfl) hc
  | false => exact agB e bx n h b l (aW l).1 (aW l).2.1 ho hl ((iT l ho).2.1) (by rw [← h0]) hb hbn
theorem ae0 (b : Nat) (l : List Nat) (bad : Bool) (ho : oct l) (hl : l.length ≤ 2147483648) (hb : bx b = some (208, [fzb l, vb bad])) (hbn : b < n) :
  GoodZ Tryz.prog 184 [.ref b 0] ⟨e, bx, n, h⟩ ⟨e, upd bx b (some (208, [fzb (teL l bad), vb (teB l bad)])), n, h⟩ (vs (teX l bad)) := by
 by_cases hc : bad = true ∨ (fO l).2.2 ≠ 0
 ·have e1 : teX l bad = [] := if_pos hc
  have e2 : teL l bad = l := if_pos hc
  have e3 : teB l bad = true := if_pos hc
  rw [e1, e2, e3]
  exact aeW e bx n h b l bad ho hl hc hb hbn
 ·have e1 : teX l bad = (fO l).1 := if_neg hc
  have e2 : teL l bad = l.drop (fO l).2.1 := if_neg hc
  have e3 : teB l bad = false := if_neg hc
  rw [e1, e2, e3]
  have h0 : (fO l).2.2 = 0 := by
   rcases Nat.eq_zero_or_pos (fO l).2.2 with h0 | h0
   ·exact h0
   ·exact absurd (.inr (by omega)) hc
  cases bad with
  | true => exact absurd (.inl rfl) hc
  | false => exact agC e bx n h b l (fO l).1 (fO l).2.1 ho hl ((rV l ho).2.2 h0) (by rw [← h0]) hb hbn
end
end Go.Proofs.YtaoejnjkmfkbeaaGreat
end
namespace Go.Proofs.YtaoejnjkmfkbeaaGreat
open Go Go.Pg
theorem abM (n : Int) (h : 0 ≤ n ∧ n ≤ 4294967295) : IntKind.u32.wrap n = n := IntWalk.u32_in n h
theorem Jf (x c : Nat) (hx : x < 16777216) (hc : c < 256) : bits .or .u32 (IntKind.u32.wrap ((x : Int) * 2 ^ min 8 IntKind.u32.bits)) (c : Int) = ((x * 256 + c : Nat) : Int) := by
 have e : (2 : Int) ^ min 8 IntKind.u32.bits = 256 := rfl
 rw [e, abM _ (by omega)]
 rw [bits_join .u32 32 (by decide) (fun n h0 h1 => abM n ⟨h0, by omega⟩) 8 _ _ (by omega) (by omega) (by omega) (by omega) (by omega) (by omega)]
 omega
theorem Oh (m : List Nat) (ho : oct m) : (aW m).1 ≤ 4611686018427387904 ∧ (aW m).2.1 ≤ 255 := by
 unfold aW
 have := iZ ho 0
 split
 ·dsimp only; omega
 split
 ·dsimp only; omega
 split
 ·dsimp only; omega
 split
 ·dsimp only; omega
 ·rename_i h; simp only [not_or] at h; dsimp only; omega
def zl (e : Nat) : V := .tup [.c (.int .u8 0), .c (.slice none 0 0), vi 0, vi (e : Nat)]
def ft (l : List Nat) (e : Nat) : List Nat := (l.take (e + 4)).drop e
theorem XA {l : List Nat} {e : Nat} (h : e + 4 ≤ l.length) : (ft l e).length = 4 := by simp [ft]; omega
theorem XB {l : List Nat} (h : oct l) (e : Nat) : oct (ft l e) := fun x hx => h x (List.mem_of_mem_take (List.mem_of_mem_drop hx))
def unF (l : List Nat) : V :=
 if l.length = 0 then zl 3 else
 if (aW (l.drop 1)).2.2 ≠ 0 then zl (aW (l.drop 1)).2.2 else
 if 1048576 < (aW (l.drop 1)).1 then zl 2 else
 if l.length < 1 + (aW (l.drop 1)).2.1 + (aW (l.drop 1)).1 + 4 then zl 3 else
 if acc (ft l (1 + (aW (l.drop 1)).2.1 + (aW (l.drop 1)).1)) ≠ ckN (l.take (1 + (aW (l.drop 1)).2.1 + (aW (l.drop 1)).1)) then zl 4 else
 .tup [.c (.int .u8 (l.getD 0 0 : Nat)), ob 0 ((l.take (1 + (aW (l.drop 1)).2.1 + (aW (l.drop 1)).1)).drop (1 + (aW (l.drop 1)).2.1)),
  vi (1 + (aW (l.drop 1)).2.1 + (aW (l.drop 1)).1 + 4 : Nat), vi 0]
theorem Rh (l : List Nat) (ho : oct l) (hl : l.length ≤ 2147483648) (hx0 : (aW (l.drop 1)).1 ≠ 0) : Pg.Good Tryz.prog 94 [fzb l] (unF l) := by
 have hbl := ai l
 unfold unF
 rcases Nat.eq_zero_or_pos l.length with h0 | h0
 ·rw [if_pos h0]
  refine gI oW Tryz.func94 Tryz.results94 ?_
  exact wR @hbl trivial ah
 rw [if_neg (by omega)]
 have hG := eQ (l.drop 1) (dZ ho 1) (by simp; omega)
 obtain ⟨x1, x2⟩ := Oh (l.drop 1) (dZ ho 1)
 unfold uK at hG
 have ed := iq l 1
 have hg0 := lL l 0 h0
 generalize aW (l.drop 1) = q at *
 obtain ⟨x, u, e⟩ := q
 simp only at *
 by_cases he : e = 0
 ·subst he
  rw [if_neg (by simp)]
  rcases Nat.lt_or_ge 1048576 x with h1 | h1
  ·rw [if_pos h1]
   refine gI oW Tryz.func94 Tryz.results94 ?_
   exact wR (aI @pgv (aI @hbl @ed)) hG ah
  rw [if_neg (show ¬ 1048576 < x by omega)]
  rcases Nat.lt_or_ge l.length (1 + u + x + 4) with h2 | h2
  ·rw [if_pos h2]
   refine gI oW Tryz.func94 Tryz.results94 ?_
   exact wR (aI @pgv (aI @hbl @ed)) hG ah
  rw [if_neg (show ¬ l.length < 1 + u + x + 4 by omega)]
  have hfl := XA (l := l) (e := 1 + u + x) (by omega)
  have hfo := XB ho (1 + u + x)
  have hft : ((bv l).take (1 + u + x + 4)).drop (1 + u + x) = bv (ft l (1 + u + x)) := by rw [BL, iq]; rfl
  have hfb := ai (ft l (1 + u + x))
  rw [hfl] at hfb
  have etk := BL l (1 + u + x)
  have ebd := iq (l.take (1 + u + x)) (1 + u)
  have t1 : Int.toNat (1 + (u : Int) + (x : Int) + 4) = 1 + u + x + 4 := by omega
  have t2 : Int.toNat (1 + (u : Int) + (x : Int)) = 1 + u + x := by omega
  have t3 : Int.toNat (1 + (u : Int)) = 1 + u := by omega
  have hpl : (l.take (1 + u + x)).length = 1 + u + x := by rw [List.length_take]; omega
  have hdl : ((l.take (1 + u + x)).drop (1 + u)).length = x := by rw [List.length_drop, hpl]; omega
  have hdb := ai ((l.take (1 + u + x)).drop (1 + u))
  rw [hdl] at hdb
  have k1 := uB (l.take (1 + u + x)) (mY ho _) (by omega)
  have hck := xG (l.take (1 + u + x))
  refine gI oW Tryz.func94 Tryz.results94 ?_
  refine wS (aI @pgv (aI @hbl (aI @ed (aI @t1 (aI @t2 (aI @t3 (aI @hft @hfb))))))) hG ?_
  refine bn (fun i : Nat => mkA [(0, fzb l), (7, vi (u : Nat)), (8, vi (1 + (u : Int) + (x : Int))), (9, .c (.int .u32 (acc ((ft l (1 + u + x)).take i) : Nat))), (46, fzb (ft l (1 + u + x))), (47, vi 4), (48, vi i)] [] 0 (fun _ => .top)) (fun i => i ≤ 4) (fun i => 4 - i) 0 [] [] ?_ (Nat.zero_le _) ?_
  ·(refine aN ?_ ?_ (bG _ _ _) (by decide) (by decide) (by decide) (by decide); (repeat' (first | exact trivial | refine aG _ _ rfl rfl ?_ ?_)); all_goals (try simp only [pgs, pgl, pgx, pgf, pgw, ay, aJ, az, aK, aZ, bV, bD, pgn, simprocAttr]); all_goals (try (repeat' (first | apply aI))); all_goals (try (first | exact trivial | exact au (by omega) | exact aU rfl | exact ak rfl rfl | exact bg rfl)))
   all_goals first | exact aU rfl | exact au (by omega) | skip
  ·intro i hi
   replace hi : i ≤ 4 := hi
   have hb := iZ hfo i
   have ha := wz hfo (i := i) (by omega)
   rcases Nat.lt_or_ge i 4 with hlt | hge
   ·have hp : 256 ^ i ≤ 256 ^ 3 := Nat.pow_le_pow_right (by omega) (by omega)
    have hgi := lL (ft l (1 + u + x)) i (by omega)
    have e6 := BM (s := ft l (1 + u + x)) (i := i) (by omega)
    have e7 := Jf (acc ((ft l (1 + u + x)).take i)) ((ft l (1 + u + x)).getD i 0) (by omega) hb
    rw [e6] at e7
    refine wS (aI @hfb (aI @hgi @e7)) trivial ?_
    (refine bu (i + 1) [] [] (hlt) (by first | omega | (simp only [List.length_cons]; omega)) ?_; (refine aN ?_ ?_ (bG _ _ _) (by decide) (by decide) (by decide) (by decide); (repeat' (first | exact trivial | refine aG _ _ rfl rfl ?_ ?_)); all_goals (try simp only [pgs, pgl, pgx, pgf, pgw, ay, aJ, az, aK, aZ, bV, bD, pgn, simprocAttr]); all_goals (try (repeat' (first | apply aI))); all_goals (try (first | exact trivial | exact au (by omega) | exact aU rfl | exact ak rfl rfl | exact bg rfl))))
    all_goals first | exact au (by omega) | skip
   ·have hik : i = 4 := by omega
    subst hik
    have e : (ft l (1 + u + x)).take 4 = ft l (1 + u + x) := List.take_of_length_le (by omega)
    rw [e] at *
    generalize ft l (1 + u + x) = F at *
    by_cases hc : acc F = ckN (l.take (1 + u + x))
    ·rw [if_neg (fun h => h hc)]
     rw [hc]
     exact wR (aI @pgv (aI @hfb (aI @hbl (aI @t2 (aI @t3 (aI @etk (aI @ebd (aI @hdb @hg0)))))))) k1 (ids [1])
    ·rw [if_pos hc]
     exact wR (aI @pgv (aI @hfb (aI @hbl (aI @t2 (aI @t3 @etk))))) k1 ah
 ·rw [if_pos he]
  refine gI oW Tryz.func94 Tryz.results94 ?_
  exact wR (aI @pgv (aI @hbl @ed)) hG ah
theorem XC : ∀ (k n : Nat), acc (be k n) = n % 256 ^ k := by
 intro k
 induction k with
 | zero => intro n; simp [be, acc, Nat.mod_one]
 | succ k ih =>
  intro n
  rw [be, ww, ih, Nat.pow_succ, Nat.mul_comm (256 ^ k), Nat.mod_mul]
  omega
theorem lG (n : Nat) (hn : n ≤ 4611686018427387904) (r : List Nat) : aW (ae n ++ r) = (n, (ae n).length, 0) := by
 by_cases h : n < 248
 ·rw [NE h]
  unfold aW
  rw [if_neg (by simp), if_pos (by simpa using h)]
  simp
 ·have h8 : n < 256 ^ 8 := by omega
  obtain ⟨d1, d2, d3⟩ := ES 8 n h8
  obtain ⟨d4, d5⟩ := d2 (by omega)
  rw [NF h]
  generalize dg 8 n = k at *
  obtain ⟨k, rfl⟩ : ∃ j, k = j + 1 := ⟨k - 1, by omega⟩
  have hl := Lj (k + 1) n
  have ha := XC (k + 1) n
  rw [Nat.mod_eq_of_lt d1] at ha
  have hh := lY k n
  rw [Nat.add_sub_cancel] at d4
  have hp : 1 ≤ n / 256 ^ k := Nat.div_pos d4 (Nat.pow_pos (by omega))
  have hq : n / 256 ^ k < 256 := by rw [Nat.div_lt_iff_lt_mul (Nat.pow_pos (by omega))]; rw [Nat.pow_succ] at d1; rw [Nat.mul_comm]; exact d1
  have g0 : ((247 + (k + 1)) :: be (k + 1) n ++ r).getD 0 0 = 247 + (k + 1) := rfl
  have g1 : ((247 + (k + 1)) :: be (k + 1) n ++ r).getD 1 0 = n / 256 ^ k := by
   rw [hh, Nat.mod_eq_of_lt hq]; rfl
  have gm : mid ((247 + (k + 1)) :: be (k + 1) n ++ r) (k + 2) = be (k + 1) n := by
   unfold mid
   rw [List.cons_append, List.take_succ_cons, List.drop_succ_cons, List.drop_zero, List.take_append_of_le_length (by omega), List.take_of_length_le (by omega)]
  have gl : ((247 + (k + 1)) :: be (k + 1) n ++ r).length = k + 2 + r.length := by simp only [List.cons_append, List.length_cons, List.length_append, hl]; omega
  have e246 : 247 + (k + 1) - 246 = k + 2 := by omega
  unfold aW
  rw [g0, g1, gl, e246, gm, ha]
  rw [if_neg (by omega), if_neg (by omega), if_neg (by omega), if_neg (by omega)]
  simp [hl]
theorem oC (n m : Nat) : u8i ((n : Int).fdiv (2 ^ (8 * m))) = n / 256 ^ m % 256 := by
 have e2 : (256 ^ m : Nat) = 2 ^ (8 * m) := by rw [Nat.pow_mul]
 rw [show (2 : Int) ^ (8 * m) = ((2 ^ (8 * m) : Nat) : Int) by simp, Int.fdiv_eq_ediv_of_nonneg _ (Int.natCast_nonneg _), ← Int.natCast_ediv, e2]
 unfold u8i
 omega
theorem XD (n : Nat) : eX (n : Int) = be 8 n := by
 have e : eX (n : Int) = [n / 256 ^ 7 % 256, n / 256 ^ 6 % 256, n / 256 ^ 5 % 256, n / 256 ^ 4 % 256, n / 256 ^ 3 % 256, n / 256 ^ 2 % 256, n / 256 ^ 1 % 256, n / 256 ^ 0 % 256] := by
  rw [← oC n 7, ← oC n 6, ← oC n 5, ← oC n 4, ← oC n 3, ← oC n 2, ← oC n 1, ← oC n 0]; rfl
 rw [e]
 rw [lY 7, lY 6, lY 5, lY 4, lY 3, lY 2, lY 1, lY 0]; rfl
theorem Jg (x : Int) (hx : 0 ≤ x ∧ x < 18446744073709551616) (r : List Nat) : kF (eX x ++ r) = (x.toNat, 8, 0) := by
 obtain ⟨n, rfl⟩ := Int.eq_ofNat_of_zero_le hx.1
 have hl := fC (n : Int)
 unfold kF
 rw [if_neg (by rw [List.length_append]; omega), List.take_append_of_le_length (by omega), List.take_of_length_le (by omega), XD, XC, Nat.mod_eq_of_lt (by omega)]
 rfl
theorem XE (s : List Nat) (hs : s.length ≤ 65536) (r : List Nat) : fO (bT s ++ r) = (s, (bT s).length, 0) := by
 have h := lG s.length (by omega) (s ++ r)
 unfold bT
 rw [List.append_assoc]
 unfold fO
 rw [h]
 simp only
 rw [if_neg (by simp), if_neg (by omega), if_neg (by simp only [List.length_append]; omega)]
 rw [List.drop_left, List.take_left]
 simp
theorem abg (F : List Nat) : acc (ckB F) = ckN F := by
 have h := xG F
 unfold ckB acc
 simp only [List.foldl_cons, List.foldl_nil]
 omega
end Go.Proofs.YtaoejnjkmfkbeaaGreat
