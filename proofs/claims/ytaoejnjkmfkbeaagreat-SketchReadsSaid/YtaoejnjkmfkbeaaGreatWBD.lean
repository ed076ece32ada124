/-
  Texts of this claim, merged; own names are short.
-/
import Derived.Test.YtaoejnjkmfkbeaaGreatWBC
import Derived.Test.YtaoejnjkmfkbeaaGreatWBB
import Derived.Test.YtaoejnjkmfkbeaaGreatWAL
set_option linter.unusedVariables false
set_option linter.unusedSimpArgs false
set_option linter.unusedSectionVars false
set_option linter.defProp false
set_option maxRecDepth 100000
set_option maxHeartbeats 8000000
namespace Go.Proofs.YtaoejnjkmfkbeaaGreat
open Go Go.Pg
def oV {α : Type} (F : α → List V) (z : α) : Option α → V
 | some x => .tup [.agg (F x), vi 0]
 | none => .tup [.agg (F z), vi 2]
theorem LU {α : Type} {F : α → List V} {z : α} {o : Option α} {x : α} (h : o = some x) : oV F z o = .tup [.agg (F x), vi 0] := by rw [h]; rfl
theorem FY {α : Type} {F : α → List V} {z : α} {o : Option α} (h : o = none) : oV F z o = .tup [.agg (F z), vi 2] := by rw [h]; rfl
def tr (l : List Nat) : Nat → List Nat
 | 0 => l
 | i + 1 => (tr l i).drop (aW (tr l i)).2.1
theorem uM {l : List Nat} (ho : oct l) : ∀ i, oct (tr l i)
 | 0 => ho
 | i + 1 => dZ (uM ho i) _
theorem FZ (l : List Nat) : ∀ i, (tr l i).length ≤ l.length
 | 0 => Nat.le_refl _
 | i + 1 => by have := FZ l i; show ((tr l i).drop _).length ≤ _; rw [List.length_drop]; omega
def DW (l : List Nat) (x : Tl) : Option Tl := if vTl x = 0 ∧ fP x = l then some x else none
def tN (l : List Nat) : Option Tl :=
 if (aW (tr l 0)).2.2 = 0 ∧ (aW (tr l 1)).2.2 = 0 ∧ (aW (tr l 2)).2.2 = 0 then DW l ⟨(aW (tr l 0)).1, (aW (tr l 1)).1, decide (((aW (tr l 2)).1 : Int) = 1)⟩ else none
theorem XF (t : Tl) (h : vTl t ≠ 0) : Pg.Good Tryz.prog 165 [.agg (tlF t)] (.tup [.c (.slice none 0 0), vi (vTl t)]) := by
 have h1 := vZ t
 generalize vTl t = v at *
 refine gI oW Tryz.func165 Tryz.results165 ?_
 exact wR trivial h1 ah
def XG (l : List Nat) : Nat → List V
 | 0 => [vi 0, vi 0, vi 0]
 | 1 => [vi ((aW (tr l 0)).1 : Nat), vi 0, vi 0]
 | 2 => [vi ((aW (tr l 0)).1 : Nat), vi ((aW (tr l 1)).1 : Nat), vi 0]
 | _ => [vi ((aW (tr l 0)).1 : Nat), vi ((aW (tr l 1)).1 : Nat), vi ((aW (tr l 2)).1 : Nat)]
theorem Ri (t : Tl) : oct (fP t) := aY (aY (aO _) (aO _)) (by cases t.b <;> exact lV (by omega))
theorem XH (l : List Nat) (ho : oct l) (hl : l.length ≤ 2147483648) : Pg.Good Tryz.prog 96 [fzb l] (oV tlF Tl.o (tN l)) := by
 have hcv := fun (l : List Nat) s d K => dV (P := Tryz.prog) s d 48 9 .fz l K (by kernel_rfl) (by kernel_rfl) (by kernel_rfl) (by kernel_rfl)
 have k0 := eQ (tr l 0) (uM ho 0) (Nat.le_trans (FZ l 0) hl)
 have k1 := eQ (tr l 1) (uM ho 1) (Nat.le_trans (FZ l 1) hl)
 have k2 := eQ (tr l 2) (uM ho 2) (Nat.le_trans (FZ l 2) hl)
 obtain ⟨m0, y0, z0⟩ := iT (tr l 0) (uM ho 0)
 obtain ⟨m1, y1, z1⟩ := iT (tr l 1) (uM ho 1)
 obtain ⟨m2, y2, z2⟩ := iT (tr l 2) (uM ho 2)
 unfold uK at k0 k1 k2
 have x0 : (bv (tr l 0)).drop (aW (tr l 0)).2.1 = bv (tr l 1) := by rw [iq]; rfl
 have x1 : (bv (tr l 1)).drop (aW (tr l 1)).2.1 = bv (tr l 2) := by rw [iq]; rfl
 have x2 : (bv (tr l 2)).drop (aW (tr l 2)).2.1 = bv (tr l 3) := by rw [iq]; rfl
 have b0 := ai (tr l 0)
 have b1 := ai (tr l 1)
 have b2 := ai (tr l 2)
 have hN : ¬ ((aW (tr l 0)).2.2 = 0 ∧ (aW (tr l 1)).2.2 = 0 ∧ (aW (tr l 2)).2.2 = 0) → oV tlF Tl.o (tN l) = .tup [.agg [vi 0, vi 0, vb false], vi 2] := fun h => FY (if_neg h)
 have hS : ((aW (tr l 0)).2.2 = 0 ∧ (aW (tr l 1)).2.2 = 0 ∧ (aW (tr l 2)).2.2 = 0) → tN l = DW l ⟨(aW (tr l 0)).1, (aW (tr l 1)).1, decide (((aW (tr l 2)).1 : Int) = 1)⟩ := fun h => if_pos h
 have c0 : XG l 0 = [vi 0, vi 0, vi 0] := rfl
 have c1 : XG l 1 = [vi ((aW (tr l 0)).1 : Nat), vi 0, vi 0] := rfl
 have c2 : XG l 2 = [vi ((aW (tr l 0)).1 : Nat), vi ((aW (tr l 1)).1 : Nat), vi 0] := rfl
 have c3 : XG l 3 = [vi ((aW (tr l 0)).1 : Nat), vi ((aW (tr l 1)).1 : Nat), vi ((aW (tr l 2)).1 : Nat)] := rfl
 have t0 : fzb l = fzb (tr l 0) := rfl
 refine gI oW Tryz.func96 Tryz.results96 ?_
 refine wS trivial trivial ?_
 refine bn (fun i : Nat => mkA [(0, fzb l), (2, .ref 0 0), (4, .ref 1 0), (5, fzb (tr l i)), (14, vi i)] [(0, (27, [vi 0, vi 0, vb false])), (1, (190, XG l i))] 2 (fun _ => .top)) (fun i => i ≤ 3 ∧ (0 < i → (aW (tr l 0)).2.2 = 0) ∧ (1 < i → (aW (tr l 1)).2.2 = 0) ∧ (2 < i → (aW (tr l 2)).2.2 = 0)) (fun i => 3 - i) 0 [] [0, 1] ?_ ⟨Nat.zero_le _, by omega, by omega, by omega⟩ ?_
 ·(refine aN ?_ ?_ (bG _ _ _) (by decide) (by decide) (by decide) (by decide); (repeat' (first | exact trivial | refine aG _ _ rfl rfl ?_ ?_)); all_goals (try simp only [pgs, pgl, pgx, pgf, pgw, ay, aJ, az, aK, aZ, bV, bD, pgn, simprocAttr]); all_goals (try (repeat' (first | apply aI))); all_goals (try (first | exact trivial | exact au (by omega) | exact aU rfl | exact ak rfl rfl | exact bg rfl)))
  all_goals first | exact au (by omega) | (have e : tr l 0 = l := rfl; rw [e]; simp only [bD]) | skip
 ·rintro i ⟨hi, g0, g1, g2⟩
  have hc : i = 0 ∨ i = 1 ∨ i = 2 ∨ i = 3 := by omega
  rcases hc with rfl | rfl | rfl | rfl
  ·rw [c0]
   by_cases he : (aW (tr l 0)).2.2 = 0
   ·rw [he] at k0
    refine wS (aI @pgv (aI @b0 @x0)) k0 ?_
    refine bu 1 [] [0, 1] ⟨by omega, fun _ => he, by omega, by omega⟩ (by show (3 : Nat) - 1 < 3 - 0; omega) ?_
    (refine aN ?_ ?_ (bG _ _ _) (by decide) (by decide) (by decide) (by decide); (repeat' (first | exact trivial | refine aG _ _ rfl rfl ?_ ?_)); all_goals (try simp only [pgs, pgl, pgx, pgf, pgw, ay, aJ, az, aK, aZ, bV, bD, pgn, simprocAttr]); all_goals (try (repeat' (first | apply aI))); all_goals (try (first | exact trivial | exact au (by omega) | exact aU rfl | exact ak rfl rfl | exact bg rfl)))
    all_goals first | exact au (by omega) | skip
   ·rw [hN (fun h => he h.1)]
    exact wR (aI @pgv (aI @b0 @x0)) k0 ah
  ·rw [c1]
   by_cases he : (aW (tr l 1)).2.2 = 0
   ·rw [he] at k1
    refine wS (aI @pgv (aI @b1 @x1)) k1 ?_
    refine bu 2 [] [0, 1] ⟨by omega, fun _ => g0 (by omega), fun _ => he, by omega⟩ (by show (3 : Nat) - 2 < 3 - 1; omega) ?_
    (refine aN ?_ ?_ (bG _ _ _) (by decide) (by decide) (by decide) (by decide); (repeat' (first | exact trivial | refine aG _ _ rfl rfl ?_ ?_)); all_goals (try simp only [pgs, pgl, pgx, pgf, pgw, ay, aJ, az, aK, aZ, bV, bD, pgn, simprocAttr]); all_goals (try (repeat' (first | apply aI))); all_goals (try (first | exact trivial | exact au (by omega) | exact aU rfl | exact ak rfl rfl | exact bg rfl)))
    all_goals first | exact au (by omega) | skip
   ·rw [hN (fun h => he h.2.1)]
    exact wR (aI @pgv (aI @b1 @x1)) k1 ah
  ·rw [c2]
   by_cases he : (aW (tr l 2)).2.2 = 0
   ·rw [he] at k2
    refine wS (aI @pgv (aI @b2 @x2)) k2 ?_
    refine bu 3 [] [0, 1] ⟨by omega, fun _ => g0 (by omega), fun _ => g1 (by omega), fun _ => he⟩ (by show (3 : Nat) - 3 < 3 - 2; omega) ?_
    (refine aN ?_ ?_ (bG _ _ _) (by decide) (by decide) (by decide) (by decide); (repeat' (first | exact trivial | refine aG _ _ rfl rfl ?_ ?_)); all_goals (try simp only [pgs, pgl, pgx, pgf, pgw, ay, aJ, az, aK, aZ, bV, bD, pgn, simprocAttr]); all_goals (try (repeat' (first | apply aI))); all_goals (try (first | exact trivial | exact au (by omega) | exact aU rfl | exact ak rfl rfl | exact bg rfl)))
    all_goals first | exact au (by omega) | skip
   ·rw [hN (fun h => he h.2.2)]
    exact wR (aI @pgv (aI @b2 @x2)) k2 ah
  ·have hS := hS ⟨g0 (by omega), g1 (by omega), g2 (by omega)⟩
   rw [hS]
   rw [c3]
   clear hN hS k0 k1 k2 x0 x1 x2 c0 c1 c2 c3
   generalize (aW (tr l 0)).1 = n0 at *
   generalize (aW (tr l 1)).1 = n1 at *
   generalize (aW (tr l 2)).1 = n2 at *
   by_cases hv : vTl ⟨n0, n1, decide ((n2 : Int) = 1)⟩ = 0
   ·have hE := NT ⟨n0, n1, decide ((n2 : Int) = 1)⟩ hv
    have hd := jw (Ri ⟨n0, n1, decide ((n2 : Int) = 1)⟩) ho
    by_cases he : fP ⟨n0, n1, decide ((n2 : Int) = 1)⟩ = l
    ·have hr : oV tlF Tl.o (DW l ⟨n0, n1, decide ((n2 : Int) = 1)⟩) = .tup [.agg [vi (n0 : Nat), vi (n1 : Nat), vb (decide ((n2 : Int) = 1))], vi 0] := LU (if_pos ⟨hv, he⟩)
     rw [hr]
     rw [he] at hE
     clear hd hr he hv
     (repeat' (first | (simp (disch := first | exact dqz | fail) only [pgz, simprocAttr, hcv]) | ((with_reducible show cu _ _ _ _ _ _); first | refine cU hE ?_) | ((with_reducible first | apply aQ | apply aB | apply bz) <;> intro hc <;> (try simp only [hc]) <;> (try simp only [pgd] at hc)) | (with_reducible refine cK ?_)))
     all_goals exact rE []
    ·have hr : oV tlF Tl.o (DW l ⟨n0, n1, decide ((n2 : Int) = 1)⟩) = .tup [.agg [vi 0, vi 0, vb false], vi 2] := FY (if_neg fun h => he h.2)
     rw [hr]
     rw [decide_eq_false he] at hd
     clear hr he hv
     generalize fP ⟨n0, n1, decide ((n2 : Int) = 1)⟩ = E at *
     (repeat' (first | (simp (disch := first | exact dqz | fail) only [pgz, simprocAttr, hcv, hd]) | ((with_reducible show cu _ _ _ _ _ _); first | refine cU hE ?_) | ((with_reducible first | apply aQ | apply aB | apply bz) <;> intro hc <;> (try simp only [hc]) <;> (try simp only [pgd] at hc)) | (with_reducible refine cK ?_)))
     all_goals exact rE []
   ·have hE := XF ⟨n0, n1, decide ((n2 : Int) = 1)⟩ hv
    have hr : oV tlF Tl.o (DW l ⟨n0, n1, decide ((n2 : Int) = 1)⟩) = .tup [.agg [vi 0, vi 0, vb false], vi 2] := FY (if_neg fun h => hv h.1)
    rw [hr]
    clear hr
    generalize vTl ⟨n0, n1, decide ((n2 : Int) = 1)⟩ = v at *
    (repeat' (first | (simp (disch := first | exact dqz | fail) only [pgz, simprocAttr, hcv]) | ((with_reducible show cu _ _ _ _ _ _); first | refine cU hE ?_) | ((with_reducible first | apply aQ | apply aB | apply bz) <;> intro hc <;> (try simp only [hc]) <;> (try simp only [pgd] at hc)) | (with_reducible refine cK ?_)))
    all_goals exact rE []
theorem adx (n : Int) (h : 0 ≤ n ∧ n ≤ 255) : ((u8i n : Nat) : Int) = n := by unfold u8i; omega
def oOw {α : Type} (F : α → List V) (zs : List V) : Option α → V
 | some x => .tup [.agg (F x), vi 0]
 | none => .tup [.agg zs, vi 2]
theorem Jh {α : Type} {F : α → List V} {zs : List V} {o : Option α} {x : α} (h : o = some x) : oOw F zs o = .tup [.agg (F x), vi 0] := by rw [h]; rfl
theorem kD {α : Type} {F : α → List V} {zs : List V} {o : Option α} (h : o = none) : oOw F zs o = .tup [.agg zs, vi 2] := by rw [h]; rfl
theorem wC {α : Type} {F F' : α → List V} {z : α} {zs args : List V} {f : FuncId} {o : Option α} (h : Pg.Good Tryz.prog f args (oOw F' zs o)) (h1 : ∀ x, (V.tup [.agg (F' x), vi 0]).noRef = true) (h2 : ∀ x, wkA (V.mapL (fun _ => .fz) id [.agg (F' x), vi 0]) [.agg (F x), vi 0])
  (h3 : (V.tup [.agg zs, vi 2]).noRef = true) (h4 : wkA (V.mapL (fun _ => .fz) id [.agg zs, vi 2]) [.agg (F z), vi 2]) : Pg.Good Tryz.prog f args (oV F z o) := by
 cases o with
 | none => exact Good.fzt h h3 h4
 | some x => exact Good.fzt h (h1 x) (h2 x)
def sS (l : List Nat) : Nat → List Nat × Bool
 | 0 => (l, false)
 | i + 1 => (nuL (sS l i).1 (sS l i).2, nuB (sS l i).1 (sS l i).2)
def sx (l : List Nat) (i : Nat) : Nat := nuX (sS l i).1 (sS l i).2
theorem nI {l : List Nat} (ho : oct l) : ∀ i, oct (sS l i).1
 | 0 => ho
 | i + 1 => sQ _ (nI ho i)
theorem qy (l : List Nat) : ∀ i, (sS l i).1.length ≤ l.length
 | 0 => Nat.le_refl _
 | i + 1 => Nat.le_trans (sU _ _) (qy l i)
theorem jC {l : List Nat} (ho : oct l) (i : Nat) : sx l i ≤ 4611686018427387904 := zK _ _ (nI ho i)
theorem DX {l : List En} (h : octE l) (k : List Nat) (c er : Int) (hk : oct k) : octE (l ++ [(k, c, er)]) := by
 intro x hx
 rcases List.mem_append.1 hx with hx | hx
 ·exact h x hx
 ·simp only [List.mem_singleton] at hx; subst hx; exact hk
theorem ae1 (e : Nat → V) (bx : Nat → Option (TypeId × List V)) (n : Nat) (h : Nat → V) (b : Nat) (l : List Nat) (i : Nat) (ho : oct l) (hl : l.length ≤ 2147483648) (hb : bx b = some (193, [fzb (sS l i).1, vb (sS l i).2])) (hbn : b < n) :
  GoodZ Tryz.prog 174 [.ref b 0] ⟨e, bx, n, h⟩ ⟨e, upd bx b (some (193, [fzb (sS l (i + 1)).1, vb (sS l (i + 1)).2])), n, h⟩ (vi (sx l i : Nat)) :=
 Xy e bx n h b (sS l i).1 (sS l i).2 (nI ho i) (Nat.le_trans (qy l i) hl) hb hbn
theorem abh (e : Nat → V) (bx : Nat → Option (TypeId × List V)) (n : Nat) (h : Nat → V) (b : Nat) (l : List Nat) (i : Nat) (ho : oct l) (hl : l.length ≤ 2147483648) (hb : bx b = some (201, [fzb (sS l i).1, vb (sS l i).2])) (hbn : b < n) :
  GoodZ Tryz.prog 179 [.ref b 0] ⟨e, bx, n, h⟩ ⟨e, upd bx b (some (201, [fzb (sS l (i + 1)).1, vb (sS l (i + 1)).2])), n, h⟩ (vi (sx l i : Nat)) :=
 Xz e bx n h b (sS l i).1 (sS l i).2 (nI ho i) (Nat.le_trans (qy l i) hl) hb hbn
theorem XI (e : Nat → V) (bx : Nat → Option (TypeId × List V)) (n : Nat) (h : Nat → V) (b : Nat) (l : List Nat) (i : Nat) (ho : oct l) (hl : l.length ≤ 2147483648) (hb : bx b = some (205, [fzb (sS l i).1, vb (sS l i).2])) (hbn : b < n) :
  GoodZ Tryz.prog 181 [.ref b 0] ⟨e, bx, n, h⟩ ⟨e, upd bx b (some (205, [fzb (sS l (i + 1)).1, vb (sS l (i + 1)).2])), n, h⟩ (vi (sx l i : Nat)) :=
 abK e bx n h b (sS l i).1 (sS l i).2 (nI ho i) (Nat.le_trans (qy l i) hl) hb hbn
theorem XJ (e : Nat → V) (bx : Nat → Option (TypeId × List V)) (n : Nat) (h : Nat → V) (b : Nat) (l : List Nat) (i : Nat) (ho : oct l) (hl : l.length ≤ 2147483648) (hb : bx b = some (208, [fzb (sS l i).1, vb (sS l i).2])) (hbn : b < n) :
  GoodZ Tryz.prog 183 [.ref b 0] ⟨e, bx, n, h⟩ ⟨e, upd bx b (some (208, [fzb (sS l (i + 1)).1, vb (sS l (i + 1)).2])), n, h⟩ (vi (sx l i : Nat)) :=
 abL e bx n h b (sS l i).1 (sS l i).2 (nI ho i) (Nat.le_trans (qy l i) hl) hb hbn
end Go.Proofs.YtaoejnjkmfkbeaaGreat
section
namespace Go.Pg
open Go
def ins (S : Nat → Bool) (i : Nat) : Nat → Bool := fun j => if j = i then true else S j
theorem F5 (S : Nat → Bool) (i : Nat) : ins S i i = true := if_pos rfl
theorem rW {S : Nat → Bool} {i j : Nat} (h : j ≠ i) : ins S i j = S j := if_neg h
structure Ok (ops : Array Oper) (S : Nat → Bool) : Prop where
 cl : ∀ i o, ops[i]? = some o → S i = true → ∀ e ∈ edgesOf o, S e = true
 bd : ∀ i, ops.size ≤ i → S i = false
section
variable {P : Program} [Tb P] {C : Cx} {ops : Array Oper} {Q : Exit → Act → World → Prop}
theorem count_set {l : List Bool} {i : Nat} (hi : i < l.length) (h : l[i] = false) : (l.set i true).count false + 1 = l.count false := by
 rw [List.count_set hi, h]
 have : 0 < l.count false := List.count_pos_iff.2 (h ▸ List.getElem_mem hi)
 simp
 omega
theorem abj (I : (Nat → Bool) → Act → World → Prop) (hidx : ∀ i o, ops[i]? = some o → ∀ e ∈ edgesOf o, e < i)
  (lu : ∀ (S : Nat → Bool) i o a w, ops[i]? = some o → S i = false → (∀ e ∈ edgesOf o, S e = true) → Ok ops S → I S a w → wpOp P ops Q i (I (ins S i)) a w)
  (hend : ∀ S a w, (∀ j, j < ops.size → S j = true) → Ok ops S → I S a w → Q .normal a w) :
  ∀ (fuel : Nat) (listed : Array Bool) (a : Act) (w : World), listed.toList.count false ≤ fuel → listed.size = ops.size → Ok ops (fun i => listed.getD i false) → I (fun i => listed.getD i false) a w → wpAny P .any ops Q fuel listed a w := by
 have hno : ∀ (listed : Array Bool), listed.size = ops.size → Region.ready .any ops listed = [] → ∀ j, j < ops.size → listed.getD j false = true := by
  intro listed hsz hr j
  induction j using Nat.strongRecOn with
  | _ j ih =>
   intro hj
   cases hle : listed.getD j false with
   | true => rfl
   | false =>
    exfalso
    have hjl : j < listed.size := by omega
    have : j ∈ Region.ready .any ops listed := by
     refine mem_ready.2 ⟨by simpa [Array.getD, hjl] using hle, ops[j], Array.getElem?_eq_getElem hj, fun e he hb => ?_⟩
     have hlt := hidx j ops[j] (Array.getElem?_eq_getElem hj) e.on (by simp [edgesOf]; exact ⟨e, ⟨by simpa using he, hb⟩, rfl⟩)
     exact ih e.on hlt (by omega)
    rw [hr] at this
    cases this
 intro fuel
 induction fuel with
 | zero =>
  intro listed a w hc hsz hok hI
  have hall : ∀ j, j < ops.size → listed.getD j false = true := by
   intro j hj
   cases hle : listed.getD j false with
   | true => rfl
   | false =>
    exfalso
    have hjl : j < listed.size := by omega
    have h1 : listed.toList[j]'(by simpa using hjl) = false := by simpa [Array.getD, hjl] using hle
    have := List.count_pos_iff.2 (h1 ▸ List.getElem_mem (by simpa using hjl : j < listed.toList.length))
    omega
  refine ⟨?_, hend _ a w hall hok hI⟩
  rw [List.eq_nil_iff_forall_not_mem]
  intro i hi
  obtain ⟨h0, o, ho, _⟩ := mem_ready.1 hi
  have h1 := (Array.getElem?_eq_some_iff.1 ho).1
  have h2 := hall i h1
  have hil : i < listed.size := by omega
  simp [Array.getD, hil] at h0 h2
  rw [h2] at h0
  cases h0
 | succ fuel ih =>
  intro listed a w hc hsz hok hI
  refine ⟨fun hr => hend _ a w (hno listed hsz hr) hok hI, fun i hi => ?_⟩
  obtain ⟨h0, o, ho, hedge⟩ := mem_ready.1 hi
  have hisz : i < ops.size := (Array.getElem?_eq_some_iff.1 ho).1
  have hil : i < listed.size := by omega
  have h0' : listed.getD i false = false := by simpa [Array.getD, hil] using h0
  have hed : ∀ e ∈ edgesOf o, listed.getD e false = true := by
   intro e he
   simp only [edgesOf, List.mem_map, List.mem_filter] at he
   obtain ⟨e', ⟨h2, h3⟩, rfl⟩ := he
   exact hedge e' (by simpa using h2) h3
  refine wpOp_mono (fun a' w' hI' => ?_) (lu _ i o a w ho h0' hed hok hI)
  have hfun : ins (fun i => listed.getD i false) i = fun j => (listed.setIfInBounds i true).getD j false := by
   funext j
   unfold ins
   split
   ·rename_i hj; subst hj; simp [Array.getD, hil]
   ·rename_i hj; rw [getD_set_ne false (fun e => hj e.symm)]
  rw [hfun] at hI'
  refine ih _ a' w' ?_ (by simp [hsz]) ?_ hI'
  ·have h1 : listed.toList[i]'(by simpa using hil) = false := by simpa [Array.getD, hil] using h0'
   have h2 := count_set (l := listed.toList) (by simpa using hil) h1
   have h3 : (listed.setIfInBounds i true).toList = listed.toList.set i true := by simp
   rw [h3]
   omega
  ·rw [← hfun]
   refine ⟨fun j o' hj hS e he => ?_, fun j hj => ?_⟩
   ·by_cases hji : j = i
    ·subst hji
     rw [ho] at hj
     simp only [Option.some.injEq] at hj
     subst hj
     unfold ins; split
     ·rfl
     ·exact hed e he
    ·rw [rW hji] at hS
     unfold ins; split
     ·rfl
     ·exact hok.cl j o' hj hS e he
   ·rw [rW (by omega)]
    exact hok.bd j hj
theorem ady (hm : P.follows .mixedOrders = true) {id : Nat} {a : Act} {w : World} (I : (Nat → Bool) → Act → World → Prop) (hidx : ∀ i o, ops[i]? = some o → ∀ e ∈ edgesOf o, e < i)
  (lu : ∀ (S : Nat → Bool) i o a w, ops[i]? = some o → S i = false → (∀ e ∈ edgesOf o, S e = true) → Ok ops S → I S a w → wpOp P ops Q i (I (ins S i)) a w)
  (hend : ∀ S a w, (∀ j, j < ops.size → S j = true) → Ok ops S → I S a w → Q .normal a w) (h0 : I (fun _ => false) a { w with drawn := w.drawn + 1 }) : (Code.region id ops true).wp P Q a w := by
 have hfun : (fun i => (Array.replicate ops.size false).getD i false) = fun _ => false := by
  funext i; simp [Array.getD]
 refine wp_region_any hm (abj I hidx lu hend ops.size _ a _ ?_ (by simp) ?_ ?_)
 ·simp only [Array.toList_replicate]
  rw [List.count_replicate]
  split <;> omega
 ·rw [hfun]
  exact ⟨fun _ _ _ h => (by cases h), fun _ _ => rfl⟩
 ·rw [hfun]; exact h0
theorem XK {s : St} {L : Lay} {a : Act} {w : World} (S : Sim C s L a w) : Sim C s L a { w with drawn := w.drawn + 1 } := by
 have K : adG L L w w.drew := ⟨rfl, fun g h => ⟨h, .of rfl⟩, fun id e _ g h => ⟨⟨rfl, h⟩, rfl⟩, fun _ _ _ h => h⟩
 exact ⟨S.defers, S.size, fun t => (S.env t).whole K, fun t => (S.hid t).whole K, fun b cs h => by obtain ⟨g, arr, h1, h2, h3⟩ := S.box b cs h; exact ⟨g, arr, h1, h2, h3.whole K⟩, S.wf.mono (Nat.le_refl _) (Nat.le_refl _), S.kp.drew⟩
def dT : Dw := ⟨fun P _ ops K s => Ak P ops K s ∨ ∀ (id : Nat) (C : Cx) (Q : Exit → St → Prop) (L : Lay) (a : Act) (w : World), C.TOk P → Eb C.n ops.toList = true → Q .normal = K → Sim C s L a w → (Code.region id ops true).wp P (OC C Q) a w, []⟩
theorem BO (hm : P.follows .mixedOrders = true) : jW P dT := by
 intro id C ops K Q s L a w hT hfit hQK h S
 rcases h with h | h
 ·exact qR [] hm id C ops K Q s L a w hT hfit hQK h S
 ·exact h id C Q L a w hT hfit hQK S
theorem jH (x y : Code) (Q : Exit → St → Prop) (s : St) : wpS dT P (.seq x y) Q s = wpS dT P x (mW dT P y Q) s := by
 have : mP dT.cuts (jo y) = false := by cases h : jo y <;> rfl
 simp only [wpS, this, cond_false]
 rfl
theorem Rj (hm : P.follows .mixedOrders = true) (m : Nat) {l : List Oper} {id : Nat} {Q : Exit → St → Prop} {s : St} (F : (Nat → Bool) → St) (hF : F (fun _ => false) = s)
  (hidx : (l.zipIdx.all fun x => (edgesOf x.1).all fun e => decide (e < x.2)) = true) (hchk : ((List.range l.length).all fun i => decide (i < m) || (List.range i).all fun j => ((qG [] l).getD i 0).testBit j) = true) (hg : (l.all fun o => o.guard.isNone) = true)
  (lu : ∀ (S : Nat → Bool) i o, l[i]? = some o → i < m → S i = false → (∀ e ∈ edgesOf o, S e = true) → (∀ j o', l[j]? = some o' → S j = true → ∀ e ∈ edgesOf o', S e = true) → aH P (F S) o (fun _ s' => s' = F (ins S i)))
  (hend : ∀ S, (∀ j, j < m → j < l.length → S j = true) → qV P (l.map (·.dst)) Q (l.drop m) (F S)) : wpS dT P (.region id l.toArray true) Q s := by
 refine .inr fun id C Q' L a w hT hfit hQK S0 => ?_
 have hguard : ∀ (i : Nat) (o : Oper), l[i]? = some o → o.guard = none := fun i o ho => by
  have := List.all_eq_true.1 hg o (List.mem_of_getElem? ho)
  simpa using this
 have hbef : ∀ (S : Nat → Bool) (i : Nat) (o : Oper), l[i]? = some o → m ≤ i → (∀ e ∈ edgesOf o, S e = true) → Ok l.toArray S → ∀ j, j < i → S j = true := by
  intro S i o ho hi he hok j hj
  have hil : i < l.length := (List.getElem?_eq_some_iff.1 ho).1
  have h1 := List.all_eq_true.1 hchk i (List.mem_range.2 hil)
  rw [decide_eq_false (by omega), Bool.false_or] at h1
  have h2 := List.all_eq_true.1 h1 j (List.mem_range.2 hj)
  exact uw (fun i => S i = true) l [] (fun k j _ h => by simp at h) (fun k o hk hD e he => hok.cl k o (by simpa using hk) (by simpa using hD) e he) i o ho he j (by simpa using h2)
 refine ady hm (fun S a w => ((∀ j, m ≤ j → S j = false) ∧ ∃ L, Sim C (F S) L a w) ∨ ∃ k, m < k ∧ (∀ j, j < k → j < l.length → S j = true) ∧ (∀ j, k ≤ j → S j = false) ∧ ∃ s' L, Sim C s' L a w ∧ wpL P (l.map (·.dst)) (Q .normal) (l.drop k) s') ?_ ?_ ?_ (.inl ⟨fun _ _ => rfl, L, hF ▸ XK S0⟩)
 ·intro i o ho e he
  have hm : (o, i) ∈ l.zipIdx := by
   rw [List.mem_zipIdx_iff_getElem?]
   simpa using ho
  have := List.all_eq_true.1 (List.all_eq_true.1 hidx (o, i) hm) e he
  simpa using this
 ·intro S i o a w ho hi he hok hI
  have ho' : l[i]? = some o := by simpa using ho
  have hil : i < l.length := (List.getElem?_eq_some_iff.1 ho').1
  have hd : ∀ t, o.dst = some t → t < C.n := kN hfit o (by simpa using Array.mem_of_getElem? ho)
  have hgo := hguard i o ho'
  have go : ∀ {s1 : St} {L : Lay} {K' : St → Prop}, aH P s1 o (fun _ s' => K' s') → Sim C s1 L a w → ∀ {I' : Act → World → Prop}, (∀ s' L' a' w', K' s' → Sim C s' L' a' w' → I' a' w') → wpOp P l.toArray (OC C Q') i I' a w := by
   intro s1 L K' h1 hS I' hI'
   obtain ⟨κ, s2, h2, h3⟩ := uY h1
   exact Dl (κ := κ) hT ho (by unfold bF; rw [hgo]; exact h2) hS hd (fun L' a' w' S' => hI' _ _ _ _ h3 S')
  have seq : ∀ {s1 : St} {L : Lay}, wpL P (l.map (·.dst)) (Q .normal) (l.drop i) s1 → Sim C s1 L a w → (∀ j, j < i → S j = true) → (∀ j, i ≤ j → S j = false) → m ≤ i → wpOp P l.toArray (OC C Q') i (fun a w => ((∀ j, m ≤ j → ins S i j = false) ∧ ∃ L, Sim C (F (ins S i)) L a w) ∨ ∃ k, m < k ∧ (∀ j, j < k → j < l.length → ins S i j = true) ∧ (∀ j, k ≤ j → ins S i j = false) ∧ ∃ s' L, Sim C s' L a w ∧ wpL P (l.map (·.dst)) (Q .normal) (l.drop k) s') a w := by
   intro s1 L h1 hS hlt hge hmi
   rw [List.drop_eq_getElem_cons hil] at h1
   have hoe : l[i] = o := (List.getElem?_eq_some_iff.1 ho').2
   rw [hoe] at h1
   unfold wpL at h1
   rw [hgo] at h1
   refine go h1 hS (fun s' L' a' w' h2 hS' => .inr ⟨i + 1, by omega, fun j hj _ => ?_, fun j hj => ?_, s', L', hS', h2⟩)
   ·unfold ins; split
    ·rfl
    ·exact hlt j (by omega)
   ·rw [rW (by omega)]; exact hge j (by omega)
  rcases hI with ⟨hno, L, hS⟩ | ⟨k, hk, hlt, hge, s1, L, hS, hw⟩
  ·rcases Nat.lt_or_ge i m with h1 | h1
   ·refine go (lu S i o ho' h1 hi he (fun j o' hj => hok.cl j o' (by simpa using hj))) hS (fun s' L' a' w' h2 hS' => .inl ⟨fun j hj => ?_, L', h2 ▸ hS'⟩)
    rw [rW (by omega)]; exact hno j hj
   ·have hall := hbef S i o ho' h1 he hok
    have him : i = m := by
     rcases Nat.lt_or_ge m i with h2 | h2
     ·have := hall m h2; rw [hno m (Nat.le_refl _)] at this; cases this
     ·omega
    subst him
    have := hend S (fun j hj _ => hall j hj)
    exact seq this hS hall hno (Nat.le_refl _)
  ·have hall := hbef S i o ho' (by
    rcases Nat.lt_or_ge i k with h2 | h2
    ·have := hlt i h2 hil; rw [hi] at this; cases this
    ·omega) he hok
   have hik : i = k := by
    rcases Nat.lt_or_ge i k with h2 | h2
    ·have := hlt i h2 hil; rw [hi] at this; cases this
    ·rcases Nat.lt_or_ge k i with h3 | h3
     ·have := hall k h3; rw [hge k (Nat.le_refl _)] at this; cases this
     ·omega
   subst hik
   exact seq hw hS hall hge (by omega)
 ·rintro S a w hall hok (⟨hno, L, hS⟩ | ⟨k, hk, hlt, hge, s1, L, hS, hw⟩)
  ·have hml : l.length ≤ m := by
    rcases Nat.lt_or_ge m l.length with h1 | h1
    ·have := hall m (by simpa using h1); rw [hno m (Nat.le_refl _)] at this; cases this
    ·exact h1
   have := hend S (fun j hj hjl => hall j (by simpa using hjl))
   rw [List.drop_of_length_le hml] at this
   exact ⟨F S, L, by rw [hQK]; exact this, hS⟩
  ·have hkl : l.length ≤ k := by
    rcases Nat.lt_or_ge k l.length with h1 | h1
    ·have := hall k (by simpa using h1); rw [hge k (Nat.le_refl _)] at this; cases this
    ·exact h1
   rw [List.drop_of_length_le hkl] at hw
   exact ⟨s1, L, by rw [hQK]; exact hw, hS⟩
def uN : List (Nat × V) → Nat → (Nat → Bool) → (Nat → V) → Nat → V
 | [], _, _, e => e
 | (d, v) :: r, k, S, e => fun t => if t = d then (if S k = true then v else e t) else uN r (k + 1) S e t
theorem nJ (k : Nat) (S : Nat → Bool) (e : Nat → V) : uN [] k S e = e := rfl
theorem fJ (d : Nat) (v : V) (r : List (Nat × V)) (k : Nat) (S : Nat → Bool) (e : Nat → V) (t : Nat) : uN ((d, v) :: r) k S e t = if t = d then (if S k = true then v else e t) else uN r (k + 1) S e t := rfl
theorem XL : ∀ (T : List (Nat × V)) (k : Nat) (e : Nat → V), uN T k (fun _ => false) e = e := by
 intro T
 induction T with
 | nil => intro k e; rfl
 | cons x r ih =>
  intro k e
  obtain ⟨d, v⟩ := x
  funext t
  rw [fJ, ih (k + 1) e]
  simp
theorem XM (i : Nat) (S : Nat → Bool) (e : Nat → V) : ∀ (T : List (Nat × V)) (k : Nat) (d : Nat) (v : V), k ≤ i → T[i - k]? = some (d, v) → (T.map (·.1)).Nodup → upd (uN T k S e) d v = uN T k (ins S i) e := by
 intro T
 induction T with
 | nil => intro k d v _ h; simp at h
 | cons x r ih =>
  intro k d v hk h hn
  obtain ⟨d0, v0⟩ := x
  simp only [List.map_cons, List.nodup_cons] at hn
  funext t
  rw [fJ]
  rcases Nat.lt_or_ge k i with hlt | hge
  ·have e1 : i - k = (i - (k + 1)) + 1 := by omega
   rw [e1, List.getElem?_cons_succ] at h
   have := congrFun (ih (k + 1) d v (by omega) h hn.2) t
   rw [← this]
   unfold upd
   have hd : d ≠ d0 := by
    intro hd; subst hd
    exact hn.1 (List.mem_map.2 ⟨(d, v), List.mem_of_getElem? h, rfl⟩)
   rw [fJ, rW (by omega : k ≠ i)]
   by_cases h1 : t = d
   ·rw [if_pos h1, if_neg (by omega), if_pos h1]
   ·rw [if_neg h1]
    split <;> rfl
  ·have hki : k = i := by omega
   subst hki
   rw [Nat.sub_self] at h
   simp only [List.getElem?_cons_zero, Option.some.injEq, Prod.mk.injEq] at h
   obtain ⟨rfl, rfl⟩ := h
   unfold upd
   rw [fJ, F5]
   by_cases h1 : t = d0
   ·rw [if_pos h1, if_pos h1, if_pos rfl]
   ·rw [if_neg h1, if_neg h1, if_neg h1]
    have : ∀ (T : List (Nat × V)) (j : Nat), k < j → uN T j (ins S k) e = uN T j S e := by
     intro T
     induction T with
     | nil => intro j _; rfl
     | cons x r ih2 =>
      intro j hj
      obtain ⟨d, v⟩ := x
      funext t
      rw [fJ, fJ, ih2 (j + 1) (by omega), rW (by omega)]
    rw [this r (k + 1) (by omega)]
theorem wE {T : List (Nat × V)} {S : Nat → Bool} {e : Nat → V} {bx bx' : Nat → Option (TypeId × List V)} {n n' : Nat} {h : Nat → V} (i : Nat) {d : Nat} {v : V} (hT : T[i]? = some (d, v)) (hn : (T.map (·.1)).Nodup) (hb : bx = bx') (hnn : n = n') : (⟨upd (uN T 0 S e) d v, bx, n, h⟩ : St) = ⟨uN T 0 (ins S i) e, bx', n', h⟩ := by
 rw [XM i S e T 0 d v (Nat.zero_le _) (by simpa using hT) hn, hb, hnn]
theorem Rl (hm : P.follows .mixedOrders = true) (m : Nat) (T : List (Nat × V)) (BX : (Nat → Bool) → Nat → Option (TypeId × List V)) (NI : (Nat → Bool) → Nat) {l : List Oper} {id : Nat} {Q : Exit → St → Prop} {e : Nat → V} {bx : Nat → Option (TypeId × List V)} {n : Nat} {h : Nat → V}
  (hb0 : BX (fun _ => false) = bx) (hn0 : NI (fun _ => false) = n)
  (hidx : (l.zipIdx.all fun x => (edgesOf x.1).all fun e => decide (e < x.2)) = true) (hchk : ((List.range l.length).all fun i => decide (i < m) || (List.range i).all fun j => ((qG [] l).getD i 0).testBit j) = true) (hg : (l.all fun o => o.guard.isNone) = true)
  (lu : ∀ (S : Nat → Bool) i o, l[i]? = some o → i < m → S i = false → (∀ e ∈ edgesOf o, S e = true) → (∀ j o', l[j]? = some o' → S j = true → ∀ e ∈ edgesOf o', S e = true) → aH P ⟨uN T 0 S e, BX S, NI S, h⟩ o (fun _ s' => s' = ⟨uN T 0 (ins S i) e, BX (ins S i), NI (ins S i), h⟩))
  (hend : ∀ S, (∀ j, j < m → j < l.length → S j = true) → qV P (l.map (·.dst)) Q (l.drop m) ⟨uN T 0 S e, BX S, NI S, h⟩) : wpS dT P (.region id l.toArray true) Q ⟨e, bx, n, h⟩ :=
 Rj hm m (fun S => ⟨uN T 0 S e, BX S, NI S, h⟩) (by simp only [XL, hb0, hn0]) hidx hchk hg lu hend
end
end Go.Pg
end
