/-
  Texts of this claim, merged; own names are short.
-/
import Derived.Test.YtaoejnjkmfkbeaaGreatWAP
import Derived.Test.YtaoejnjkmfkbeaaGreatWAO
import Derived.Laws.BitsLemmas
set_option linter.unusedVariables false
set_option linter.unusedSimpArgs false
set_option linter.unusedSectionVars false
set_option linter.defProp false
set_option maxRecDepth 100000
set_option maxHeartbeats 8000000
section
namespace Go.Proofs.YtaoejnjkmfkbeaaGreat
open Go Go.Pg
def uv (l : List Int) : List V := l.map fun n => V.c (.int .u64 n)
theorem qx (l : List Int) : (uv l).length = l.length := by simp [uv]
theorem PG (l : List Int) (i : Nat) (h : i < l.length) : (uv l)[i]? = some (.c (.int .u64 (l.getD i 0))) := by simp [uv, h, List.getD]
theorem Uu (l : List Int) (n : Int) : uv l ++ [V.c (.int .u64 n)] = uv (l ++ [n]) := by simp [uv]
abbrev fzu (l : List Int) : V := .sl .fz 1 (uv l)
theorem Gv (l : List Int) (n : Int) : iv l ++ [V.c (.int .i64 n)] = iv (l ++ [n]) := by simp [iv]
theorem zf (l : List Int) (i : Nat) (n : Int) : (iv l).set i (V.c (.int .i64 n)) = iv (l.set i n) := by simp [iv, List.map_set]
abbrev En := List Nat × Int × Int
def ev (l : List En) : List V := l.map fun x => V.agg [vs x.1, vi x.2.1, vi x.2.2]
theorem aj (l : List En) : (ev l).length = l.length := by simp [ev]
theorem dw (l : List En) (i : Nat) (h : i < l.length) : (ev l)[i]? = some (.agg [vs (l.getD i ([], 0, 0)).1, vi (l.getD i ([], 0, 0)).2.1, vi (l.getD i ([], 0, 0)).2.2]) := by simp [ev, h, List.getD]
theorem kZ (l : List En) (k : List Nat) (c e : Int) : ev l ++ [V.agg [vs k, vi c, vi e]] = ev (l ++ [(k, c, e)]) := by simp [ev]
theorem uZ (l : List En) (i : Nat) (k : List Nat) (c e : Int) : (ev l).set i (V.agg [vs k, vi c, vi e]) = ev (l.set i (k, c, e)) := by simp [ev, List.map_set]
theorem Uw (l : List En) (n : Nat) : (ev l).take n = ev (l.take n) := by simp [ev, List.map_take]
abbrev fzv (l : List En) : V := .sl .fz 3 (ev l)
def lv (l : List (List (List Nat))) : List V := l.map fun x => fzs x
theorem aS (l : List (List (List Nat))) : (lv l).length = l.length := by simp [lv]
theorem jo (l : List (List (List Nat))) (i : Nat) (h : i < l.length) : (lv l)[i]? = some (fzs (l.getD i [])) := by simp [lv, h, List.getD]
theorem o7 (l : List (List (List Nat))) (x : List (List Nat)) : lv l ++ [fzs x] = lv (l ++ [x]) := by simp [lv]
theorem WO (l : List (List (List Nat))) (i : Nat) (x : List (List Nat)) : (lv l).set i (fzs x) = lv (l.set i x) := by simp [lv, List.map_set]
theorem Ux (l : List (List (List Nat))) (n : Nat) : (lv l).take n = lv (l.take n) := by simp [lv, List.map_take]
abbrev fzl (l : List (List (List Nat))) : V := .sl .fz 1 (lv l)
section
variable (P : Program) (t : TypeId) (k : Nat) (xs : List V) (ik ik' : IntKind) (a c : Int)
theorem Uy (h0 : 0 ≤ c) (h1 : c ≤ xs.length) : slV P t (.sl .fz k xs) none (some (.c (.int ik c))) = if (elemT P t).bind (tsz P) = some k then some (.sl .fz k (xs.take c.toNat)) else none := by
 rw [yO]
 simp only [bdV, Option.bind_some]
 by_cases he : (elemT P t).bind (tsz P) = some k <;> simp [he, h0, h1]
theorem Uz (h0 : 0 ≤ a) (h1 : a ≤ xs.length) : slV P t (.sl .fz k xs) (some (.c (.int ik a))) none = if (elemT P t).bind (tsz P) = some k then some (.sl .fz k (xs.drop a.toNat)) else none := by
 rw [yO]
 simp only [bdV, Option.bind_some]
 by_cases he : (elemT P t).bind (tsz P) = some k <;> simp [he, h0, h1]
theorem UA (h0 : 0 ≤ a) (h1 : a ≤ c) (h2 : c ≤ xs.length) : slV P t (.sl .fz k xs) (some (.c (.int ik a))) (some (.c (.int ik' c))) = if (elemT P t).bind (tsz P) = some k then some (.sl .fz k ((xs.take c.toNat).drop a.toNat)) else none := by
 rw [yO]
 simp only [bdV, Option.bind_some]
 by_cases he : (elemT P t).bind (tsz P) = some k <;> simp [he, h0, h1, h2]
theorem Fh (e : Nat → V) (b : Nat → Option (TypeId × List V)) (n : Nat) (h : Nat → V) (id : Nat) (lo hi : Option V) : iC P ⟨e, b, n, h⟩ t id k xs lo hi = (slV P t (.sl .fz k xs) lo hi).map fun r => (r, ⟨kG (frz id) e, rP (frz id) b, n, kG (frz id) h⟩) := rfl
theorem X9 (v : Value) : isC (.c v) = true := rfl
end
def pgv := aI Uy (aI Uz (aI UA (aI Fh (aI X9 (aI aj (aI ax (aI qx aS)))))))
structure Tl where
 t : Int
 i : Int
 b : Bool
structure Cm where
 d : Int
 z : Int
 s : Int
 c : List Int
 b : Bool
structure Ll where
 p : Int
 s : Int
 r : List Int
structure Tp where
 z : Int
 t : Int
 e : List En
 b : Bool
structure Fq where
 z : Int
 t : Int
 l : Int
 e : List En
 b : Bool
structure Rk where
 z : Int
 t : Int
 l : Int
 v : List (List (List Nat))
 b : Bool
structure Pm where
 k : Int
 z : Int
 d : Int
 s : Int
structure Sk where
 p : Pm
 tl : Tl
 cm : Cm
 ll : Ll
 tp : Tp
 fq : Fq
 rk : Rk
abbrev pmF (p : Pm) : List V := [vi p.k, vi p.z, vi p.d, vu p.s]
abbrev tlF (t : Tl) : List V := [vi t.t, vi t.i, vb t.b]
abbrev cmF (c : Cm) : List V := [vi c.d, vi c.z, vu c.s, fzi c.c, vb c.b]
abbrev llF (l : Ll) : List V := [vi l.p, vu l.s, fzi l.r]
abbrev tpF (t : Tp) : List V := [vi t.z, vi t.t, fzv t.e, vb t.b]
abbrev fqF (f : Fq) : List V := [vi f.z, vi f.t, vi f.l, fzv f.e, vb f.b]
abbrev rkF (r : Rk) : List V := [vi r.z, vi r.t, vi r.l, fzl r.v, vb r.b]
abbrev skF (s : Sk) : List V := [vi s.p.k, vi s.p.z, vi s.p.d, vu s.p.s, vi s.tl.t, vi s.tl.i, vb s.tl.b, vi s.cm.d, vi s.cm.z, vu s.cm.s, fzi s.cm.c, vb s.cm.b, vi s.ll.p, vu s.ll.s, fzi s.ll.r, vi s.tp.z, vi s.tp.t, fzv s.tp.e, vb s.tp.b, vi s.fq.z, vi s.fq.t, vi s.fq.l, fzv s.fq.e, vb s.fq.b, vi s.rk.z, vi s.rk.t, vi s.rk.l, fzl s.rk.v, vb s.rk.b]
def Tl.o : Tl := ⟨0, 0, false⟩
def Cm.o : Cm := ⟨0, 0, 0, [], false⟩
def Ll.o : Ll := ⟨0, 0, []⟩
def Tp.o : Tp := ⟨0, 0, [], false⟩
def Fq.o : Fq := ⟨0, 0, 0, [], false⟩
def Rk.o : Rk := ⟨0, 0, 0, [], false⟩
def Pm.o : Pm := ⟨0, 0, 0, 0⟩
def Sk.o : Sk := ⟨Pm.o, Tl.o, Cm.o, Ll.o, Tp.o, Fq.o, Rk.o⟩
end Go.Proofs.YtaoejnjkmfkbeaaGreat
end
namespace Go.Proofs.YtaoejnjkmfkbeaaGreat
open Go Go.Pg
theorem is9 : cO Tryz.prog 9 = true := by kernel_rfl
theorem it5 : lK Tryz.prog 5 = some .u8 := by kernel_rfl
def bt (c a b : Nat) : Bool := decide (a ≤ c) && decide (c ≤ b)
theorem dle (a b : Nat) : decide ((a : Int) ≤ (b : Int)) = decide (a ≤ b) := by
 by_cases h : a ≤ b
 ·rw [decide_eq_true h, decide_eq_true (by omega)]
 ·rw [decide_eq_false h, decide_eq_false (by omega)]
def dS (l : List Nat) : Bool := decide (1 ≤ l.length) && decide (l.length ≤ 32)
theorem zg (l : List Nat) : Pg.Good Tryz.prog 106 [.c (.string (sB l))] (.c (.bool (dS l))) := by
 refine kW (AL mix) Tryz.func106 rfl Tryz.results106 rfl (by kernel_rfl) (Nat.le_of_ble_eq_true (by kernel_rfl)) ?_
 have e1 : decide ((1 : Int) ≤ (l.length : Int)) = decide (1 ≤ l.length) := dle 1 _
 have e2 : decide ((l.length : Int) ≤ 32) = decide (l.length ≤ 32) := dle _ 32
 unfold dS
 cases h : decide (1 ≤ l.length) <;> rw [h] at e1
 all_goals
  simp only [Tryz.f106, pgs, pgl, pgx, pgf, Nat.reduceEqDiff, reduceIte, is9, jM, e1, e2]
  refine uO [] _ (lT _ _ _) .nil ?_ ?_
  ·simp only [pgs, pgl, pgx, pgf, Nat.reduceEqDiff, reduceIte]
  ·simp only [pgs, pgl, pgx, pgf, Nat.reduceEqDiff, reduceIte]
theorem qy (l : List Nat) : Pg.Good Tryz.prog 133 [.c (.string (sB l))] (.c (.bool (dS l))) := by
 refine kW (AL mix) Tryz.func133 rfl Tryz.results133 rfl (by kernel_rfl) (Nat.le_of_ble_eq_true (by kernel_rfl)) ?_
 have e1 : decide ((1 : Int) ≤ (l.length : Int)) = decide (1 ≤ l.length) := dle 1 _
 have e2 : decide ((l.length : Int) ≤ 32) = decide (l.length ≤ 32) := dle _ 32
 unfold dS
 cases h : decide (1 ≤ l.length) <;> rw [h] at e1
 all_goals
  simp only [Tryz.f133, pgs, pgl, pgx, pgf, Nat.reduceEqDiff, reduceIte, is9, jM, e1, e2]
  refine uO [] _ (lT _ _ _) .nil ?_ ?_
  ·simp only [pgs, pgl, pgx, pgf, Nat.reduceEqDiff, reduceIte]
  ·simp only [pgs, pgl, pgx, pgf, Nat.reduceEqDiff, reduceIte]
theorem sO (l : List Nat) : (dS l = true) = (1 ≤ l.length ∧ l.length ≤ 32) := by simp [dS]
theorem Gw (l : List Nat) : (dS l = false) = ¬ (1 ≤ l.length ∧ l.length ≤ 32) := by rw [← sO, Bool.not_eq_true]
theorem Gx {l : List Nat} (h : 1 ≤ l.length ∧ l.length ≤ 32) : dS l = true := by rw [sO]; exact h
def bD (l : List Nat) (n : Int) : Int := if 1 ≤ l.length ∧ l.length ≤ 32 then (if 1 ≤ n ∧ n ≤ 4294967295 then 0 else 5) else 7
theorem lV (l : List Nat) (n : Int) : Pg.Good Tryz.prog 38 [.agg [vs l, vi n]] (vi (bD l n)) := by
 refine gI oW Tryz.func38 Tryz.results38 ?_
 skip
 (repeat' first | refine wP trivial trivial ?_ | refine cU (zg _) ?_ | refine tX (aI @sO @Gw) ?_ ?_ <;> intro hc | fail)
 all_goals (refine rT [] ?_; first | rfl | simp only [pgo, simprocAttr] | skip)
 all_goals (unfold bD; (repeat' split) <;> first | rfl | omega)
theorem aJ (l : List Nat) (n : Int) : Pg.Good Tryz.prog 46 [.agg [vs l, vi n]] (vi (bD l n)) := by
 refine gI oW Tryz.func46 Tryz.results46 ?_
 (repeat' first | refine wP trivial trivial ?_ | refine cU (qy _) ?_ | refine tX (aI @sO @Gw) ?_ ?_ <;> intro hc | fail)
 all_goals (refine rT [] ?_; first | rfl | simp only [pgo, simprocAttr] | skip)
 all_goals (unfold bD; (repeat' split) <;> first | rfl | omega)
def WP (l p : List Nat) : Bool := decide (p.length ≤ l.length) && decide (l.take p.length = p)
def mk5 (c : Nat) : Bool := c != 95 && (c != 45 && (c != 46 && (c != 58 && c != 47)))
def plC (c : Nat) : Bool := bt c 97 122 || bt c 65 90 || bt c 48 57 || !mk5 c
def BV (l : List Nat) : Bool := l.all plC
def Zo : List Nat := [48, 49, 50, 51, 52, 53, 54, 55, 56, 57, 97, 98, 99, 100, 101, 102]
def hx (d : Nat) : Nat := Zo.getD d 0
def nib (c : Nat) : Int := if bt c 48 57 = true then (c : Int) - 48 else if bt c 97 102 = true then (c : Int) - 97 + 10 else -1
theorem Zp : elemT Tryz.prog 48 = some 5 := by kernel_rfl
theorem it9 : lK Tryz.prog 9 = none := by kernel_rfl
theorem UB (l : List Nat) : strOfNums (l.map fun (b : Nat) => (b : Int)) = sB l := by
 apply ByteArray.ext
 simp [strOfNums, sB, Function.comp_def]
theorem PH (tg : Tag) (l : List Nat) : jc Tryz.prog 48 9 (.sl tg 1 (bv l)) = some (.c (.string (sB l))) := by
 simp [jc, it9, Zp, it5, is9, VZ, UB]
theorem PI (s : St) (d : Option Nat) (tg : Tag) (l : List Nat) (K : Kd → St → Prop) : xx Tryz.prog s d 48 9 (.sl tg 1 (bv l)) K = K (kq [.sl tg 1 (bv l)] (.c (.string (sB l)))) (s.put d (.c (.string (sB l)))) := by
 rw [uM, PH]
 have h1 : (fZ Tryz.prog 48 9 (.sl tg 1 (bv l))).map (fun r => (r, s)) = none := rfl
 have h3 : eY Tryz.prog s 48 9 (.sl tg 1 (bv l)) = none := rfl
 have h2 : jW Tryz.prog s 48 9 (.sl tg 1 (bv l)) = none := by cases tg <;> simp [jW]
 rw [h1, h2, h3]
 simp only [bg, au, aC, or_false]
def prB (l : List Nat) (t : Nat) : Nat := (16 * nib (l.getD (2 * t) 0) + nib (l.getD (2 * t + 1) 0)).toNat
def prs (l : List Nat) (j : Nat) : List Nat := (List.range j).map (prB l)
def okP (l : List Nat) (t : Nat) : Bool := decide (0 ≤ nib (l.getD (2 * t) 0)) && decide (0 ≤ nib (l.getD (2 * t + 1) 0))
def okB (l : List Nat) (j : Nat) : Bool := (List.range j).all (okP l)
def W64 (n : Int) : Prop := -9223372036854775808 ≤ n ∧ n ≤ 9223372036854775807
def dI (n : Int) : Int := if n < 0 then 0 else n
theorem fG (n : Int) : 0 ≤ dI n ∧ (dI n ≤ 0 ∨ dI n ≤ n) := by unfold dI; split <;> omega
theorem Gy {n : Int} (h : 0 ≤ n) : dI n = n := if_neg (by omega)
theorem WQ (n : Int) : max n 0 = dI n := by unfold dI; split <;> omega
theorem qA (n : Int) : Pg.Good Tryz.prog 210 [vi n] (vi (dI n)) := by
 refine gI oW Tryz.func210 Tryz.results210 ?_
 (repeat' first | refine wP (aI @mmT @WQ) trivial ?_ | refine tS ?_ ?_ <;> intro hc | fail)
 all_goals (refine rT [] ?_; first | rfl | simp only [pgo, simprocAttr] | skip)
 all_goals first | (congr 2; unfold dI; split <;> omega) | skip
def iU (a b m : Int) : Int × Bool := if dI a > dI m ∨ dI b > dI m - dI a then (dI m, true) else (dI a + dI b, false)
theorem zh (a b m : Int) (hm : m ≤ 4611686018427387904) (ha : W64 a) (hb : W64 b) : Pg.Good Tryz.prog 136 [vi a, vi b, vi m] (.tup [vi (iU a b m).1, vb (iU a b m).2]) := by
 have h1 := fG a
 have h2 := fG b
 have h3 := fG m
 obtain ⟨a0, a1⟩ := ha
 obtain ⟨b0, b1⟩ := hb
 have e : iU a b m = if dI a > dI m ∨ dI b > dI m - dI a then (dI m, true) else (dI a + dI b, false) := rfl
 refine gI oW Tryz.func136 Tryz.results136 ?_
 by_cases c1 : dI a > dI m
 ·rw [if_pos (.inl c1)] at e
  rw [e]
  (repeat' first | refine wP trivial trivial ?_ | refine cU (qA _) ?_ | refine tS ?_ ?_ <;> intro hc | fail)
  exact rE []
 ·by_cases c2 : dI b > dI m - dI a
  ·rw [if_pos (.inr c2)] at e
   rw [e]
   (repeat' first | refine wP trivial trivial ?_ | refine cU (qA _) ?_ | refine tS ?_ ?_ <;> intro hc | fail)
   exact rE []
  ·rw [if_neg (by omega)] at e
   rw [e]
   (repeat' first | refine wP trivial trivial ?_ | refine cU (qA _) ?_ | refine tS ?_ ?_ <;> intro hc | fail)
   exact rE []
theorem WR (a b : Int) (ha : W64 a) (hb : W64 b) : Pg.Good Tryz.prog 138 [vi a, vi b] (.tup [vi (iU a b 1099511627776).1, vb (iU a b 1099511627776).2]) := by
 refine gI oW Tryz.func138 Tryz.results138 ?_
 (repeat' (first | (simp (disch := first | exact dqz | fail) only [pgz, simprocAttr, Tryz.f138]) | ((with_reducible show iP _ _ _ _ _ _); first | refine qp _ (zh _ _ _ (by decide) ha hb) rfl rfl rfl rfl ?_) | ((with_reducible first | apply fB | apply dP | apply gY) <;> intro hc <;> (try simp only [hc]) <;> (try simp only [pgd] at hc)) | (with_reducible refine cK ?_)))
 all_goals exact rE []
def zi (x : Int) : Int :=
 bits .xor .u64 (IntKind.u64.wrap (bits .xor .u64 (IntKind.u64.wrap (bits .xor .u64 x (x.fdiv (2 ^ min 30 IntKind.u64.bits)) * 13787848793156543929)) ((IntKind.u64.wrap (bits .xor .u64 x (x.fdiv (2 ^ min 30 IntKind.u64.bits)) * 13787848793156543929)).fdiv (2 ^ min 27 IntKind.u64.bits)) * 10723151780598845931))
  ((IntKind.u64.wrap (bits .xor .u64 (IntKind.u64.wrap (bits .xor .u64 x (x.fdiv (2 ^ min 30 IntKind.u64.bits)) * 13787848793156543929)) ((IntKind.u64.wrap (bits .xor .u64 x (x.fdiv (2 ^ min 30 IntKind.u64.bits)) * 13787848793156543929)).fdiv (2 ^ min 27 IntKind.u64.bits)) * 10723151780598845931)).fdiv (2 ^ min 31 IntKind.u64.bits))
theorem Fj (x : Int) : Pg.Good Tryz.prog 241 [vu x] (vu (zi x)) := by
 unfold zi
 refine gI oW Tryz.func241 Tryz.results241 ?_
 exact wR trivial trivial ae
def JI (s row : Int) : Int := zi (bits .xor .u64 s (IntKind.u64.wrap ((row + 1) * 15074714826142052245)))
theorem WS (s row : Int) (hr : 0 ≤ row ∧ row ≤ 7) : Pg.Good Tryz.prog 240 [vu s, vi row] (vu (JI s row)) := by
 refine gI oW Tryz.func240 Tryz.results240 ?_
 (repeat' first | refine wP trivial trivial ?_ | refine cU (Fj _) ?_ | refine tS ?_ ?_ <;> intro hc | fail)
 exact rE []
def jA (s : Int) (n : Nat) : List Int := (List.range n).map fun (i : Nat) => zi (IntKind.u64.wrap (s + IntKind.u64.wrap (((i : Int) + 1) * 11400714819323198485)))
theorem vg (s : Int) (n : Nat) : (jA s n).length = n := by simp [jA]
theorem JJ (s : Int) (n : Nat) : jA s n ++ [zi (IntKind.u64.wrap (s + IntKind.u64.wrap (((n : Int) + 1) * 11400714819323198485)))] = jA s (n + 1) := by simp [jA, List.range_succ]
theorem BX (s : Int) : Pg.Good Tryz.prog 212 [vu s] (fzu (jA s 256)) := by
 refine Good.fzr (r := .sl (.own 0 23) 1 (uv (jA s 256))) ?_ rfl (.inl (.inl rfl))
 refine gI oW Tryz.func212 Tryz.results212 ?_
 refine wS trivial trivial ?_
 refine aK (fun i : Nat => mkA [(0, vu s), (3, .sl (.own 0 23) 1 (uv (jA s i))), (4, vu ((i : Int) + 1))] [] 1 (fun _ => .top)) (fun i => i ≤ 256) (fun i => 256 - i) 0 [] [] ?_ (Nat.zero_le _) ?_
 ·exact kE
  all_goals first | exact dR rfl | exact aX (by omega) | skip
 ·intro i hi
  replace hi : i ≤ 256 := hi
  have hl := vg s i
  have hul := qx (jA s i)
  rcases Nat.lt_or_ge i 256 with hlt | hge
  ·have hn := JJ s i
   (repeat' first | refine wP (aI @Uu (aI @hn (aI @qx @hl))) trivial ?_ | refine cU (Fj _) ?_ | refine tS ?_ ?_ <;> intro hc | fail)
   exact bE (i + 1) [0] [] hlt
  ·have : i = 256 := by omega
   subst this
   exact wR trivial trivial (ids [0])
def o8 (t : List Int) (h : Int) (c i : Nat) : Int := IntKind.u64.wrap (bits .xor .u64 (bits .or .u64 (IntKind.u64.wrap (h * 2 ^ min 5 IntKind.u64.bits)) (h.fdiv (2 ^ min 59 IntKind.u64.bits))) (t.getD ((c + i) % 256) 0) * 1099511628211)
def PK (t : List Int) : Int → Nat → List Nat → Int
 | h, _, [] => h
 | h, i, c :: cs => PK t (o8 t h c i) (i + 1) cs
def lW (t : List Int) (k : List Nat) : Int := zi (PK t (t.getD (k.length % 256) 0) 0 k)
theorem UC (l : List Nat) (i : Nat) (h : i < l.length) : l.drop i = l.getD i 0 :: l.drop (i + 1) := by rw [List.drop_eq_getElem_cons h]; simp [List.getD, h]
theorem Ya (a b : Nat) : Int.tmod ((a : Int) + (b : Int)) 256 = (((a + b) % 256 : Nat) : Int) := rfl
theorem WT (a : Nat) : Int.tmod (a : Int) 256 = ((a % 256 : Nat) : Int) := rfl
theorem Gz (t : List Int) (ht : t.length = 256) (k : List Nat) (ho : oct k) (hk : k.length ≤ 1000000) : Pg.Good Tryz.prog 211 [fzu t, vs k] (.tup [vu (lW t k), vi 0]) := by
 have hul := qx t
 have h0 := PG t (k.length % 256) (by omega)
 have hb0 : k.length % 256 < 256 := Nat.mod_lt _ (by omega)
 refine gI oW Tryz.func211 Tryz.results211 ?_
 refine wS (aI @qx (aI @ht (aI @WT @h0))) trivial ?_
 refine aK (fun x : Int × Nat => mkA [(0, fzu t), (1, vs k), (6, vu x.1), (7, vi x.2)] [] 0 (fun _ => .top)) (fun x => x.2 ≤ k.length ∧ lW t k = zi (PK t x.1 x.2 (k.drop x.2))) (fun x => k.length - x.2) (t.getD (k.length % 256) 0, 0) [] [] ?_ ⟨Nat.zero_le _, rfl⟩ ?_
 ·exact kE
 ·rintro ⟨h, i⟩ ⟨hi, he⟩
  simp only at hi he
  rcases Nat.lt_or_ge i k.length with hlt | hge
  ·rw [UC k i hlt] at he
   have hc := Gi ho i
   generalize hcc : k.getD i 0 = c at he hc
   have h1 := PG t ((c + i) % 256) (by omega)
   have hb1 : (c + i) % 256 < 256 := Nat.mod_lt _ (by omega)
   refine wS (aI @qx (aI @ht (aI @hcc (aI @Ya @h1)))) trivial ?_
   refine aQ (o8 t h c i, i + 1) [] [] ⟨hlt, he⟩ (by show k.length - (i + 1) < k.length - i; omega) ?_
   exact kE
  ·have : i = k.length := by omega
   subst this
   rw [List.drop_length] at he
   rw [he]
   (repeat' first | refine wP trivial trivial ?_ | refine cU (Fj _) ?_ | refine tS ?_ ?_ <;> intro hc | fail)
   exact rE []
def Fp (n : Int) (i : Nat) : Bool := bits .and .i64 (n.fdiv (2 ^ min i IntKind.i64.bits)) 1 == 1
def fD (n : Int) (i : Nat) : List Int := ((List.range i).filter (Fp n)).map fun (j : Nat) => (j : Int)
theorem WU (n : Int) (i : Nat) (h : Fp n i = true) : fD n i ++ [(i : Int)] = fD n (i + 1) := by simp [fD, List.range_succ, List.filter_append, h]
theorem WV (n : Int) (i : Nat) (h : Fp n i = false) : fD n i = fD n (i + 1) := by simp [fD, List.range_succ, List.filter_append, h]
theorem BZ (n : Int) (i : Nat) : (fD n i).length ≤ i := by
 have := List.length_filter_le (Fp n) (List.range i)
 simp only [fD, List.length_map]
 simpa using this
theorem JK (n : Int) (hn : 0 < n) : Pg.Good Tryz.prog 145 [vi n] (fzi (fD n 63)) := by
 refine Good.fzr (r := .sl (.own 0 3) 1 (iv (fD n 63))) ?_ rfl (.inl (.inl rfl))
 refine gI oW Tryz.func145 Tryz.results145 ?_
 refine wS trivial trivial ?_
 refine aK (fun i : Nat => mkA [(0, vi n), (3, .sl (.own 0 3) 1 (iv (fD n i))), (4, vi i)] [] 1 (fun _ => .top)) (fun i => i ≤ 63) (fun i => 63 - i) 0 [] [] ?_ (Nat.zero_le _) ?_
 ·exact kE
  all_goals first | exact dR rfl | skip
 ·intro i hi
  replace hi : i ≤ 63 := hi
  have hl := BZ n i
  have hil := ax (fD n i)
  rcases Nat.lt_or_ge i 63 with hlt | hge
  ·cases hp : Fp n i
   ·have hf := WV n i hp
    unfold Fp at hp
    refine wS @hp trivial ?_
    (refine bL (i + 1) [0] [] hlt ?_; refine kL ?_)
    all_goals exact aP rfl (by rw [hf])
   ·have hf := WU n i hp
    unfold Fp at hp
    refine wS (aI @hp (aI @Gv @hf)) trivial ?_
    exact bE (i + 1) [0] [] hlt
  ·have : i = 63 := by omega
   subst this
   exact wR trivial trivial (ids [0])
def zk (co : List Nat) (i : Int) : Int := if i < 0 ∨ i.tdiv 8 ≥ co.length then 0 else bits .and .i64 (((co.getD (i.tdiv 8).toNat 0 : Nat) : Int).fdiv (2 ^ min (7 - i.tmod 8).toNat IntKind.i64.bits)) 1
theorem PL (co : List Nat) (hco : oct co) (i : Int) (hi : i ≤ 9223372036854775807) : Pg.Good Tryz.prog 214 [fzb co, vi i] (vi (zk co i)) := by
 unfold zk
 have hbl := uP co
 refine gI oW Tryz.func214 Tryz.results214 ?_
 by_cases c1 : i < 0
 ·rw [if_pos (.inl c1)]
  exact wR trivial trivial ae
 ·have e1 : i.tdiv 8 = i / 8 := Int.tdiv_eq_ediv_of_nonneg (by omega)
  have e2 : i.tmod 8 = i % 8 := Int.tmod_eq_emod_of_nonneg (by omega)
  rw [e1, e2]
  by_cases c2 : i / 8 ≥ co.length
  ·rw [if_pos (.inr c2)]
   exact wR (aI @e1 @uP) trivial ae
  ·rw [if_neg (by omega)]
   have hg := VX co (i / 8).toNat (by omega)
   have hc := Gi hco (i / 8).toNat
   exact wR (aI @e1 (aI @e2 (aI @uP @hg))) trivial ae
def inb (n a b : Int) : Bool := decide (a ≤ n) && decide (n ≤ b)
theorem gQ (n a b : Int) : (inb n a b = true) = (a ≤ n ∧ n ≤ b) := by simp [inb]
theorem iD (n a b : Int) : (inb n a b = false) = ¬ (a ≤ n ∧ n ≤ b) := by
 rw [← gQ, Bool.not_eq_true]
theorem xE {n a b : Int} (h : a ≤ n ∧ n ≤ b) : inb n a b = true := by rw [gQ]; exact h
theorem gq {n a b : Int} (h : ¬ (a ≤ n ∧ n ≤ b)) : inb n a b = false := by rw [iD]; exact h
theorem PM (n a b : Int) : Pg.Good Tryz.prog 155 [vi n, vi a, vi b] (vb (inb n a b)) := by
 refine gI oW Tryz.func155 Tryz.results155 ?_
 by_cases h1 : a ≤ n <;> by_cases h2 : n ≤ b
 all_goals
  refine wS trivial trivial ?_
  (refine rT [] ?_; first | rfl | simp only [pgo, simprocAttr] | skip)
  try (rw [show inb n a b = _ from by first | exact xE ⟨h1, h2⟩ | exact gq (by omega)])
theorem Fv (n a b : Int) : Pg.Good Tryz.prog 156 [vi n, vi a, vi b] (vb (inb n a b)) := by
 refine gI oW Tryz.func156 Tryz.results156 ?_
 by_cases h1 : a ≤ n <;> by_cases h2 : n ≤ b
 all_goals
  refine wS trivial trivial ?_
  (refine rT [] ?_; first | rfl | simp only [pgo, simprocAttr] | skip)
  try (rw [show inb n a b = _ from by first | exact xE ⟨h1, h2⟩ | exact gq (by omega)])
theorem bi (n a b : Int) : Pg.Good Tryz.prog 157 [vi n, vi a, vi b] (vb (inb n a b)) := by
 refine gI oW Tryz.func157 Tryz.results157 ?_
 by_cases h1 : a ≤ n <;> by_cases h2 : n ≤ b
 all_goals
  refine wS trivial trivial ?_
  (refine rT [] ?_; first | rfl | simp only [pgo, simprocAttr] | skip)
  try (rw [show inb n a b = _ from by first | exact xE ⟨h1, h2⟩ | exact gq (by omega)])
def vp (k z d s : Int) : Int :=
 if k = 1 then (if z = 0 ∧ d = 0 ∧ s = 0 then 0 else 10)
 else if k = 2 then (if 1 ≤ d ∧ d ≤ 8 ∧ 1 ≤ z ∧ z ≤ 64 then 0 else 5)
 else if k = 3 then (if 2 ≤ z ∧ z ≤ 8 then (if d = 0 then 0 else 10) else 5)
 else if k = 4 ∨ k = 5 then (if 1 ≤ z ∧ z ≤ 32 then (if d = 0 ∧ s = 0 then 0 else 10) else 5)
 else if k = 6 then (if 2 ≤ z ∧ z ≤ 32 ∧ z % 2 = 0 then (if d = 0 ∧ s = 0 then 0 else 10) else 5)
 else 8
theorem sQ (a b : Int) (h : 0 ≤ a) : a.tmod b = a % b := Int.tmod_eq_emod_of_nonneg h
abbrev pV (k z d s : Int) : List V := [vi k, vi z, vi d, vu s]
theorem gZ (k z d s : Int) : Pg.Good Tryz.prog 60 [.agg (pV k z d s)] (vi (vp k z d s)) := by
 refine gI oW Tryz.func60 Tryz.results60 ?_
 skip
 (repeat' first | refine wP @sQ trivial ?_ | refine cU (PM _ _ _) ?_ | refine tX (aI @gQ @iD) ?_ ?_ <;> intro hc | fail)
 all_goals (refine rT [] ?_; first | rfl | simp only [pgo, simprocAttr] | skip)
 (all_goals (unfold vp; (repeat' split) <;> first | rfl | (exfalso; omega)))
theorem aF (k z d s : Int) : Pg.Good Tryz.prog 64 [.agg (pV k z d s)] (vi (vp k z d s)) := by
 refine gI oW Tryz.func64 Tryz.results64 ?_
 (repeat' first | refine wP @sQ trivial ?_ | refine cU (Fv _ _ _) ?_ | refine tX (aI @gQ @iD) ?_ ?_ <;> intro hc | fail)
 all_goals (refine rT [] ?_; first | rfl | simp only [pgo, simprocAttr] | skip)
 (all_goals (unfold vp; (repeat' split) <;> first | rfl | (exfalso; omega)))
theorem ay (n a b : Int) (h : a ≤ n ∧ n ≤ b) : Pg.Good Tryz.prog 157 [vi n, vi a, vi b] (vb true) := by
 have := bi n a b; rwa [xE h] at this
theorem GG {k z d s : Int} (h : vp k z d s = 0) : k = 1 ∨ k = 2 ∨ k = 3 ∨ k = 4 ∨ k = 5 ∨ k = 6 := by unfold vp at h; repeat' split at h <;> omega
def vTl (t : Tl) : Int := if (0 ≤ t.t ∧ t.t ≤ 4294967295) ∧ (0 ≤ t.i ∧ t.i ≤ 4294967295) ∧ t.i ≤ t.t then 0 else 5
theorem kJ (t : Tl) : Pg.Good Tryz.prog 65 [.agg (tlF t)] (vi (vTl t)) := by
 obtain ⟨a, b, s⟩ := t
 skip
 refine gI oW Tryz.func65 Tryz.results65 ?_
 (repeat' first | refine wP trivial trivial ?_ | refine cU (bi _ _ _) ?_ | refine tX (aI @gQ @iD) ?_ ?_ <;> intro hc | fail)
 all_goals (refine rT [] ?_; first | rfl | simp only [pgo, simprocAttr] | skip)
 all_goals (unfold vTl; simp only; (repeat' split) <;> first | rfl | (exfalso; omega))
def vk (a b : Tl) : Tl := ⟨(iU a.t b.t 4294967295).1, (iU a.i b.i 4294967295).1, a.b || b.b || (iU a.t b.t 4294967295).2 || (iU a.i b.i 4294967295).2⟩
theorem Fz (a b : Tl) (h1 : W64 a.t) (h2 : W64 a.i) (h3 : W64 b.t) (h4 : W64 b.i) : Pg.Good Tryz.prog 134 [.agg (tlF a), .agg (tlF b)] (.agg (tlF (vk a b))) := by
 obtain ⟨a1, a2, a3⟩ := a
 obtain ⟨b1, b2, b3⟩ := b
 simp only at h1 h2 h3 h4
 unfold vk
 simp only
 have k1 := zh a1 b1 4294967295 (by decide) h1 h3
 have k2 := zh a2 b2 4294967295 (by decide) h2 h4
 generalize iU a1 b1 4294967295 = x at *
 generalize iU a2 b2 4294967295 = y at *
 obtain ⟨x1, x2⟩ := x
 obtain ⟨y1, y2⟩ := y
 simp only at k1 k2 ⊢
 refine gI oW Tryz.func134 Tryz.results134 ?_
 cases a3 <;> cases b3 <;> cases x2 <;> cases y2
 all_goals
  (repeat' first | refine wP trivial (aI k1 k2) ?_ | refine tX (aI @gQ @iD) ?_ ?_ <;> intro hc | fail)
  exact rE []
def o9 (t : Tl) (k : List Nat) (w : Int) : Tl × Int := if vTl t ≠ 0 then (Tl.o, vTl t) else if bD k w ≠ 0 then (Tl.o, bD k w) else (vk t ⟨w, 1, false⟩, 0)
theorem zl {t : Tl} (h : vTl t = 0) : W64 t.t ∧ W64 t.i := by
 unfold vTl at h
 split at h
 ·unfold W64; omega
 ·cases h
theorem jq {k : List Nat} {w : Int} (h : bD k w = 0) : (1 ≤ w ∧ w ≤ 4294967295) ∧ 1 ≤ k.length ∧ k.length ≤ 32 := by
 unfold bD at h
 split at h
 ·split at h
  ·omega
  ·cases h
 ·cases h
theorem vw (t : Tl) (k : List Nat) (w : Int) : Pg.Good Tryz.prog 48 [.agg (tlF t), .agg [vs k, vi w]] (.tup [.agg (tlF (o9 t k w).1), vi (o9 t k w).2]) := by
 have h1 := kJ t
 have h2 := aJ k w
 unfold o9
 by_cases c1 : vTl t = 0
 ·rw [if_neg (by omega)]
  rw [c1] at h1
  by_cases c2 : bD k w = 0
  ·rw [if_neg (by omega)]
   rw [c2] at h2
   have h3 := Fz t ⟨w, 1, false⟩ (zl c1).1 (zl c1).2 (show W64 w from by have := jq c2; unfold W64; omega) (show W64 1 from ⟨by decide, by decide⟩)
   generalize vk t ⟨w, 1, false⟩ = r at *
   refine gI oW Tryz.func48 Tryz.results48 ?_
   (repeat' first | refine wP trivial (aI h1 (aI h2 h3)) ?_ | refine tX (aI @gQ @iD) ?_ ?_ <;> intro hc | fail)
   exact rE []
  ·rw [if_pos (by omega)]
   refine gI oW Tryz.func48 Tryz.results48 ?_
   (repeat' first | refine wP trivial (aI h1 h2) ?_ | refine tX (aI @gQ @iD) ?_ ?_ <;> intro hc | fail)
   exact rE []
 ·rw [if_pos (by omega)]
  refine gI oW Tryz.func48 Tryz.results48 ?_
  (repeat' first | refine wP trivial h1 ?_ | refine tX (aI @gQ @iD) ?_ ?_ <;> intro hc | fail)
  exact rE []
theorem vz {d z : Int} (hd : 1 ≤ d ∧ d ≤ 8) (hz : 1 ≤ z ∧ z ≤ 64) : 0 ≤ d * z ∧ d * z ≤ 512 := by
 refine ⟨Int.mul_nonneg (by omega) (by omega), ?_⟩
 have h1 : d * z ≤ 8 * z := Int.mul_le_mul_of_nonneg_right hd.2 (by omega)
 omega
def fQ (a b : Int) (l : List Int) : Bool := l.all fun n => decide (a ≤ n ∧ n ≤ b)
theorem lg {a b : Int} {l : List Int} {i : Nat} (h : i < l.length) : fQ a b (l.take (i + 1)) = (fQ a b (l.take i) && decide (a ≤ l.getD i 0 ∧ l.getD i 0 ≤ b)) := by
 unfold fQ
 rw [List.take_succ_eq_append_getElem h, List.all_append]
 simp [List.getD, h]
theorem mJ {a b : Int} {l : List Int} {i : Nat} (h : i < l.length) (hn : ¬ (a ≤ l.getD i 0 ∧ l.getD i 0 ≤ b)) : fQ a b l = false := by
 unfold fQ
 rw [← Bool.not_eq_true, List.all_eq_true]
 intro h'
 have := h' l[i] (List.getElem_mem h)
 simp only [decide_eq_true_eq] at this
 apply hn
 simpa [List.getD, h] using this
theorem JL {a b : Int} {l : List Int} (h : fQ a b l = true) {i : Nat} (hi : i < l.length) : a ≤ l.getD i 0 ∧ l.getD i 0 ≤ b := by
 unfold fQ at h
 have := List.all_eq_true.1 h l[i] (List.getElem_mem hi)
 simpa [List.getD, hi] using this
def vCm (c : Cm) : Int := if ¬ (1 ≤ c.d ∧ c.d ≤ 8 ∧ 1 ≤ c.z ∧ c.z ≤ 64) then 5 else if (c.c.length : Int) ≠ c.d * c.z then 18 else if fQ 0 4294967295 c.c = true then 0 else 5
theorem iQ (c : Cm) : Pg.Good Tryz.prog 66 [.agg (cmF c)] (vi (vCm c)) := by
 obtain ⟨d, z, s, l, b⟩ := c
 unfold vCm
 simp only
 have hil := ax l
 by_cases c1 : 1 ≤ d ∧ d ≤ 8 ∧ 1 ≤ z ∧ z ≤ 64
 ·rw [if_neg (by simpa using c1)]
  have k1 := ay d 1 8 (by omega)
  have k2 := ay z 1 64 (by omega)
  have hm := vz ⟨c1.1, c1.2.1⟩ c1.2.2
  by_cases c2 : (l.length : Int) = d * z
  ·rw [if_neg (by omega)]
   generalize hdz : d * z = dz at *
   refine gI oW Tryz.func66 Tryz.results66 ?_
   (repeat' first | refine wP (aI @hdz @ax) (aI k1 k2) ?_ | refine tX (aI @gQ @iD) ?_ ?_ <;> intro hc | fail)
   refine aK (fun i : Nat => mkA [(1, .ref 0 0), (3, vi i)] [(0, (29, cmF ⟨d, z, s, l, b⟩))] 1 (fun _ => .top)) (fun i => i ≤ l.length ∧ fQ 0 4294967295 (l.take i) = true) (fun i => l.length - i) 0 [] [0] ?_ ⟨Nat.zero_le _, rfl⟩ ?_
   ·exact kE
   ·rintro i ⟨hi, ha⟩
    rcases Nat.lt_or_ge i l.length with hlt | hge
    ·have hg := jm l i hlt
     have hx := mJ (a := 0) (b := 4294967295) hlt
     have hn := lg (a := 0) (b := 4294967295) hlt
     rw [ha] at hn
     generalize l.getD i 0 = n at *
     by_cases hc : 0 ≤ n ∧ n ≤ 4294967295
     ·have k3 := ay n 0 4294967295 hc
      (repeat' first | refine wP (aI @ax @hg) k3 ?_ | refine tX (aI @gQ @iD) ?_ ?_ <;> intro hc | fail)
      exact bE (i + 1) [] [0] ⟨hlt, by rw [hn, decide_eq_true hc]; rfl⟩
     ·have k3 := bi n 0 4294967295
      rw [gq hc] at k3
      rw [hx hc, if_neg (by simp)]
      (repeat' first | refine wP (aI @ax @hg) k3 ?_ | refine tX (aI @gQ @iD) ?_ ?_ <;> intro hc | fail)
      exact rE []
    ·have : i = l.length := by omega
     subst this
     rw [List.take_length] at ha
     rw [ha, if_pos rfl]
     (repeat' first | refine wP @ax trivial ?_ | refine tX (aI @gQ @iD) ?_ ?_ <;> intro hc | fail)
     exact rE []
  ·rw [if_pos c2]
   generalize hdz : d * z = dz at *
   refine gI oW Tryz.func66 Tryz.results66 ?_
   (repeat' first | refine wP (aI @hdz @ax) (aI k1 k2) ?_ | refine tX (aI @gQ @iD) ?_ ?_ <;> intro hc | fail)
   exact rE []
 ·rw [if_pos c1]
  by_cases c2 : 1 ≤ d ∧ d ≤ 8
  ·have k1 := ay d 1 8 c2
   have k2 := bi z 1 64
   rw [gq (by omega)] at k2
   refine gI oW Tryz.func66 Tryz.results66 ?_
   (repeat' first | refine wP trivial (aI k1 k2) ?_ | refine tX (aI @gQ @iD) ?_ ?_ <;> intro hc | fail)
   exact rE []
  ·have k1 := bi d 1 8
   rw [gq c2] at k1
   refine gI oW Tryz.func66 Tryz.results66 ?_
   (repeat' first | refine wP trivial k1 ?_ | refine tX (aI @gQ @iD) ?_ ?_ <;> intro hc | fail)
   exact rE []
theorem GH (n : Int) : 0 ≤ IntKind.u64.wrap n ∧ IntKind.u64.wrap n < 18446744073709551616 := by
 rw [IntKind.wrap_u64]
 omega
theorem PN (x : Int) : 0 ≤ zi x ∧ zi x < 18446744073709551616 := GH _
theorem mM (t : List Int) (k : List Nat) : 0 ≤ lW t k ∧ lW t k < 18446744073709551616 := PN _
def FB (s row z : Int) (k : List Nat) : Int := (lW (jA (JI s row) 256) k).tmod z
theorem vC (s row z : Int) (k : List Nat) (hz : 1 ≤ z) : 0 ≤ FB s row z k ∧ FB s row z k < z := by
 unfold FB
 have h := (mM (jA (JI s row) 256) k).1
 rw [Int.tmod_eq_emod_of_nonneg h]
 exact ⟨Int.emod_nonneg _ (by omega), Int.emod_lt_of_pos _ (by omega)⟩
theorem JM (s row z : Int) (k : List Nat) (ho : oct k) (hr : 0 ≤ row ∧ row ≤ 7) (hz : 1 ≤ z ∧ z ≤ 64) (hk : 1 ≤ k.length ∧ k.length ≤ 32) : Pg.Good Tryz.prog 209 [vu s, vi row, vi z, vs k] (.tup [vi (FB s row z k), vi 0]) := by
 have k1 := ay row 0 7 hr
 have k2 := ay z 1 64 hz
 have k3 := qy k
 rw [Gx hk] at k3
 have k4 := Gz (jA (JI s row) 256) (vg _ _) k ho (by omega)
 have hc := vC s row z k hz.1
 have hh := mM (jA (JI s row) 256) k
 unfold FB at *
 generalize lW (jA (JI s row) 256) k = h at *
 refine gI oW Tryz.func209 Tryz.results209 ?_
 (repeat' first | refine wP trivial (aI k1 (aI k2 (aI k3 (aI (WS s row hr) k4)))) ?_ | refine cU (BX _) ?_ | refine tX (aI @gQ @iD) ?_ ?_ <;> intro hc | fail)
 exact rE []
def pg (s z row : Int) (k : List Nat) : Int := row * z + FB s row z k
theorem xG (s z row d : Int) (k : List Nat) (hz : 1 ≤ z) (hr : 0 ≤ row ∧ row < d) : 0 ≤ pg s z row k ∧ pg s z row k < d * z := by
 have h := vC s row z k hz
 unfold pg
 have h1 : 0 ≤ row * z := Int.mul_nonneg hr.1 (by omega)
 have h2 : (row + 1) * z ≤ d * z := Int.mul_le_mul_of_nonneg_right (by omega) (by omega)
 rw [Int.add_mul] at h2
 omega
theorem UD (c : Cm) (row : Int) (k : List Nat) (ho : oct k) (hr : 0 ≤ row ∧ row ≤ 7) (hz : 1 ≤ c.z ∧ c.z ≤ 64) (hk : 1 ≤ k.length ∧ k.length ≤ 32) : Pg.Good Tryz.prog 135 [.agg (cmF c), vi row, vs k] (vi (pg c.s c.z row k)) := by
 obtain ⟨d, z, s, l, b⟩ := c
 simp only at hz ⊢
 have k1 := JM s row z k ho hr hz hk
 have hc := vC s row z k hz.1
 have hcell := xG s z row 8 k hz.1 (by omega)
 have hm : 0 ≤ row * z := Int.mul_nonneg hr.1 (by omega)
 have hm2 : row * z ≤ 7 * z := Int.mul_le_mul_of_nonneg_right hr.2 (by omega)
 unfold pg at *
 generalize FB s row z k = q at *
 generalize hrz : row * z = rz at *
 refine gI oW Tryz.func135 Tryz.results135 ?_
 (repeat' first | refine wP @hrz k1 ?_ | refine tX (aI @gQ @iD) ?_ ?_ <;> intro hc | fail)
 exact rE []
end Go.Proofs.YtaoejnjkmfkbeaaGreat
