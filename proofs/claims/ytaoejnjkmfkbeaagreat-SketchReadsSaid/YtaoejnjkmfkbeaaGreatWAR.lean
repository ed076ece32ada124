/-
  Texts of this claim, merged; own names are short.
-/
import Derived.Test.YtaoejnjkmfkbeaaGreatWAQ
import Derived.Test.YtaoejnjkmfkbeaaGreatWAP
import Derived.Laws.BitsLemmas
import Derived.Test.YtaoejnjkmfkbeaaGreatWAM
set_option linter.unusedVariables false
set_option linter.unusedSimpArgs false
set_option linter.unusedSectionVars false
set_option linter.defProp false
set_option maxRecDepth 100000
set_option maxHeartbeats 8000000
namespace Go.Proofs.YtaoejnjkmfkbeaaGreat
open Go Go.Pg
abbrev vi (n : Int) : V := .c (.int .i64 n)
abbrev vu (n : Int) : V := .c (.int .u64 n)
abbrev vb (b : Bool) : V := .c (.bool b)
abbrev vs (l : List Nat) : V := .c (.string (sB l))
abbrev nls : V := .c (.slice none 0 0)
abbrev fzs (l : List (List Nat)) : V := .sl .fz 1 (sv l)
abbrev fzb (l : List Nat) : V := .sl .fz 1 (bv l)
def iv (l : List Int) : List V := l.map fun n => V.c (.int .i64 n)
theorem bC (l : List Int) : (iv l).length = l.length := by simp [iv]
theorem gQ (l : List Int) (i : Nat) (h : i < l.length) : (iv l)[i]? = some (.c (.int .i64 (l.getD i 0))) := by simp [iv, h, List.getD]
abbrev fzi (l : List Int) : V := .sl .fz 1 (iv l)
def itv (l : List (List Nat × Int)) : List V := l.map fun x => V.agg [vs x.1, vi x.2]
theorem Nu (l : List (List Nat × Int)) : (itv l).length = l.length := by simp [itv]
theorem aat (l : List (List Nat × Int)) (i : Nat) (h : i < l.length) : (itv l)[i]? = some (.agg [vs (l.getD i ([], 0)).1, vi (l.getD i ([], 0)).2]) := by simp [itv, h, List.getD]
abbrev fzt (l : List (List Nat × Int)) : V := .sl .fz 2 (itv l)
end Go.Proofs.YtaoejnjkmfkbeaaGreat
section
namespace Go.Proofs.YtaoejnjkmfkbeaaGreat
open Go Go.Pg
def uv (l : List Int) : List V := l.map fun n => V.c (.int .u64 n)
theorem xA (l : List Int) : (uv l).length = l.length := by simp [uv]
theorem VT (l : List Int) (i : Nat) (h : i < l.length) : (uv l)[i]? = some (.c (.int .u64 (l.getD i 0))) := by simp [uv, h, List.getD]
theorem aau (l : List Int) (n : Int) : uv l ++ [V.c (.int .u64 n)] = uv (l ++ [n]) := by simp [uv]
abbrev fzu (l : List Int) : V := .sl .fz 1 (uv l)
theorem zB (l : List Int) (n : Int) : iv l ++ [V.c (.int .i64 n)] = iv (l ++ [n]) := by simp [iv]
theorem EM (l : List Int) (i : Nat) (n : Int) : (iv l).set i (V.c (.int .i64 n)) = iv (l.set i n) := by simp [iv, List.map_set]
abbrev En := List Nat × Int × Int
def ev (l : List En) : List V := l.map fun x => V.agg [vs x.1, vi x.2.1, vi x.2.2]
theorem aP (l : List En) : (ev l).length = l.length := by simp [ev]
theorem fG (l : List En) (i : Nat) (h : i < l.length) : (ev l)[i]? = some (.agg [vs (l.getD i ([], 0, 0)).1, vi (l.getD i ([], 0, 0)).2.1, vi (l.getD i ([], 0, 0)).2.2]) := by simp [ev, h, List.getD]
theorem lW (l : List En) (k : List Nat) (c e : Int) : ev l ++ [V.agg [vs k, vi c, vi e]] = ev (l ++ [(k, c, e)]) := by simp [ev]
theorem AU (l : List En) (i : Nat) (k : List Nat) (c e : Int) : (ev l).set i (V.agg [vs k, vi c, vi e]) = ev (l.set i (k, c, e)) := by simp [ev, List.map_set]
theorem aav (l : List En) (n : Nat) : (ev l).take n = ev (l.take n) := by simp [ev, List.map_take]
abbrev fzv (l : List En) : V := .sl .fz 3 (ev l)
def lv (l : List (List (List Nat))) : List V := l.map fun x => fzs x
theorem dQ (l : List (List (List Nat))) : (lv l).length = l.length := by simp [lv]
theorem lN (l : List (List (List Nat))) (i : Nat) (h : i < l.length) : (lv l)[i]? = some (fzs (l.getD i [])) := by simp [lv, h, List.getD]
theorem sH (l : List (List (List Nat))) (x : List (List Nat)) : lv l ++ [fzs x] = lv (l ++ [x]) := by simp [lv]
theorem ada (l : List (List (List Nat))) (i : Nat) (x : List (List Nat)) : (lv l).set i (fzs x) = lv (l.set i x) := by simp [lv, List.map_set]
theorem aaw (l : List (List (List Nat))) (n : Nat) : (lv l).take n = lv (l.take n) := by simp [lv, List.map_take]
abbrev fzl (l : List (List (List Nat))) : V := .sl .fz 1 (lv l)
section
variable (P : Program) (t : TypeId) (k : Nat) (xs : List V) (ik ik' : IntKind) (a c : Int)
theorem aax (h0 : 0 ≤ c) (h1 : c ≤ xs.length) : slV P t (.sl .fz k xs) none (some (.c (.int ik c))) = if (elemT P t).bind (tsz P) = some k then some (.sl .fz k (xs.take c.toNat)) else none := by
 rw [ED]
 simp only [bdV, Option.bind_some]
 by_cases he : (elemT P t).bind (tsz P) = some k <;> simp [he, h0, h1]
theorem aay (h0 : 0 ≤ a) (h1 : a ≤ xs.length) : slV P t (.sl .fz k xs) (some (.c (.int ik a))) none = if (elemT P t).bind (tsz P) = some k then some (.sl .fz k (xs.drop a.toNat)) else none := by
 rw [ED]
 simp only [bdV, Option.bind_some]
 by_cases he : (elemT P t).bind (tsz P) = some k <;> simp [he, h0, h1]
theorem aaz (h0 : 0 ≤ a) (h1 : a ≤ c) (h2 : c ≤ xs.length) : slV P t (.sl .fz k xs) (some (.c (.int ik a))) (some (.c (.int ik' c))) = if (elemT P t).bind (tsz P) = some k then some (.sl .fz k ((xs.take c.toNat).drop a.toNat)) else none := by
 rw [ED]
 simp only [bdV, Option.bind_some]
 by_cases he : (elemT P t).bind (tsz P) = some k <;> simp [he, h0, h1, h2]
theorem La (e : Nat → V) (b : Nat → Option (TypeId × List V)) (n : Nat) (h : Nat → V) (id : Nat) (lo hi : Option V) : lq P ⟨e, b, n, h⟩ t id k xs lo hi = (slV P t (.sl .fz k xs) lo hi).map fun r => (r, ⟨iM (frz id) e, mX (frz id) b, n, iM (frz id) h⟩) := rfl
theorem aev (v : Value) : isC (.c v) = true := rfl
end
def pgv := aI aax (aI aay (aI aaz (aI La (aI aev (aI aP (aI bC (aI xA dQ)))))))
structure Tl where
 t : Int
 i : Int
 b : Bool
structure Cm where
 d : Int
 z : Int
 s : Int
 c : List Int
 b : Bool
structure Ll where
 p : Int
 s : Int
 r : List Int
structure Tp where
 z : Int
 t : Int
 e : List En
 b : Bool
structure Fq where
 z : Int
 t : Int
 l : Int
 e : List En
 b : Bool
structure Rk where
 z : Int
 t : Int
 l : Int
 v : List (List (List Nat))
 b : Bool
structure Pm where
 k : Int
 z : Int
 d : Int
 s : Int
structure Sk where
 p : Pm
 tl : Tl
 cm : Cm
 ll : Ll
 tp : Tp
 fq : Fq
 rk : Rk
abbrev pmF (p : Pm) : List V := [vi p.k, vi p.z, vi p.d, vu p.s]
abbrev tlF (t : Tl) : List V := [vi t.t, vi t.i, vb t.b]
abbrev cmF (c : Cm) : List V := [vi c.d, vi c.z, vu c.s, fzi c.c, vb c.b]
abbrev llF (l : Ll) : List V := [vi l.p, vu l.s, fzi l.r]
abbrev tpF (t : Tp) : List V := [vi t.z, vi t.t, fzv t.e, vb t.b]
abbrev fqF (f : Fq) : List V := [vi f.z, vi f.t, vi f.l, fzv f.e, vb f.b]
abbrev rkF (r : Rk) : List V := [vi r.z, vi r.t, vi r.l, fzl r.v, vb r.b]
abbrev skF (s : Sk) : List V := [vi s.p.k, vi s.p.z, vi s.p.d, vu s.p.s, vi s.tl.t, vi s.tl.i, vb s.tl.b, vi s.cm.d, vi s.cm.z, vu s.cm.s, fzi s.cm.c, vb s.cm.b, vi s.ll.p, vu s.ll.s, fzi s.ll.r, vi s.tp.z, vi s.tp.t, fzv s.tp.e, vb s.tp.b, vi s.fq.z, vi s.fq.t, vi s.fq.l, fzv s.fq.e, vb s.fq.b, vi s.rk.z, vi s.rk.t, vi s.rk.l, fzl s.rk.v, vb s.rk.b]
def Tl.o : Tl := ⟨0, 0, false⟩
def Cm.o : Cm := ⟨0, 0, 0, [], false⟩
def Ll.o : Ll := ⟨0, 0, []⟩
def Tp.o : Tp := ⟨0, 0, [], false⟩
def Fq.o : Fq := ⟨0, 0, 0, [], false⟩
def Rk.o : Rk := ⟨0, 0, 0, [], false⟩
def Pm.o : Pm := ⟨0, 0, 0, 0⟩
def Sk.o : Sk := ⟨Pm.o, Tl.o, Cm.o, Ll.o, Tp.o, Fq.o, Rk.o⟩
end Go.Proofs.YtaoejnjkmfkbeaaGreat
end
namespace Go.Proofs.YtaoejnjkmfkbeaaGreat
open Go Go.Pg
theorem is9 : fK Tryz.prog 9 = true := by kernel_rfl
theorem it5 : qf Tryz.prog 5 = some .u8 := by kernel_rfl
def bt (c a b : Nat) : Bool := decide (a ≤ c) && decide (c ≤ b)
theorem dle (a b : Nat) : decide ((a : Int) ≤ (b : Int)) = decide (a ≤ b) := by
 by_cases h : a ≤ b
 ·rw [decide_eq_true h, decide_eq_true (by omega)]
 ·rw [decide_eq_false h, decide_eq_false (by omega)]
def ig (l : List Nat) : Bool := decide (1 ≤ l.length) && decide (l.length ≤ 32)
theorem EN (l : List Nat) : Pg.Good Tryz.prog 106 [.c (.string (sB l))] (.c (.bool (ig l))) := by
 refine ji (GY mix) Tryz.func106 rfl Tryz.results106 rfl (by kernel_rfl) (Nat.le_of_ble_eq_true (by kernel_rfl)) ?_
 have e1 : decide ((1 : Int) ≤ (l.length : Int)) = decide (1 ≤ l.length) := dle 1 _
 have e2 : decide ((l.length : Int) ≤ 32) = decide (l.length ≤ 32) := dle _ 32
 unfold ig
 cases h : decide (1 ≤ l.length) <;> rw [h] at e1
 all_goals
  simp only [Tryz.f106, pgs, pgl, pgx, pgf, Nat.reduceEqDiff, reduceIte, is9, nX, e1, e2]
  refine AA [] _ (bU _ _ _) .nil ?_ ?_
  ·simp only [pgs, pgl, pgx, pgf, Nat.reduceEqDiff, reduceIte]
  ·simp only [pgs, pgl, pgx, pgf, Nat.reduceEqDiff, reduceIte]
theorem xB (l : List Nat) : Pg.Good Tryz.prog 133 [.c (.string (sB l))] (.c (.bool (ig l))) := by
 refine ji (GY mix) Tryz.func133 rfl Tryz.results133 rfl (by kernel_rfl) (Nat.le_of_ble_eq_true (by kernel_rfl)) ?_
 have e1 : decide ((1 : Int) ≤ (l.length : Int)) = decide (1 ≤ l.length) := dle 1 _
 have e2 : decide ((l.length : Int) ≤ 32) = decide (l.length ≤ 32) := dle _ 32
 unfold ig
 cases h : decide (1 ≤ l.length) <;> rw [h] at e1
 all_goals
  simp only [Tryz.f133, pgs, pgl, pgx, pgf, Nat.reduceEqDiff, reduceIte, is9, nX, e1, e2]
  refine AA [] _ (bU _ _ _) .nil ?_ ?_
  ·simp only [pgs, pgl, pgx, pgf, Nat.reduceEqDiff, reduceIte]
  ·simp only [pgs, pgl, pgx, pgf, Nat.reduceEqDiff, reduceIte]
theorem jr (l : List Nat) : (ig l = true) = (1 ≤ l.length ∧ l.length ≤ 32) := by simp [ig]
theorem Nv (l : List Nat) : (ig l = false) = ¬ (1 ≤ l.length ∧ l.length ≤ 32) := by rw [← jr, Bool.not_eq_true]
theorem Nw {l : List Nat} (h : 1 ≤ l.length ∧ l.length ≤ 32) : ig l = true := by rw [jr]; exact h
def dW (l : List Nat) (n : Int) : Int := if 1 ≤ l.length ∧ l.length ≤ 32 then (if 1 ≤ n ∧ n ≤ 4294967295 then 0 else 5) else 7
theorem agI (l : List Nat) (n : Int) : Pg.Good Tryz.prog 38 [.agg [vs l, vi n]] (vi (dW l n)) := by
 refine gI oW Tryz.func38 Tryz.results38 ?_
 skip
 (repeat' first | refine wP trivial trivial ?_ | refine cU (EN _) ?_ | refine tX (aI @jr @Nv) ?_ ?_ <;> intro hc | fail)
 all_goals (refine rT [] ?_; first | rfl | simp only [pgo, simprocAttr] | skip)
 all_goals (unfold dW; (repeat' split) <;> first | rfl | omega)
theorem bZ (l : List Nat) (n : Int) : Pg.Good Tryz.prog 46 [.agg [vs l, vi n]] (vi (dW l n)) := by
 refine gI oW Tryz.func46 Tryz.results46 ?_
 (repeat' first | refine wP trivial trivial ?_ | refine cU (xB _) ?_ | refine tX (aI @jr @Nv) ?_ ?_ <;> intro hc | fail)
 all_goals (refine rT [] ?_; first | rfl | simp only [pgo, simprocAttr] | skip)
 all_goals (unfold dW; (repeat' split) <;> first | rfl | omega)
def adb (l p : List Nat) : Bool := decide (p.length ≤ l.length) && decide (l.take p.length = p)
def mk5 (c : Nat) : Bool := c != 95 && (c != 45 && (c != 46 && (c != 58 && c != 47)))
def plC (c : Nat) : Bool := bt c 97 122 || bt c 65 90 || bt c 48 57 || !mk5 c
def Iw (l : List Nat) : Bool := l.all plC
def afX : List Nat := [48, 49, 50, 51, 52, 53, 54, 55, 56, 57, 97, 98, 99, 100, 101, 102]
def hx (d : Nat) : Nat := afX.getD d 0
def nib (c : Nat) : Int := if bt c 48 57 = true then (c : Int) - 48 else if bt c 97 102 = true then (c : Int) - 97 + 10 else -1
theorem afY : elemT Tryz.prog 48 = some 5 := by kernel_rfl
theorem it9 : qf Tryz.prog 9 = none := by kernel_rfl
theorem aaA (l : List Nat) : strOfNums (l.map fun (b : Nat) => (b : Int)) = sB l := by
 apply ByteArray.ext
 simp [strOfNums, sB, Function.comp_def]
theorem VU (tg : Tag) (l : List Nat) : lh Tryz.prog 48 9 (.sl tg 1 (bv l)) = some (.c (.string (sB l))) := by
 simp [lh, it9, afY, it5, is9, Va, aaA]
theorem VV (s : St) (d : Option Nat) (tg : Tag) (l : List Nat) (K : Kd → St → Prop) : Ap Tryz.prog s d 48 9 (.sl tg 1 (bv l)) K = K (kq [.sl tg 1 (bv l)] (.c (.string (sB l)))) (s.put d (.c (.string (sB l)))) := by
 rw [vH, VU]
 have h1 : (jD Tryz.prog 48 9 (.sl tg 1 (bv l))).map (fun r => (r, s)) = none := rfl
 have h3 : iY Tryz.prog s 48 9 (.sl tg 1 (bv l)) = none := rfl
 have h2 : lI Tryz.prog s 48 9 (.sl tg 1 (bv l)) = none := by cases tg <;> simp [lI]
 rw [h1, h2, h3]
 simp only [dJ, aV, bI, or_false]
def prB (l : List Nat) (t : Nat) : Nat := (16 * nib (l.getD (2 * t) 0) + nib (l.getD (2 * t + 1) 0)).toNat
def prs (l : List Nat) (j : Nat) : List Nat := (List.range j).map (prB l)
def okP (l : List Nat) (t : Nat) : Bool := decide (0 ≤ nib (l.getD (2 * t) 0)) && decide (0 ≤ nib (l.getD (2 * t + 1) 0))
def okB (l : List Nat) (j : Nat) : Bool := (List.range j).all (okP l)
def W64 (n : Int) : Prop := -9223372036854775808 ≤ n ∧ n ≤ 9223372036854775807
def iw (n : Int) : Int := if n < 0 then 0 else n
theorem jF (n : Int) : 0 ≤ iw n ∧ (iw n ≤ 0 ∨ iw n ≤ n) := by unfold iw; split <;> omega
theorem Ny {n : Int} (h : 0 ≤ n) : iw n = n := if_neg (by omega)
theorem adc (n : Int) : max n 0 = iw n := by unfold iw; split <;> omega
theorem xC (n : Int) : Pg.Good Tryz.prog 210 [vi n] (vi (iw n)) := by
 refine gI oW Tryz.func210 Tryz.results210 ?_
 (repeat' first | refine wP (aI @mmT @adc) trivial ?_ | refine tS ?_ ?_ <;> intro hc | fail)
 all_goals (refine rT [] ?_; first | rfl | simp only [pgo, simprocAttr] | skip)
 all_goals first | (congr 2; unfold iw; split <;> omega) | skip
def lX (a b m : Int) : Int × Bool := if iw a > iw m ∨ iw b > iw m - iw a then (iw m, true) else (iw a + iw b, false)
theorem EO (a b m : Int) (hm : m ≤ 4611686018427387904) (ha : W64 a) (hb : W64 b) : Pg.Good Tryz.prog 136 [vi a, vi b, vi m] (.tup [vi (lX a b m).1, vb (lX a b m).2]) := by
 have h1 := jF a
 have h2 := jF b
 have h3 := jF m
 obtain ⟨a0, a1⟩ := ha
 obtain ⟨b0, b1⟩ := hb
 have e : lX a b m = if iw a > iw m ∨ iw b > iw m - iw a then (iw m, true) else (iw a + iw b, false) := rfl
 refine gI oW Tryz.func136 Tryz.results136 ?_
 by_cases c1 : iw a > iw m
 ·rw [if_pos (.inl c1)] at e
  rw [e]
  (repeat' first | refine wP trivial trivial ?_ | refine cU (xC _) ?_ | refine tS ?_ ?_ <;> intro hc | fail)
  exact rE []
 ·by_cases c2 : iw b > iw m - iw a
  ·rw [if_pos (.inr c2)] at e
   rw [e]
   (repeat' first | refine wP trivial trivial ?_ | refine cU (xC _) ?_ | refine tS ?_ ?_ <;> intro hc | fail)
   exact rE []
  ·rw [if_neg (by omega)] at e
   rw [e]
   (repeat' first | refine wP trivial trivial ?_ | refine cU (xC _) ?_ | refine tS ?_ ?_ <;> intro hc | fail)
   exact rE []
theorem ade (a b : Int) (ha : W64 a) (hb : W64 b) : Pg.Good Tryz.prog 138 [vi a, vi b] (.tup [vi (lX a b 1099511627776).1, vb (lX a b 1099511627776).2]) := by
 refine gI oW Tryz.func138 Tryz.results138 ?_
 (repeat' (first | (simp (disch := first | exact dqz | fail) only [pgz, simprocAttr, Tryz.f138]) | ((with_reducible show cu _ _ _ _ _ _); first | refine xw _ (EO _ _ _ (by decide) ha hb) rfl rfl rfl rfl ?_) | ((with_reducible first | apply aQ | apply aB | apply bz) <;> intro hc <;> (try simp only [hc]) <;> (try simp only [pgd] at hc)) | (with_reducible refine cK ?_)))
 all_goals exact rE []
def EP (x : Int) : Int :=
 bits .xor .u64 (IntKind.u64.wrap (bits .xor .u64 (IntKind.u64.wrap (bits .xor .u64 x (x.fdiv (2 ^ min 30 IntKind.u64.bits)) * 13787848793156543929)) ((IntKind.u64.wrap (bits .xor .u64 x (x.fdiv (2 ^ min 30 IntKind.u64.bits)) * 13787848793156543929)).fdiv (2 ^ min 27 IntKind.u64.bits)) * 10723151780598845931))
  ((IntKind.u64.wrap (bits .xor .u64 (IntKind.u64.wrap (bits .xor .u64 x (x.fdiv (2 ^ min 30 IntKind.u64.bits)) * 13787848793156543929)) ((IntKind.u64.wrap (bits .xor .u64 x (x.fdiv (2 ^ min 30 IntKind.u64.bits)) * 13787848793156543929)).fdiv (2 ^ min 27 IntKind.u64.bits)) * 10723151780598845931)).fdiv (2 ^ min 31 IntKind.u64.bits))
theorem Lc (x : Int) : Pg.Good Tryz.prog 241 [vu x] (vu (EP x)) := by
 unfold EP
 refine gI oW Tryz.func241 Tryz.results241 ?_
 exact wR trivial trivial ah
def Qp (s row : Int) : Int := EP (bits .xor .u64 s (IntKind.u64.wrap ((row + 1) * 15074714826142052245)))
theorem adf (s row : Int) (hr : 0 ≤ row ∧ row ≤ 7) : Pg.Good Tryz.prog 240 [vu s, vi row] (vu (Qp s row)) := by
 refine gI oW Tryz.func240 Tryz.results240 ?_
 (repeat' first | refine wP trivial trivial ?_ | refine cU (Lc _) ?_ | refine tS ?_ ?_ <;> intro hc | fail)
 exact rE []
def nK (s : Int) (n : Nat) : List Int := (List.range n).map fun (i : Nat) => EP (IntKind.u64.wrap (s + IntKind.u64.wrap (((i : Int) + 1) * 11400714819323198485)))
theorem AV (s : Int) (n : Nat) : (nK s n).length = n := by simp [nK]
theorem Qq (s : Int) (n : Nat) : nK s n ++ [EP (IntKind.u64.wrap (s + IntKind.u64.wrap (((n : Int) + 1) * 11400714819323198485)))] = nK s (n + 1) := by simp [nK, List.range_succ]
theorem Iy (s : Int) : Pg.Good Tryz.prog 212 [vu s] (fzu (nK s 256)) := by
 refine Good.fzr (r := .sl (.own 0 23) 1 (uv (nK s 256))) ?_ rfl (.inl (.inl rfl))
 refine gI oW Tryz.func212 Tryz.results212 ?_
 refine wS trivial trivial ?_
 refine bn (fun i : Nat => mkA [(0, vu s), (3, .sl (.own 0 23) 1 (uv (nK s i))), (4, vu ((i : Int) + 1))] [] 1 (fun _ => .top)) (fun i => i ≤ 256) (fun i => 256 - i) 0 [] [] ?_ (Nat.zero_le _) ?_
 ·exact kE
  all_goals first | exact di rfl | exact au (by omega) | skip
 ·intro i hi
  replace hi : i ≤ 256 := hi
  have hl := AV s i
  have hul := xA (nK s i)
  rcases Nat.lt_or_ge i 256 with hlt | hge
  ·have hn := Qq s i
   (repeat' first | refine wP (aI @aau (aI @hn (aI @xA @hl))) trivial ?_ | refine cU (Lc _) ?_ | refine tS ?_ ?_ <;> intro hc | fail)
   exact bE (i + 1) [0] [] hlt
  ·have : i = 256 := by omega
   subst this
   exact wR trivial trivial (ids [0])
def lu (t : List Int) (h : Int) (c i : Nat) : Int := IntKind.u64.wrap (bits .xor .u64 (bits .or .u64 (IntKind.u64.wrap (h * 2 ^ min 5 IntKind.u64.bits)) (h.fdiv (2 ^ min 59 IntKind.u64.bits))) (t.getD ((c + i) % 256) 0) * 1099511628211)
def VW (t : List Int) : Int → Nat → List Nat → Int
 | h, _, [] => h
 | h, i, c :: cs => VW t (lu t h c i) (i + 1) cs
def qY (t : List Int) (k : List Nat) : Int := EP (VW t (t.getD (k.length % 256) 0) 0 k)
theorem aaB (l : List Nat) (i : Nat) (h : i < l.length) : l.drop i = l.getD i 0 :: l.drop (i + 1) := by rw [List.drop_eq_getElem_cons h]; simp [List.getD, h]
theorem aew (a b : Nat) : Int.tmod ((a : Int) + (b : Int)) 256 = (((a + b) % 256 : Nat) : Int) := rfl
theorem adg (a : Nat) : Int.tmod (a : Int) 256 = ((a % 256 : Nat) : Int) := rfl
theorem Nz (t : List Int) (ht : t.length = 256) (k : List Nat) (ho : oct k) (hk : k.length ≤ 1000000) : Pg.Good Tryz.prog 211 [fzu t, vs k] (.tup [vu (qY t k), vi 0]) := by
 have hul := xA t
 have h0 := VT t (k.length % 256) (by omega)
 have hb0 : k.length % 256 < 256 := Nat.mod_lt _ (by omega)
 refine gI oW Tryz.func211 Tryz.results211 ?_
 refine wS (aI @xA (aI @ht (aI @adg @h0))) trivial ?_
 refine bn (fun x : Int × Nat => mkA [(0, fzu t), (1, vs k), (6, vu x.1), (7, vi x.2)] [] 0 (fun _ => .top)) (fun x => x.2 ≤ k.length ∧ qY t k = EP (VW t x.1 x.2 (k.drop x.2))) (fun x => k.length - x.2) (t.getD (k.length % 256) 0, 0) [] [] ?_ ⟨Nat.zero_le _, rfl⟩ ?_
 ·exact kE
 ·rintro ⟨h, i⟩ ⟨hi, he⟩
  simp only at hi he
  rcases Nat.lt_or_ge i k.length with hlt | hge
  ·rw [aaB k i hlt] at he
   have hc := iZ ho i
   generalize hcc : k.getD i 0 = c at he hc
   have h1 := VT t ((c + i) % 256) (by omega)
   have hb1 : (c + i) % 256 < 256 := Nat.mod_lt _ (by omega)
   refine wS (aI @xA (aI @ht (aI @hcc (aI @aew @h1)))) trivial ?_
   refine bu (lu t h c i, i + 1) [] [] ⟨hlt, he⟩ (by show k.length - (i + 1) < k.length - i; omega) ?_
   exact kE
  ·have : i = k.length := by omega
   subst this
   rw [List.drop_length] at he
   rw [he]
   (repeat' first | refine wP trivial trivial ?_ | refine cU (Lc _) ?_ | refine tS ?_ ?_ <;> intro hc | fail)
   exact rE []
def Ld (n : Int) (i : Nat) : Bool := bits .and .i64 (n.fdiv (2 ^ min i IntKind.i64.bits)) 1 == 1
def jy (n : Int) (i : Nat) : List Int := ((List.range i).filter (Ld n)).map fun (j : Nat) => (j : Int)
theorem adh (n : Int) (i : Nat) (h : Ld n i = true) : jy n i ++ [(i : Int)] = jy n (i + 1) := by simp [jy, List.range_succ, List.filter_append, h]
theorem adi (n : Int) (i : Nat) (h : Ld n i = false) : jy n i = jy n (i + 1) := by simp [jy, List.range_succ, List.filter_append, h]
theorem Iz (n : Int) (i : Nat) : (jy n i).length ≤ i := by
 have := List.length_filter_le (Ld n) (List.range i)
 simp only [jy, List.length_map]
 simpa using this
theorem Qr (n : Int) (hn : 0 < n) : Pg.Good Tryz.prog 145 [vi n] (fzi (jy n 63)) := by
 refine Good.fzr (r := .sl (.own 0 3) 1 (iv (jy n 63))) ?_ rfl (.inl (.inl rfl))
 refine gI oW Tryz.func145 Tryz.results145 ?_
 refine wS trivial trivial ?_
 refine bn (fun i : Nat => mkA [(0, vi n), (3, .sl (.own 0 3) 1 (iv (jy n i))), (4, vi i)] [] 1 (fun _ => .top)) (fun i => i ≤ 63) (fun i => 63 - i) 0 [] [] ?_ (Nat.zero_le _) ?_
 ·exact kE
  all_goals first | exact di rfl | skip
 ·intro i hi
  replace hi : i ≤ 63 := hi
  have hl := Iz n i
  have hil := bC (jy n i)
  rcases Nat.lt_or_ge i 63 with hlt | hge
  ·cases hp : Ld n i
   ·have hf := adi n i hp
    unfold Ld at hp
    refine wS @hp trivial ?_
    (refine bL (i + 1) [0] [] hlt ?_; refine kL ?_)
    all_goals exact ak rfl (by rw [hf])
   ·have hf := adh n i hp
    unfold Ld at hp
    refine wS (aI @hp (aI @zB @hf)) trivial ?_
    exact bE (i + 1) [0] [] hlt
  ·have : i = 63 := by omega
   subst this
   exact wR trivial trivial (ids [0])
def EQ (co : List Nat) (i : Int) : Int := if i < 0 ∨ i.tdiv 8 ≥ co.length then 0 else bits .and .i64 (((co.getD (i.tdiv 8).toNat 0 : Nat) : Int).fdiv (2 ^ min (7 - i.tmod 8).toNat IntKind.i64.bits)) 1
theorem VX (co : List Nat) (hco : oct co) (i : Int) (hi : i ≤ 9223372036854775807) : Pg.Good Tryz.prog 214 [fzb co, vi i] (vi (EQ co i)) := by
 unfold EQ
 have hbl := ai co
 refine gI oW Tryz.func214 Tryz.results214 ?_
 by_cases c1 : i < 0
 ·rw [if_pos (.inl c1)]
  exact wR trivial trivial ah
 ·have e1 : i.tdiv 8 = i / 8 := Int.tdiv_eq_ediv_of_nonneg (by omega)
  have e2 : i.tmod 8 = i % 8 := Int.tmod_eq_emod_of_nonneg (by omega)
  rw [e1, e2]
  by_cases c2 : i / 8 ≥ co.length
  ·rw [if_pos (.inr c2)]
   exact wR (aI @e1 @ai) trivial ah
  ·rw [if_neg (by omega)]
   have hg := lL co (i / 8).toNat (by omega)
   have hc := iZ hco (i / 8).toNat
   exact wR (aI @e1 (aI @e2 (aI @ai @hg))) trivial ah
def inb (n a b : Int) : Bool := decide (a ≤ n) && decide (n ≤ b)
theorem kG (n a b : Int) : (inb n a b = true) = (a ≤ n ∧ n ≤ b) := by simp [inb]
theorem lw (n a b : Int) : (inb n a b = false) = ¬ (a ≤ n ∧ n ≤ b) := by
 rw [← kG, Bool.not_eq_true]
theorem Dz {n a b : Int} (h : a ≤ n ∧ n ≤ b) : inb n a b = true := by rw [kG]; exact h
theorem jY {n a b : Int} (h : ¬ (a ≤ n ∧ n ≤ b)) : inb n a b = false := by rw [lw]; exact h
theorem VY (n a b : Int) : Pg.Good Tryz.prog 155 [vi n, vi a, vi b] (vb (inb n a b)) := by
 refine gI oW Tryz.func155 Tryz.results155 ?_
 by_cases h1 : a ≤ n <;> by_cases h2 : n ≤ b
 all_goals
  refine wS trivial trivial ?_
  (refine rT [] ?_; first | rfl | simp only [pgo, simprocAttr] | skip)
  try (rw [show inb n a b = _ from by first | exact Dz ⟨h1, h2⟩ | exact jY (by omega)])
theorem Lh (n a b : Int) : Pg.Good Tryz.prog 156 [vi n, vi a, vi b] (vb (inb n a b)) := by
 refine gI oW Tryz.func156 Tryz.results156 ?_
 by_cases h1 : a ≤ n <;> by_cases h2 : n ≤ b
 all_goals
  refine wS trivial trivial ?_
  (refine rT [] ?_; first | rfl | simp only [pgo, simprocAttr] | skip)
  try (rw [show inb n a b = _ from by first | exact Dz ⟨h1, h2⟩ | exact jY (by omega)])
theorem dN (n a b : Int) : Pg.Good Tryz.prog 157 [vi n, vi a, vi b] (vb (inb n a b)) := by
 refine gI oW Tryz.func157 Tryz.results157 ?_
 by_cases h1 : a ≤ n <;> by_cases h2 : n ≤ b
 all_goals
  refine wS trivial trivial ?_
  (refine rT [] ?_; first | rfl | simp only [pgo, simprocAttr] | skip)
  try (rw [show inb n a b = _ from by first | exact Dz ⟨h1, h2⟩ | exact jY (by omega)])
def vp (k z d s : Int) : Int :=
 if k = 1 then (if z = 0 ∧ d = 0 ∧ s = 0 then 0 else 10)
 else if k = 2 then (if 1 ≤ d ∧ d ≤ 8 ∧ 1 ≤ z ∧ z ≤ 64 then 0 else 5)
 else if k = 3 then (if 2 ≤ z ∧ z ≤ 8 then (if d = 0 then 0 else 10) else 5)
 else if k = 4 ∨ k = 5 then (if 1 ≤ z ∧ z ≤ 32 then (if d = 0 ∧ s = 0 then 0 else 10) else 5)
 else if k = 6 then (if 2 ≤ z ∧ z ≤ 32 ∧ z % 2 = 0 then (if d = 0 ∧ s = 0 then 0 else 10) else 5)
 else 8
theorem zC (a b : Int) (h : 0 ≤ a) : a.tmod b = a % b := Int.tmod_eq_emod_of_nonneg h
abbrev pV (k z d s : Int) : List V := [vi k, vi z, vi d, vu s]
theorem kR (k z d s : Int) : Pg.Good Tryz.prog 60 [.agg (pV k z d s)] (vi (vp k z d s)) := by
 refine gI oW Tryz.func60 Tryz.results60 ?_
 skip
 (repeat' first | refine wP @zC trivial ?_ | refine cU (VY _ _ _) ?_ | refine tX (aI @kG @lw) ?_ ?_ <;> intro hc | fail)
 all_goals (refine rT [] ?_; first | rfl | simp only [pgo, simprocAttr] | skip)
 (all_goals (unfold vp; (repeat' split) <;> first | rfl | (exfalso; omega)))
theorem bK (k z d s : Int) : Pg.Good Tryz.prog 64 [.agg (pV k z d s)] (vi (vp k z d s)) := by
 refine gI oW Tryz.func64 Tryz.results64 ?_
 (repeat' first | refine wP @zC trivial ?_ | refine cU (Lh _ _ _) ?_ | refine tX (aI @kG @lw) ?_ ?_ <;> intro hc | fail)
 all_goals (refine rT [] ?_; first | rfl | simp only [pgo, simprocAttr] | skip)
 (all_goals (unfold vp; (repeat' split) <;> first | rfl | (exfalso; omega)))
def pk (l : List Nat) : List Nat × Nat :=
 if (ig l && Iw l) = true then (l, 0) else
 if l.length = 0 then ([], 1) else
 if l.getD 0 0 ≠ 37 then ([], 1) else
 if okB (l.drop 1) ((l.drop 1).length / 2) = false then ([], 1) else
 if (l.drop 1).length % 2 ≠ 0 then ([], 1) else
 if ig (prs (l.drop 1) ((l.drop 1).length / 2)) = false then ([], 1) else
 if Iw (prs (l.drop 1) ((l.drop 1).length / 2)) = true then ([], 1) else (prs (l.drop 1) ((l.drop 1).length / 2), 0)
def dig (l : List Nat) : Nat := l.foldl (fun x c => 10 * x + (c - 48)) 0
def NC (l : List Nat) : List Nat := if adb l [45] = true then l.drop 1 else l
def afZ (b : List Nat) (neg : Bool) : Bool := decide (b.length < 1) || decide (12 < b.length) || (b.getD 0 0 == 48 && (decide (1 < b.length) || neg))
def adk (l : List Nat) : Int × Nat :=
 if afZ (NC l) (adb l [45]) = true then (0, 1) else
 if (NC l).all (fun c => bt c 48 57) = false then (0, 1) else
 (if adb l [45] = true then - (dig (NC l) : Int) else (dig (NC l) : Int), 0)
theorem zD (ψ : V → V) (f : Nat → V) : unE (iM ψ f) = iM ψ (unE f) := rfl
theorem zF (ψ : V → V) (f : Nat → V) : unH (iM ψ f) = iM ψ (unH f) := rfl
theorem dB (args : List V) (e : Nat → V) (b : Nat → Option (TypeId × List V)) (n : Nat) (h : Nat → V) : YE args ⟨e, b, n, h⟩ = ⟨qF args 0, b, n, xn e h⟩ := rfl
theorem bP (P : Program) (rs : List ResultVar) (s' : St) (r : V) (s : St) : YF P rs s' r .ret s = TF P rs s' r s := rfl
theorem bi (P : Program) (rs : List ResultVar) (s' : St) (r : V) (s : St) : YF P rs s' r .normal s = TF P rs s' r s := rfl
theorem eY {P : Program} {rs : List ResultVar} {s' : St} {r : V} {e : Nat → V} {b : Nat → Option (TypeId × List V)} {n : Nat} {h : Nat → V} (h1 : o7 P ⟨e, b, n, h⟩ rs = some r) (h2 : (⟨unE h, b, n, unH h⟩ : St) = s') : TF P rs s' r ⟨e, b, n, h⟩ := ⟨h1, by subst h2; exact ⟨rfl, rfl, rfl, Nat.le_refl _⟩⟩
theorem Qs {l : List Nat} (ho : oct l) : lH (sB l) = bv l := by
 unfold lH sB bv
 simp only [List.map_map]
 apply List.map_congr_left
 intro b hb
 have := ho b hb
 simp only [Function.comp, UInt8.toNat_ofNat']
 congr 2
 omega
theorem iy (n : Int) (j : Nat) (hj : j ≤ 62) : bits .and .i64 n (2 ^ j - 1) = n % 2 ^ j := by
 have hb : IntKind.i64.bits = 64 := rfl
 have e1 : (BitVec.ofInt 64 (2 ^ j - 1)).toNat = 2 ^ j - 1 := by
  have hle : (2 : Nat) ^ j ≤ 2 ^ 62 := Nat.pow_le_pow_right (by omega) hj
  have h1 : ((2 : Int) ^ j - 1) = ((2 ^ j - 1 : Nat) : Int) := by
   have : 0 < (2 : Nat) ^ j := Nat.two_pow_pos j
   rw [Int.natCast_sub (by omega)]
   simp
  rw [h1, BitVec.toNat_ofInt]
  rw [show ((2 ^ 64 : Nat) : Int) = 18446744073709551616 from rfl]
  omega
 have e2 : (((BitVec.ofInt 64 n).toNat % 2 ^ j : Nat) : Int) = n % 2 ^ j := by
  rw [BitVec.toNat_ofInt, Int.natCast_emod, Int.toNat_of_nonneg (Int.emod_nonneg _ (by decide))]
  have : ((2 ^ 64 : Nat) : Int) = 2 ^ j * 2 ^ (64 - j) := by
   rw [← Int.pow_add, show j + (64 - j) = 64 by omega]
   rfl
  rw [show (((2 ^ j : Nat)) : Int) = 2 ^ j by simp, this]
  exact Int.emod_emod_of_dvd n ⟨_, rfl⟩
 show IntKind.i64.wrap (((BitVec.ofInt 64 n &&& BitVec.ofInt 64 (2 ^ j - 1)).toNat : Nat) : Int) = _
 rw [BitVec.toNat_and, e1, Nat.and_two_pow_sub_one_eq_mod, e2]
 have h0 : 0 ≤ n % 2 ^ j := Int.emod_nonneg _ (by have : (0 : Int) < 2 ^ j := Int.pow_pos (by decide); omega)
 have h1 : n % 2 ^ j < 2 ^ j := Int.emod_lt_of_pos _ (Int.pow_pos (by decide))
 have h2 : (2 : Int) ^ j ≤ 2 ^ 62 := by
  have := Nat.pow_le_pow_right (n := 2) (by omega) hj
  exact_mod_cast this
 have h3 : (2 : Int) ^ 62 = 4611686018427387904 := rfl
 exact Vo _ (by omega) (by omega)
theorem adl (n : Int) : bits .and .i64 n 255 = n % 256 := iy n 8 (by decide)
theorem af0 (n : Int) : bits .and .i64 n 15 = n % 16 := iy n 4 (by decide)
theorem getD_some {α : Type} (l : List α) (i : Nat) (d : α) (h : i < l.length) : l[i]? = some (l.getD i d) := by simp [List.getD, h]
theorem aaC (l : List Nat) (h : (l.all fun b => decide (b < 256)) = true) : oct l := fun b hb => by simpa using List.all_eq_true.1 h b hb
def hdW (l : List (List Nat)) : List Nat := l.headD []
def af1 (l : List (List Nat)) : Bool := l.isEmpty || !decide ((adk (hdW l)).2 = 0)
def af2 (l : List (List Nat)) : Bool := l.isEmpty || !decide ((pk (hdW l)).2 = 0)
def its (acc : List (List Nat × Int)) (l : List (List Nat)) (bad : Bool) : List (List Nat × Int) × List (List Nat) × Bool :=
 match bad, l with
 | true, l => (acc, l, true)
 | false, [] => (acc, [], false)
 | false, [k] => (acc ++ [((pk k).1, (adk []).1)], [], true)
 | false, k :: w :: r => its (acc ++ [((pk k).1, (adk w).1)]) r (af2 (k :: w :: r) || af1 (w :: r))
termination_by l.length
theorem sh5 (n : Int) : Int.fdiv n (2 ^ min 5 IntKind.i64.bits) = n.fdiv 32 := rfl
theorem sh7 (n : Int) : Int.fdiv n (2 ^ min 7 IntKind.i64.bits) = n.fdiv 128 := rfl
def qZ : List (List Nat) := [[97], [98], [99], [100], [101], [102], [97, 97], [98, 32, 99], [37, 54, 49], [65, 58, 49], [0], [122, 47, 255]]
def u8i (n : Int) : Nat := (n % 256).toNat
theorem Qu (n : Int) : IntKind.u8.wrap n = ((u8i n : Nat) : Int) := by rw [IntKind.wrap_u8]; unfold u8i; omega
def Qv (n : Int) : List Nat := if n.fdiv 256 % 16 = 15 then [u8i n, u8i (n.fdiv 2), u8i (n.fdiv 8)] else qZ.getD ((n % 256).toNat % 12) []
theorem aaD (n : Int) : oct (Qv n) ∧ (Qv n).length ≤ 12 := by
 unfold Qv
 split
 ·refine ⟨?_, by simp⟩
  intro b hb
  simp at hb
  rcases hb with rfl | rfl | rfl <;> (unfold u8i; omega)
 ·generalize hk : (n % 256).toNat % 12 = k
  have hlt : k < 12 := by omega
  have : ∀ k, k < 12 → ((qZ.getD k []).all fun b => decide (b < 256)) = true ∧ (qZ.getD k []).length ≤ 12 := by decide
  exact ⟨aaC _ (this k hlt).1, (this k hlt).2⟩
theorem sh8 (n : Int) : Int.fdiv n (2 ^ min 8 IntKind.i64.bits) = n.fdiv 256 := rfl
theorem sh1 (n : Int) : Int.fdiv n (2 ^ min 1 IntKind.i64.bits) = n.fdiv 2 := rfl
theorem sh3 (n : Int) : Int.fdiv n (2 ^ min 3 IntKind.i64.bits) = n.fdiv 8 := rfl
theorem bs3 (a b c : Nat) : [V.c (.int .u8 (a : Int)), V.c (.int .u8 (b : Int)), V.c (.int .u8 (c : Int))] = bv [a, b, c] := rfl
theorem af4 (e : Nat → V) (b : Nat → Option (TypeId × List V)) (n : Nat) (h : Nat → V) : dM Tryz.prog ⟨e, b, n, h⟩ 108 12 [(0, .c (.string ⟨#[97]⟩)), (1, .c (.string ⟨#[98]⟩)), (2, .c (.string ⟨#[99]⟩)), (3, .c (.string ⟨#[100]⟩)), (4, .c (.string ⟨#[101]⟩)), (5, .c (.string ⟨#[102]⟩)), (6, .c (.string ⟨#[97, 97]⟩)), (7, .c (.string ⟨#[98, 32, 99]⟩)), (8, .c (.string ⟨#[37, 54, 49]⟩)), (9, .c (.string ⟨#[65, 58, 49]⟩)), (10, .c (.string ⟨#[0]⟩)), (11, .c (.string ⟨#[122, 47, 255]⟩))] = some (.sl (.own n 9) 1 (sv qZ), ⟨e, b, n + 1, h⟩) := by
 rw [kZ, Z5, Option.bind_some, aen, Option.bind_some, aem, Option.bind_some]
 rfl
theorem af5 (e : Nat → V) (bx : Nat → Option (TypeId × List V)) (n : Nat) (h : Nat → V) (a b c : Nat) : dM Tryz.prog ⟨e, bx, n, h⟩ 48 3 [(0, .c (.int .u8 (a : Int))), (1, .c (.int .u8 (b : Int))), (2, .c (.int .u8 (c : Int)))] = some (.sl (.own n 5) 1 (bv [a, b, c]), ⟨e, bx, n + 1, h⟩) := by
 rw [kZ, KI, Option.bind_some, abE, Option.bind_some, abD, Option.bind_some]
 rfl
theorem k12 : qZ.length = 12 := rfl
theorem af6 (n : Int) : Int.tmod (n % 256) 12 = (((n % 256).toNat % 12 : Nat) : Int) := by
 rw [Int.tmod_eq_emod_of_nonneg (by omega)]
 omega
theorem af7 (k : Nat) (h : k < 12) : (sv qZ)[k]? = some (.c (.string (sB (qZ.getD k [])))) := jX qZ k h
theorem m12 (n : Nat) : n % 12 < 12 := Nat.mod_lt _ (by omega)
theorem aaE (l : List Nat) : V.idsL (bv l) = [] := by
 induction l with
 | nil => rfl
 | cons a l ih => simpa [bv, V.idsL, V.ids] using ih
theorem aex (n : Int) : Pg.Good Tryz.prog 37 [vi n] (vs (Qv n)) := by
 refine gI oW Tryz.func37 Tryz.results37 ?_
 unfold Qv
 have hm := m12 (n % 256).toNat
 have hk := k12
 (repeat' first | refine wP' (aI @aaE (aI @af5 (aI @af4 (aI @k12 (aI @af6 (aI @af7 (aI @sh8 (aI @sh1 (aI @sh3 (aI @af0 (aI @adl (aI @Qu (aI @bs3 (aI @VV @Int.cast_ofNat_Int)))))))))))))) trivial ?_ | refine tS ?_ ?_ <;> intro hc | fail)
 all_goals (refine rT [] ?_; first | rfl | simp only [pgo, simprocAttr] | skip)
 all_goals simp [*]
theorem af8 (n : Int) : bits .and .i64 n 3 = n % 4 := iy n 2 (by decide)
theorem aaF (n : Int) : bits .and .i64 n 65535 = n % 65536 := iy n 16 (by decide)
def rf (n : Int) : List Nat := [u8i n, u8i (n.fdiv 8), u8i (n.fdiv 32), u8i (n.fdiv 128)]
def lQ (n : Int) : List Nat := (rf n).take ((n % 4).toNat + 1)
theorem Qw (n : Int) : oct (lQ n) ∧ (lQ n).length ≤ 4 ∧ lQ n ≠ [] := by
 refine ⟨mY ?_ _, ?_, ?_⟩
 ·intro b hb
  simp [rf] at hb
  rcases hb with rfl | rfl | rfl | rfl <;> (unfold u8i; omega)
 ·simp only [lQ, rf, List.length_take, List.length_cons, List.length_nil]; omega
 ·intro h
  have := congrArg List.length h
  simp only [lQ, rf, List.length_take, List.length_cons, List.length_nil] at this
  omega
theorem af9 (e : Nat → V) (bx : Nat → Option (TypeId × List V)) (n : Nat) (h : Nat → V) (a b c d : Nat) : dM Tryz.prog ⟨e, bx, n, h⟩ 48 4 [(0, .c (.int .u8 (a : Int))), (1, .c (.int .u8 (b : Int))), (2, .c (.int .u8 (c : Int))), (3, .c (.int .u8 (d : Int)))] = some (.sl (.own n 5) 1 (bv [a, b, c, d]), ⟨e, bx, n + 1, h⟩) := by
 rw [kZ, KI, Option.bind_some, abE, Option.bind_some, abD, Option.bind_some]
 rfl
theorem aaG (n : Int) : Pg.Good Tryz.prog 12 [vi n] (fzb (lQ n)) := by
 have hl : (bv (rf n)).length = 4 := rfl
 have hcut : slV Tryz.prog 48 (.sl .fz 1 (bv (rf n))) none (some (.c (.int .i64 (n % 4 + 1)))) = some (fzb (lQ n)) := by
  rw [ED]
  simp only [bdV, Option.bind_some, KI, aeo]
  rw [if_pos ⟨trivial, by omega, by omega, by rw [hl]; omega⟩]
  have e : (n % 4 + 1).toNat = (n % 4).toNat + 1 := by omega
  simp only [e, Int.toNat_natCast, List.drop_zero, Zu]
  rfl
 have hown : ∀ (s : St) id, lq Tryz.prog s 48 id 1 (bv (rf n)) none (some (.c (.int .i64 (n % 4 + 1)))) = some (fzb (lQ n), s.mapV (frz id)) := fun s id => by unfold lq; rw [hcut]; rfl
 have hb4 : ([u8i n, u8i (n.fdiv 8), u8i (n.fdiv 32), u8i (n.fdiv 128)] : List Nat) = rf n := rfl
 refine gI oW Tryz.func12 Tryz.results12 ?_
 (repeat' (first | (simp (disch := first | exact dqz | fail) only [aeu, simprocAttr, Tryz.f12, af9, hb4, sh3, sh5, sh7, af8, Qu, hown, isC, Option.all_some, Option.all_none, Bool.and_true, Bool.true_and]) | ((with_reducible first | apply aQ | apply aB | apply bz) <;> intro hc <;> (try simp only [hc]) <;> (try simp only [pgd] at hc)) | (with_reducible refine cK ?_)))
 (refine rT [] ?_; first | rfl | simp only [pgo, simprocAttr] | skip)
end Go.Proofs.YtaoejnjkmfkbeaaGreat
