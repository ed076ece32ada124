/-
  Texts of this claim, merged; own names are short.
-/
import Derived.Test.YtaoejnjkmfkbeaaGreatWAJ
import Derived.Test.YtaoejnjkmfkbeaaGreatWAH
set_option linter.unusedVariables false
set_option linter.unusedSimpArgs false
set_option linter.unusedSectionVars false
set_option linter.defProp false
set_option maxRecDepth 100000
set_option maxHeartbeats 8000000
namespace Go.Pg
open Go
def xn {α : Type} (e h : Nat → α) : Nat → α := fun t => if t % 2 = 0 then e (t / 2) else h (t / 2)
def unE {α : Type} (f : Nat → α) : Nat → α := fun t => f (2 * t)
def unH {α : Type} (f : Nat → α) : Nat → α := fun t => f (2 * t + 1)
theorem cO {α : Type} (e h : Nat → α) : unE (xn e h) = e := by
 funext t
 simp only [unE, xn]
 rw [if_pos (by omega), show 2 * t / 2 = t by omega]
theorem df {α : Type} (e h : Nat → α) : unH (xn e h) = h := by
 funext t
 simp only [unH, xn]
 rw [if_neg (by omega), show (2 * t + 1) / 2 = t by omega]
def YE (args : List V) (s : St) : St := { env := qF args 0, bx := s.bx, nid := s.nid, hd := xn s.env s.hd }
def ae6 (s : St) : St := { env := unE s.hd, bx := s.bx, nid := s.nid, hd := unH s.hd }
def adS (a b : St) : Prop := a.env = b.env ∧ a.hd = b.hd ∧ a.bx = b.bx ∧ a.nid ≤ b.nid
def TF (P : Program) (rs : List ResultVar) (s' : St) (r : V) (s : St) : Prop := o7 P s rs = some r ∧ adS (ae6 s) s'
def YF (P : Program) (rs : List ResultVar) (s' : St) (r : V) : Exit → St → Prop := fun e s =>
 match e with
 | .normal | .ret => TF P rs s' r s
 | _ => False
theorem G5 {P : Program} [Tb P] {D : Dw} (hD : jW P D) {f : FuncId} {fn : Func} {c : Code} {rs : List ResultVar} {args : List V} {r : V} {s s' : St} (hf : P.funcs[f]? = some fn) (hb : fn.body = some c) (hrs : fn.results = rs.toArray) (hn : (fn.name == "runtime.NumGoroutine") = false)
  (hfit : wY fn.ntmps c = true) (hlen : args.length ≤ fn.ntmps) (h : wpS D P c (YF P rs s' r) (YE args s)) : GoodZ P f args s s' r := by
 intro C L a w cargs hT S hargs
 refine .inl ⟨by simp [wU, hf, hb, hn], ?_⟩
 let C' : Cx := { n := fn.ntmps, A0 := C.A0, Wr := C.Wr, w0 := C.w0, hid := xn (fun t => a.tmps.getD t undef) C.hid }
 have hl := hargs.length
 have W := S.wf
 have S1 : Sim C' (YE args s) L { tmps := cargs.toArray ++ Array.replicate (fn.ntmps - cargs.toArray.size) undef, defers := [] } w := by
  refine ⟨rfl, by simp [C']; omega, fun t => ?_, fun t => ?_, S.box, ⟨W.nidO, W.nidB, W.own, W.boxW, W.injO, W.injB, W.dis, W.old, W.frz⟩, S.kp⟩
  ·have := Di args cargs 0 (List.replicate (fn.ntmps - cargs.length) undef) hargs [] rfl t
   have e : (cargs ++ List.replicate (fn.ntmps - cargs.length) undef).toArray = cargs.toArray ++ Array.replicate (fn.ntmps - cargs.toArray.size) undef := by
    apply Array.ext'; simp
   rw [List.nil_append, e] at this
   exact this
  ·show Rep L w (xn s.env s.hd t) (xn (fun t => a.tmps.getD t undef) C.hid t)
   unfold xn
   split
   ·exact S.env _
   ·exact S.hid _
 refine calls_of_wp hf hb (Code.wp_mono ?_ (Dh (C := C') hD hT c h hfit S1))
 rintro e a' w' ⟨s2, L2, hq, S2⟩
 have fin : TF P rs s' r s2 → a'.defers = [] ∧ ∃ v, (results fn a'.tmps).run P w' = .ok v w' ∧ ∃ u L', Ending.returned v = .returned u ∧ Sim C s' L' a w' ∧ Rep L' w' r u := by
  rintro ⟨h1, k1, k2, k3, k4⟩
  obtain ⟨u, h3, h4⟩ := yh hrs h1 S2
  refine ⟨S2.defers, u, h3, u, L2, rfl, ?_, h4⟩
  have W2 := S2.wf
  obtain ⟨e1, b1, n1, d1⟩ := s'
  simp only at k1 k2 k3 k4
  subst k1; subst k2; subst k3
  refine ⟨S.defers, S.size, fun t => ?_, fun t => ?_, S2.box, ⟨fun i g h => Nat.lt_of_lt_of_le (W2.nidO i g h) k4, fun i g h => Nat.lt_of_lt_of_le (W2.nidB i g h) k4, W2.own, W2.boxW, W2.injO, W2.injB, W2.dis, W2.old, W2.frz⟩, S2.kp⟩
  ·have h5 := S2.hid (2 * t)
   have e : C'.hid (2 * t) = a.tmps.getD t undef := congrFun (cO (fun t => a.tmps.getD t undef) C.hid) t
   rw [e] at h5
   exact h5
  ·have h5 := S2.hid (2 * t + 1)
   have e : C'.hid (2 * t + 1) = C.hid t := congrFun (df (fun t => a.tmps.getD t undef) C.hid) t
   rw [e] at h5
   exact h5
 cases e with
 | normal => exact fin hq
 | ret => exact fin hq
 | _ => exact hq.elim
def GoodX (P : Program) (g : FuncId) (args : List V) (r : V) : Prop :=
 ∀ (L : Lay) (w : World) (cargs : List Value), Reps L w args cargs → ∃ u, (callFunc g cargs.toArray).run P w = .ok (.value u) w ∧ Rep L w r u
theorem GoodX.z {P : Program} [Tb P] {g : FuncId} {args : List V} {r : V} (h : GoodX P g args r) (s : St) : GoodZ P g args s s r := by
 intro C L a w cargs _ S hargs
 obtain ⟨u, h1, h2⟩ := h L w cargs hargs
 exact .inr ⟨u, w, L, h1, S, h2⟩
end Go.Pg
section
namespace Go.Pg
open Go
theorem aca (s : St) (t : Nat) : s.ev (.tmp t) = s.env t := rfl
theorem TG (s : St) (v : Value) : s.ev (.const v) = dY v := rfl
theorem YG (s : St) (f : FuncId) : s.ev (.func f) = .fn f [] [] := rfl
theorem OH (s : St) (g : Nat) : s.ev (.global g) = .c (.pointer (some ⟨g, 0, none⟩)) := rfl
theorem acb (e : Nat → V) (b : Nat → Option (TypeId × List V)) (n d : Nat) (h : Nat → V) (v : V) : St.put ⟨e, b, n, h⟩ (some d) v = ⟨upd e d v, b, n, h⟩ := rfl
theorem YH {α : Type} (f : Nat → α) (d : Nat) (v : α) : upd f d v d = v := by simp [upd]
section
variable (s : St) (d : Option Nat) (l : List V) (k : Kd) (K : Kd → St → Prop)
theorem dJ (r : V) : lJ (some r) s d l K = K (kq l r) (s.put d r) := rfl
theorem bM : lJ none s d l K = False := rfl
theorem dS (f : List V → V → Kd) (r : V) : wW f (some r) s d l K = K (f l r) (s.put d r) := rfl
theorem dU (f : List V → V → Kd) : wW f none s d l K = False := rfl
theorem OI (r : V) : wX (some r) s d K = K (kr r) (s.put d r) := rfl
theorem bI : wX none s d K = False := rfl
theorem OJ (r : V) (s' : St) : iV (some (r, s')) d k K = K k (s'.put d r) := rfl
theorem aV : iV none d k K = False := rfl
end
def yQ : List Nat → V → V
 | [], v => v
 | i :: l, v => yQ l (frz i v)
theorem acd (τ : Tag → Tag) (ρ : Nat → Nat) (l : List Value) : V.mapL τ ρ (l.map .c) = l.map .c := by
 induction l with
 | nil => rfl
 | cons x l ih => simp only [List.map_cons, V.mapL, V.map, ih]
theorem OL (τ : Tag → Tag) (ρ : Nat → Nat) (v : Value) : (dY v).map τ ρ = dY v := by
 cases v <;> first | rfl | simp only [dY, V.map, acd]
theorem YI (s : St) (i : Nat) (x : Operand) : (s.mapV (frz i)).ev x = frz i (s.ev x) := by
 cases x with
 | tmp t => rfl
 | const v => exact (OL _ _ v).symm
 | global g => rfl
 | func f => rfl
theorem vG (ids : List Nat) : ∀ (s : St) (x : Operand), (s.freezeAll ids).ev x = yQ ids (s.ev x) := by
 induction ids with
 | nil => intro s x; rfl
 | cons i l ih => intro s x; show ((s.mapV (frz i)).freezeAll l).ev x = yQ l (frz i (s.ev x)); rw [ih, YI]
def bsF (P : Program) (s : St) (d : Option Nat) (t : TypeId) (n : Nat) (parts : List (Nat × V)) (ids : List Nat) (K : Kd → St → Prop) : Prop :=
 match ids with
 | [] => False
 | i :: l => iV (dM P (s.freezeAll (i :: l)) t n (parts.map fun p => (p.1, yQ (i :: l) p.2))) d .z K
def stX (P : Program) (s : St) (t : TypeId) (x y : V) : Option (V × St) :=
 match x with
 | .ref b off => (jU P s t b off y).map fun s' => (.top, s')
 | .el (.own id _) k xs i off => (kK P s t id k xs i off y).map fun s' => (.top, s')
 | _ => none
def stF (P : Program) (s : St) (d : Option Nat) (t : TypeId) (x y : V) (ids : List Nat) (K : Kd → St → Prop) : Prop :=
 match ids with
 | [] => False
 | i :: l => iV (stX P (s.freezeAll (i :: l)) t (yQ (i :: l) x) (yQ (i :: l) y)) d .z K
theorem YJ (P : Program) (s : St) (d : Option Nat) (t : TypeId) (n : Nat) (parts : List (Nat × V)) (K : Kd → St → Prop) : bsF P s d t n parts [] K = False := rfl
theorem G6 (P : Program) (s : St) (d : Option Nat) (t : TypeId) (n : Nat) (parts : List (Nat × V)) (i : Nat) (l : List Nat) (K : Kd → St → Prop) : bsF P s d t n parts (i :: l) K = iV (dM P (s.freezeAll (i :: l)) t n (parts.map fun p => (p.1, yQ (i :: l) p.2))) d .z K := rfl
theorem YK (P : Program) (s : St) (d : Option Nat) (t : TypeId) (x y : V) (K : Kd → St → Prop) : stF P s d t x y [] K = False := rfl
theorem TI (P : Program) (s : St) (d : Option Nat) (t : TypeId) (x y : V) (i : Nat) (l : List Nat) (K : Kd → St → Prop) : stF P s d t x y (i :: l) K = iV (stX P (s.freezeAll (i :: l)) t (yQ (i :: l) x) (yQ (i :: l) y)) d .z K := rfl
theorem YL (P : Program) (s : St) (t : TypeId) (id : Nat) (e : TypeId) (k : Nat) (xs : List V) (i off : Nat) (y : V) : stX P s t (.el (.own id e) k xs i off) y = (kK P s t id k xs i off y).map fun s' => (.top, s') := rfl
theorem TJ (v : V) : yQ [] v = v := rfl
theorem OM (i : Nat) (l : List Nat) (v : V) : yQ (i :: l) v = yQ l (frz i v) := rfl
section
variable (P : Program) [Tb P] (s : St) (d : Option Nat) (ty : TypeId) (pos : String) (af : Array Edge) (g : Option (Nat × Bool)) (K : Kd → St → Prop)
theorem JD (x : Operand) : aH P s ⟨d, .move x, ty, pos, af, g⟩ K = K (ka [s.ev x] (s.ev x)) (s.put d (s.ev x)) := by simp only [aH, kqo, dn, wW, kx, qv, rv, xv, zv, Op.operands, List.map_toArray, List.map_cons, List.map_nil, dJ, bM, dS, dU, bI, aV, or_false, false_or]
theorem Em (x : Operand) : aH P s ⟨d, .assign x, ty, pos, af, g⟩ K = K (ka [s.ev x] (s.ev x)) (s.put d (s.ev x)) := by simp only [aH, kqo, dn, wW, kx, qv, rv, xv, zv, Op.operands, List.map_toArray, List.map_cons, List.map_nil, dJ, bM, dS, dU, bI, aV, or_false, false_or]
theorem G7 (op : BinOp) (t t2 : TypeId) (x y : Operand) : aH P s ⟨d, .binOp op t x y t2, ty, pos, af, g⟩ K = lJ (wV P op t (s.ev x) (s.ev y) y) s d [s.ev x, s.ev y] K := by simp only [aH, kqo, dn, kx, qv, rv, xv, zv, Op.operands, List.map_toArray, List.map_cons, List.map_nil, dJ, bM, dS, dU, bI, aV, or_false, false_or]
theorem JE (op : UnOp) (t : TypeId) (x : Operand) : aH P s ⟨d, .unOp op t x, ty, pos, af, g⟩ K = lJ (unV op (s.ev x)) s d [s.ev x] K := by simp only [aH, kqo, dn, kx, qv, rv, xv, zv, Op.operands, List.map_toArray, List.map_cons, List.map_nil, dJ, bM, dS, dU, bI, aV, or_false, false_or]
theorem CB (x : Operand) (i : Nat) : aH P s ⟨d, .extract x i, ty, pos, af, g⟩ K = lJ (exV (s.ev x) i) s d [s.ev x] K := by simp only [aH, kqo, dn, kx, qv, rv, xv, zv, Op.operands, List.map_toArray, List.map_cons, List.map_nil, dJ, bM, dS, dU, bI, aV, or_false, false_or]
theorem G8 (t : TypeId) (x : Operand) (f : Nat) : aH P s ⟨d, .field t x f, ty, pos, af, g⟩ K = lJ (wO P t (s.ev x) f) s d [s.ev x] K := by simp only [aH, kqo, dn, kx, qv, rv, xv, zv, Op.operands, List.map_toArray, List.map_cons, List.map_nil, dJ, bM, dS, dU, bI, aV, or_false, false_or]
theorem G9 (t : TypeId) (x i : Operand) : aH P s ⟨d, .index t x i, ty, pos, af, g⟩ K = lJ (ixV P t (s.ev x) (s.ev i)) s d [s.ev x, s.ev i] K := by simp only [aH, kqo, dn, kx, qv, rv, xv, zv, Op.operands, List.map_toArray, List.map_cons, List.map_nil, dJ, bM, dS, dU, bI, aV, or_false, false_or]
theorem yR (t : TypeId) (x i : Operand) : aH P s ⟨d, .indexAddr t x i, ty, pos, af, g⟩ K = wW ka (iaV P t (s.ev x) (s.ev i)) s d [s.ev x, s.ev i] K := by simp only [aH, kqo, dn, kx, qv, rv, xv, zv, Op.operands, List.map_toArray, List.map_cons, List.map_nil, dJ, bM, dS, dU, bI, aV, or_false, false_or]
theorem yT (t : TypeId) (x : Operand) (f : Nat) : aH P s ⟨d, .fieldAddr t x f, ty, pos, af, g⟩ K = wW ka (faV P t (s.ev x) f) s d [s.ev x] K := by simp only [aH, kqo, dn, kx, qv, rv, xv, zv, Op.operands, List.map_toArray, List.map_cons, List.map_nil, dJ, bM, dS, dU, bI, aV, or_false, false_or]
theorem Am (f : FuncId) (fs cs : Array Operand) : aH P s ⟨d, .makeFunc (.func f) fs cs, ty, pos, af, g⟩ K = K (kq (fs.toList.map s.ev ++ cs.toList.map s.ev) (.fn f (fs.toList.map s.ev) (cs.toList.map s.ev))) (s.put d (.fn f (fs.toList.map s.ev) (cs.toList.map s.ev))) := by simp only [aH, kqo, dn, kx, qv, rv, xv, zv, Op.operands, Array.toList_append, List.map_append, List.map_toArray, List.map_cons, List.map_nil, dJ, bM, dS, dU, bI, aV, or_false, false_or]
theorem Ha (t : TypeId) (parts : Array (Nat × Operand)) : aH P s ⟨d, .build t parts, ty, pos, af, g⟩ K = lJ (uf P t (parts.toList.map fun p => (p.1, s.ev p.2))) s d ((parts.toList.map fun p => p.2).map s.ev) K := by simp only [aH, kqo, dn, kx, qv, rv, xv, zv, Op.operands, Array.toList_map, List.map_toArray, List.map_cons, List.map_nil, dJ, bM, dS, dU, bI, aV, or_false, false_or]
theorem He (e : TypeId) : aH P s ⟨d, .alloc e, ty, pos, af, g⟩ K = iV (qN P s e) d .x K := by simp only [aH, kqo, dn, kx, qv, rv, xv, zv, Op.operands, List.map_toArray, List.map_cons, List.map_nil, dJ, bM, dS, dU, bI, aV, or_false, false_or]
theorem OO (e : TypeId) (x : Operand) : aH P s ⟨d, .box e x, ty, pos, af, g⟩ K = iV (Jo s e (s.ev x)) d .x K := by simp only [aH, kqo, dn, kx, qv, rv, xv, zv, Op.operands, List.map_toArray, List.map_cons, List.map_nil, dJ, bM, dS, dU, bI, aV, or_false, false_or]
theorem xq (t : TypeId) (n : Nat) (parts : Array (Nat × Operand)) : aH P s ⟨d, .buildSlice t n parts, ty, pos, af, g⟩ K = (iV (dM P s t n (parts.toList.map fun p => (p.1, s.ev p.2))) d .n K ∨ bsF P s d t n (parts.toList.map fun p => (p.1, s.ev p.2)) (V.idsL (parts.toList.map fun p => s.ev p.2)) K) := by
 simp only [aH, kqo, dn, kx, qv, rv, xv, zv, Op.operands, List.map_toArray, List.map_cons, List.map_nil, dJ, bM, dS, dU, bI, aV, or_false, false_or]
 congr 1
 generalize V.idsL (parts.toList.map fun p => s.ev p.2) = ids
 cases ids with
 | nil => rfl
 | cons i l => simp only [frX, xv, G6, List.map_map, vG]; rfl
theorem yU (t : TypeId) (l c : Operand) : aH P s ⟨d, .makeSlice t l c, ty, pos, af, g⟩ K = iV (uU P s t (s.ev l) (s.ev c)) d .n K := by simp only [aH, kqo, dn, kx, qv, rv, xv, zv, Op.operands, List.map_toArray, List.map_cons, List.map_nil, dJ, bM, dS, dU, bI, aV, or_false, false_or]
def TK (s : St) (d : Option Nat) (c x y : V) (K : Kd → St → Prop) : Prop := match c with | .c (.bool b) => K (kq [.c (.bool b), x, y] (agH b x y)) (s.put d (agH b x y)) | _ => False
theorem JF (c x y : Operand) : aH P s ⟨d, .pick c x y, ty, pos, af, g⟩ K = TK s d (s.ev c) (s.ev x) (s.ev y) K := by
 simp only [aH, kqo, dn, kx, qv, rv, xv, zv, Op.operands, List.map_cons, List.map_nil, bI, aV, or_false, TK]
 generalize s.ev c = v
 cases v with
 | c u => cases u <;> rfl
 | _ => rfl
def Ap (P : Program) (s : St) (d : Option Nat) (src dst : TypeId) (x : V) (K : Kd → St → Prop) : Prop :=
 lJ (lh P src dst x) s d [x] K ∨ wX (iY P s src dst x) s d K ∨ iV ((jD P src dst x).map fun r => (r, s)) d .x K ∨ iV (lI P s src dst x) d .z K
theorem CE (src dst : TypeId) (x : Operand) : aH P s ⟨d, .convert src dst x, ty, pos, af, g⟩ K = Ap P s d src dst (s.ev x) K := by simp only [aH, kqo, dn, kx, qv, rv, xv, zv, Op.operands, List.map_cons, List.map_nil, Ap]
def Na (P : Program) (s : St) (d : Option Nat) (t : TypeId) (x : V) (K : Kd → St → Prop) : Prop :=
 match x with
 | .ref b off => wX (lm P s t b off) s d K
 | .el tg k xs i off => lJ ((xs[i]?).bind fun y => y.cs.bind fun cs => dI P t cs off) s d [.el tg k xs i off] K
 | _ => False
theorem JG (t : TypeId) (x : Operand) : aH P s ⟨d, .load t x, ty, pos, af, g⟩ K = Na P s d t (s.ev x) K := by
 simp only [aH, kqo, dn, kx, qv, rv, xv, zv, Op.operands, List.map_cons, List.map_nil, aV, or_false, Na]
 generalize s.ev x = v
 cases v <;> simp only [bM, bI, or_false, false_or]
def Eo (P : Program) (s : St) (d : Option Nat) (t : TypeId) (x y : V) (K : Kd → St → Prop) : Prop :=
 match x with
 | .ref b off => iV ((jU P s t b off y).map fun s' => (.top, s')) d .x K
 | .el (.own id e) k xs i off => iV ((kK P s t id k xs i off y).map fun s' => (.top, s')) d (.w id k) K ∨ stF P s d t (.el (.own id e) k xs i off) y y.ids K
 | _ => False
theorem Hf (t : TypeId) (x y : Operand) : aH P s ⟨d, .store t x y, ty, pos, af, g⟩ K = Eo P s d t (s.ev x) (s.ev y) K := by
 simp only [aH, kqo, dn, kx, qv, rv, xv, zv, bM, bI, aV, or_false, false_or, Eo]
 cases hv : s.ev x with
 | el tg k xs i off =>
  cases tg with
  | own id e =>
   simp only
   congr 1
   generalize (s.ev y).ids = ids
   cases ids with
   | nil => rfl
   | cons a l => simp only [frX, xv, stF, stX, vG, hv]; rfl
  | _ => simp only [aV, or_false]
 | _ => simp only [aV, or_false, false_or]
def xu (P : Program) (s : St) (d : Option Nat) (t : TypeId) (x : V) (lo hi : Option V) (l : List V) (K : Kd → St → Prop) : Prop :=
 match x with
 | .sl (.own id _) k xs => if lo.all isC && hi.all isC then iV (lq P s t id k xs lo hi) d .z K else False
 | .ref b off => iV (uV P s t b off lo hi) d .z K
 | x => lJ (slV P t x lo hi) s d l K
def adT (s : St) (x : Operand) (lo hi : Option Operand) : List V := s.ev x :: ((lo.toList ++ hi.toList).map s.ev)
theorem Hg (t : TypeId) (x : Operand) (lo hi : Option Operand) : aH P s ⟨d, .slice t x lo hi none, ty, pos, af, g⟩ K = xu P s d t (s.ev x) (lo.map s.ev) (hi.map s.ev) (adT s x lo hi) K := by
 have e : (Op.slice t x lo hi none).operands.toList.map s.ev = adT s x lo hi := by cases lo <;> cases hi <;> rfl
 simp only [aH, kqo, dn, kx, qv, rv, xv, zv, bI, aV, false_or, xu, e]
 generalize s.ev x = v
 cases v with
 | sl tg k xs =>
  cases tg with
  | fz => simp only [aV, or_false]
  | nn => simp only [aV, or_false]
  | own id e =>
   simp only [slV, bM, false_or]
   split <;> simp only [aV]
 | ref b off => simp only [slV, bM, false_or]
 | _ => simp only [aV, or_false]
theorem OQ (x : Operand) (t : TypeId) : aH P s ⟨d, .call { callee := .builtin .len, args := #[x], argTypes := #[t] }, ty, pos, af, g⟩ K = lJ (Gf P t (s.ev x)) s d [s.ev x] K := by
 have e : (Op.call { callee := .builtin .len, args := #[x], argTypes := #[t] }).operands.toList.map s.ev = [s.ev x] := rfl
 simp only [aH, kqo, dn, kx, qv, rv, xv, zv, e, bM, bI, aV, or_false]
theorem OT (x y : Operand) (ts : Array TypeId) : aH P s ⟨d, .call { callee := .builtin .max, args := #[x, y], argTypes := ts }, ty, pos, af, g⟩ K = lJ (nN true (s.ev x) (s.ev y)) s d [s.ev x, s.ev y] K := by
 have e : (Op.call { callee := .builtin .max, args := #[x, y], argTypes := ts }).operands.toList.map s.ev = [s.ev x, s.ev y] := rfl
 simp only [aH, kqo, dn, kx, qv, rv, xv, zv, e, bM, bI, aV, or_false]
theorem yV (x : Operand) (ts : Array TypeId) : aH P s ⟨d, .call { callee := .builtin .unsafeSliceData, args := #[x], argTypes := ts }, ty, pos, af, g⟩ K = lJ (sdV (s.ev x)) s d [s.ev x] K := by
 have e : (Op.call { callee := .builtin .unsafeSliceData, args := #[x], argTypes := ts }).operands.toList.map s.ev = [s.ev x] := rfl
 simp only [aH, kqo, dn, kx, qv, rv, xv, zv, e, bM, bI, aV, or_false]
theorem uz (x n : Operand) (pt it : TypeId) : aH P s ⟨d, .call { callee := .builtin .unsafeString, args := #[x, n], argTypes := #[pt, it] }, ty, pos, af, g⟩ K = iV (usV P s pt (s.ev x) (s.ev n)) d .z K := by
 simp only [aH, kqo, dn, kx, qv, rv, xv, zv, bM, bI, aV, false_or]
theorem OU (x y : Operand) (ts : Array TypeId) : aH P s ⟨d, .call { callee := .builtin .min, args := #[x, y], argTypes := ts }, ty, pos, af, g⟩ K = lJ (nN false (s.ev x) (s.ev y)) s d [s.ev x, s.ev y] K := by
 have e : (Op.call { callee := .builtin .min, args := #[x, y], argTypes := ts }).operands.toList.map s.ev = [s.ev x, s.ev y] := rfl
 simp only [aH, kqo, dn, kx, qv, rv, xv, zv, e, bM, bI, aV, or_false]
theorem Ep (x y : Operand) (t t2 : TypeId) : aH P s ⟨d, .call { callee := .builtin .append, args := #[x, y], argTypes := #[t, t2] }, ty, pos, af, g⟩ K = iV (jI P s t t2 (s.ev x) (s.ev y)) d (yO (s.ev x)) K := by simp only [aH, kqo, dn, kx, qv, rv, xv, zv, Op.operands, List.map_toArray, List.map_cons, List.map_nil, dJ, bM, dS, dU, bI, aV, or_false, false_or]
def TL (s : St) (d : Option Nat) (x : V) (K : Kd → St → Prop) : Prop := match x with | .ref b o => K (kq [.ref b o] (.ref b o)) (s.put d (.ref b o)) | .el t k xs i o => K (kq [.el t k xs i o] (.el t k xs i o)) (s.put d (.el t k xs i o)) | .fn f a b => K (kq [.fn f a b] (.fn f a b)) (s.put d (.fn f a b)) | _ => False
theorem Aq (x : Operand) : aH P s ⟨d, .nilCheck x, ty, pos, af, g⟩ K = TL s d (s.ev x) K := by
 simp only [aH, kqo, dn, kx, qv, rv, xv, zv, Op.operands, List.map_cons, List.map_nil, bI, aV, or_false, TL]
 generalize s.ev x = v
 cases v <;> rfl
theorem JH (f : Operand) (args : Array Operand) (ts : Array TypeId) : aH P s ⟨d, .call { callee := .value f, args := args, argTypes := ts }, ty, pos, af, g⟩ K = cu P (s.ev f) args.toList d s K := rfl
end
section
variable (D : Dw) (P : Program) [Tb P]
def mW (y : Code) (Q : Exit → St → Prop) : Exit → St → Prop := uX (fun s' => wpS D P y Q s') Q
def Dp (dsts : List (Option Nat)) (Q : Exit → St → Prop) (rest : List Oper) (_ : Kd) : St → Prop := wpL P dsts (Q .normal) rest
def qV (dsts : List (Option Nat)) (Q : Exit → St → Prop) (ops : List Oper) (s : St) : Prop := wpL P dsts (Q .normal) ops s
def Ar (v : V) (x y : Code) (Q : Exit → St → Prop) (s : St) : Prop := Gu v (wpS D P x Q s) (wpS D P y Q s)
def Dq (x : Code) (Q : Exit → St → Prop) (s : St) : Prop := aby (fun Q s => wpS D P x Q s) Q s
def lK (v : Option V) (want : Bool) (dsts : List (Option Nat)) (Q : Exit → St → Prop) (o : Oper) (rest : List Oper) (s : St) : Prop :=
 match v with | some (.c (.bool b)) => if b = want then aH P s o (Dp P dsts Q rest) else wpL P dsts (Q .normal) rest (s.put o.dst (.c undef)) | some (.c _) => wpL P dsts (Q .normal) rest (s.put o.dst (.c undef)) | _ => False
def pg (dsts : List (Option Nat)) (ops : List Oper) (Q : Exit → St → Prop) (rest : List Oper) (ks : List Kd) (s : St) : Prop := nU P dsts ops (Q .normal) rest ks s
def OV (dsts : List (Option Nat)) (ops : List Oper) (Q : Exit → St → Prop) (rest : List Oper) (ks : List Kd) (κ : Kd) (s : St) : Prop := nU P dsts ops (Q .normal) rest (κ :: ks) s
def yX (v : Option V) (want : Bool) (dsts : List (Option Nat)) (ops : List Oper) (Q : Exit → St → Prop) (o : Oper) (rest : List Oper) (ks : List Kd) (s : St) : Prop :=
 match v with | some (.c (.bool b)) => if b = want then aH P s o (OV P dsts ops Q rest ks) else nU P dsts ops (Q .normal) rest (.p :: ks) (s.put o.dst (.c undef)) | some (.c _) => nU P dsts ops (Q .normal) rest (.p :: ks) (s.put o.dst (.c undef)) | _ => False
theorem TM (Q : Exit → St → Prop) (s : St) : wpS D P .skip Q s = Q .normal s := rfl
theorem YM (Q : Exit → St → Prop) (s : St) : wpS D P .ret Q s = Q .ret s := rfl
theorem TN (id : Nat) (Q : Exit → St → Prop) (s : St) : wpS D P (.exit id) Q s = Q (.exit id) s := rfl
theorem OW (l : Nat) (Q : Exit → St → Prop) (s : St) : wpS D P (.label l) Q s = Q .normal s := rfl
theorem YN (x y : Code) (Q : Exit → St → Prop) (s : St) : wpS (dC []) P (.seq x y) Q s = wpS (dC []) P x (mW (dC []) P y Q) s := by
 have : mP (dC []).cuts (jo y) = false := by cases h : jo y <;> rfl
 simp only [wpS, this, mW, cond_false]
def ae7 (cuts : List Nat) (x y : Code) (Q : Exit → St → Prop) (s : St) : Prop := wpS (dC cuts) P (.seq x y) Q s
theorem TP (n : Nat) (cuts : List Nat) (x y : Code) (Q : Exit → St → Prop) (s : St) : wpS (dC (n :: cuts)) P (.seq x y) Q s = bif mP (n :: cuts) (jo y) then ae7 P (n :: cuts) x y Q s else wpS (dC (n :: cuts)) P x (mW (dC (n :: cuts)) P y Q) s := by
 cases h : mP (n :: cuts) (jo y) with
 | true => rfl
 | false =>
  have h' : mP (dC (n :: cuts)).cuts (jo y) = false := h
  simp only [wpS, h', mW, cond_false]
theorem Hl (id : Nat) (ops : Array Oper) (d : Bool) : jo (.region id ops d) = some id := rfl
theorem TQ (x y : Code) : jo (.seq x y) = jo x := rfl
theorem JI (id : Nat) (x : Code) : jo (.block id x) = jo x := rfl
theorem OX (x : Code) : jo (.loop x) = jo x := rfl
theorem OY (c : Operand) (x y : Code) : jo (.cond c x y) = none := rfl
theorem OZ : jo .skip = none := rfl
theorem TR : jo .ret = none := rfl
theorem O0 (id : Nat) : jo (.exit id) = none := rfl
theorem JJ (id : Nat) : jo (.label id) = none := rfl
theorem O1 (id : Nat) : jo (.goto id) = none := rfl
theorem JK (cuts : List Nat) (n : Nat) : mP cuts (some n) = cuts.contains n := rfl
theorem JL (cuts : List Nat) : mP cuts none = false := rfl
def YO {ι : Type} (S : ι → St) (Inv : ι → Prop) (Q : Exit → St → Prop) : Exit → St → Prop := uX (fun s => ∃ i, Inv i ∧ Weak s (S i)) Q
theorem TS {ι : Type} (S : ι → St) (Inv : ι → Prop) (Q : Exit → St → Prop) (s : St) : YO S Inv Q .ret s = Q .ret s := rfl
theorem O3 {ι : Type} (S : ι → St) (Inv : ι → Prop) (Q : Exit → St → Prop) (id : Nat) (s : St) : YO S Inv Q (.exit id) s = Q (.exit id) s := rfl
theorem O4 {ι : Type} (S : ι → St) (Inv : ι → Prop) (Q : Exit → St → Prop) (id : Nat) (s : St) : YO S Inv Q (.goto id) s = Q (.goto id) s := rfl
def adU {ι : Type} (S : ι → St) (Inv : ι → Prop) (s : St) : Prop := ∃ i, Inv i ∧ Weak s (S i)
theorem Hm {ι : Type} (S : ι → St) (Inv : ι → Prop) (Q : Exit → St → Prop) (s : St) : YO S Inv Q .normal s = adU S Inv s := rfl
theorem TT (c : Operand) (x y : Code) (Q : Exit → St → Prop) (s : St) : wpS D P (.cond c x y) Q s = Ar D P (s.ev c) x y Q s := rfl
theorem O5 (id : Nat) (x : Code) (Q : Exit → St → Prop) (s : St) : wpS D P (.block id x) Q s = wpS D P x (inB id Q) s := rfl
theorem TU (x : Code) (Q : Exit → St → Prop) (s : St) : wpS D P (.loop x) Q s = Dq D P x Q s := rfl
theorem JM (id : Nat) (l : List Oper) (Q : Exit → St → Prop) (s : St) : wpS D P (.region id l.toArray false) Q s = qV P (l.map (·.dst)) Q l s := by
 simp only [wpS, qV, Bool.false_eq_true, if_false]
theorem TV (cuts : List Nat) (id : Nat) (l : List Oper) (Q : Exit → St → Prop) (s : St) : wpS (dC cuts) P (.region id l.toArray true) Q s = pg P (l.map (·.dst)) l Q l [] s := by
 simp only [wpS, if_true, pg, Ak, dC]
theorem Es (y : Code) (Q : Exit → St → Prop) (s : St) : mW D P y Q .normal s = wpS D P y Q s := rfl
theorem O6 (y : Code) (Q : Exit → St → Prop) (s : St) : mW D P y Q .ret s = Q .ret s := rfl
theorem JO (id : Nat) (y : Code) (Q : Exit → St → Prop) (s : St) : mW D P y Q (.exit id) s = Q (.exit id) s := rfl
theorem JP (id : Nat) (Q : Exit → St → Prop) (s : St) : inB id Q .normal s = Q .normal s := rfl
theorem YP (id : Nat) (Q : Exit → St → Prop) (s : St) : inB id Q .ret s = Q .ret s := rfl
theorem TW (id id' : Nat) (Q : Exit → St → Prop) (s : St) : inB id Q (.exit id') s = if id' = id then Q .normal s else Q (.exit id') s := rfl
theorem Et (k : St → Prop) (Q : Exit → St → Prop) (s : St) : uX k Q .normal s = k s := rfl
theorem O7 (k : St → Prop) (Q : Exit → St → Prop) (s : St) : uX k Q .ret s = Q .ret s := rfl
theorem JQ (id : Nat) (k : St → Prop) (Q : Exit → St → Prop) (s : St) : uX k Q (.exit id) s = Q (.exit id) s := rfl
theorem Au (x y : Code) (Q : Exit → St → Prop) (s : St) : Ar D P (.c (.bool true)) x y Q s = wpS D P x Q s := by simp [Ar, Gu]
theorem yz (x y : Code) (Q : Exit → St → Prop) (s : St) : Ar D P (.c (.bool false)) x y Q s = wpS D P y Q s := by simp [Ar, Gu]
theorem Ho {b : Bool} {x y : Code} {Q : Exit → St → Prop} {s : St} (ht : b = true → wpS D P x Q s) (hf : b = false → wpS D P y Q s) : Ar D P (.c (.bool b)) x y Q s := by
 cases b
 ·rw [yz]; exact hf rfl
 ·rw [Au]; exact ht rfl
theorem TY (dsts : List (Option Nat)) (Q : Exit → St → Prop) (s : St) : qV P dsts Q [] s = Q .normal s := rfl
theorem JR (dsts : List (Option Nat)) (Q : Exit → St → Prop) (s : St) (d : Option Nat) (op : Op) (ty : TypeId) (pos : String) (af : Array Edge) (rest : List Oper) :
  qV P dsts Q (⟨d, op, ty, pos, af, none⟩ :: rest) s = aH P s ⟨d, op, ty, "", #[], none⟩ (Dp P dsts Q rest) := by
 simp only [qV, wpL]
 rfl
theorem JS (dsts : List (Option Nat)) (Q : Exit → St → Prop) (s : St) (d : Option Nat) (op : Op) (ty : TypeId) (pos : String) (af : Array Edge) (j : Nat) (want : Bool) (rest : List Oper) :
  qV P dsts Q (⟨d, op, ty, pos, af, some (j, want)⟩ :: rest) s = lK P (fZ s dsts j) want dsts Q ⟨d, op, ty, "", #[], none⟩ rest s := by
 simp only [qV, wpL, lK]
 rfl
theorem TZ (dsts : List (Option Nat)) (Q : Exit → St → Prop) (rest : List Oper) (κ : Kd) (s : St) : Dp P dsts Q rest κ s = qV P dsts Q rest s := rfl
theorem JU (b : Bool) (dsts : List (Option Nat)) (Q : Exit → St → Prop) (o : Oper) (rest : List Oper) (s : St) : lK P (some (.c (.bool b))) b dsts Q o rest s = aH P s o (Dp P dsts Q rest) := by simp [lK]
theorem O8 (dsts : List (Option Nat)) (Q : Exit → St → Prop) (o : Oper) (rest : List Oper) (s : St) : lK P (some (.c (.bool true))) false dsts Q o rest s = qV P dsts Q rest (s.put o.dst (.c undef)) := by simp [lK, qV]
theorem O9 (dsts : List (Option Nat)) (Q : Exit → St → Prop) (o : Oper) (rest : List Oper) (s : St) : lK P (some (.c (.bool false))) true dsts Q o rest s = qV P dsts Q rest (s.put o.dst (.c undef)) := by simp [lK, qV]
theorem Ph (want : Bool) (dsts : List (Option Nat)) (Q : Exit → St → Prop) (o : Oper) (rest : List Oper) (s : St) : lK P (some (.c undef)) want dsts Q o rest s = qV P dsts Q rest (s.put o.dst (.c undef)) := rfl
theorem YQ (want : Bool) (dsts : List (Option Nat)) (ops : List Oper) (Q : Exit → St → Prop) (o : Oper) (rest : List Oper) (ks : List Kd) (s : St) : yX P (some (.c undef)) want dsts ops Q o rest ks s = pg P dsts ops Q rest (.p :: ks) (s.put o.dst (.c undef)) := rfl
theorem Ua (dsts : List (Option Nat)) (ops : List Oper) (Q : Exit → St → Prop) (ks : List Kd) (s : St) : pg P dsts ops Q [] ks s = (xm ops ks.reverse = true ∧ Q .normal s) := rfl
theorem JV (dsts : List (Option Nat)) (ops : List Oper) (Q : Exit → St → Prop) (ks : List Kd) (s : St) (d : Option Nat) (op : Op) (ty : TypeId) (pos : String) (af : Array Edge) (rest : List Oper) :
  pg P dsts ops Q (⟨d, op, ty, pos, af, none⟩ :: rest) ks s = aH P s ⟨d, op, ty, "", #[], none⟩ (OV P dsts ops Q rest ks) := by
 simp only [pg, nU]
 rfl
theorem JW (dsts : List (Option Nat)) (ops : List Oper) (Q : Exit → St → Prop) (ks : List Kd) (s : St) (d : Option Nat) (op : Op) (ty : TypeId) (pos : String) (af : Array Edge) (j : Nat) (want : Bool) (rest : List Oper) :
  pg P dsts ops Q (⟨d, op, ty, pos, af, some (j, want)⟩ :: rest) ks s = yX P (fZ s dsts j) want dsts ops Q ⟨d, op, ty, "", #[], none⟩ rest ks s := by
 simp only [pg, nU, yX]
 rfl
theorem YR (dsts : List (Option Nat)) (ops : List Oper) (Q : Exit → St → Prop) (rest : List Oper) (ks : List Kd) (κ : Kd) (s : St) : OV P dsts ops Q rest ks κ s = pg P dsts ops Q rest (κ :: ks) s := rfl
theorem Ub (b : Bool) (dsts : List (Option Nat)) (ops : List Oper) (Q : Exit → St → Prop) (o : Oper) (rest : List Oper) (ks : List Kd) (s : St) : yX P (some (.c (.bool b))) b dsts ops Q o rest ks s = aH P s o (OV P dsts ops Q rest ks) := by simp [yX]
theorem YS (dsts : List (Option Nat)) (ops : List Oper) (Q : Exit → St → Prop) (o : Oper) (rest : List Oper) (ks : List Kd) (s : St) : yX P (some (.c (.bool true))) false dsts ops Q o rest ks s = pg P dsts ops Q rest (.p :: ks) (s.put o.dst (.c undef)) := by simp [yX, pg]
theorem YT (dsts : List (Option Nat)) (ops : List Oper) (Q : Exit → St → Prop) (o : Oper) (rest : List Oper) (ks : List Kd) (s : St) : yX P (some (.c (.bool false))) true dsts ops Q o rest ks s = pg P dsts ops Q rest (.p :: ks) (s.put o.dst (.c undef)) := by simp [yX, pg]
theorem JX {b want : Bool} {dsts : List (Option Nat)} {ops : List Oper} {Q : Exit → St → Prop} {o : Oper} {rest : List Oper} {ks : List Kd} {s : St} (ht : b = want → aH P s o (OV P dsts ops Q rest ks)) (hf : b = !want → pg P dsts ops Q rest (.p :: ks) (s.put o.dst (.c undef))) :
  yX P (some (.c (.bool b))) want dsts ops Q o rest ks s := by
 simp only [yX]
 split
 ·exact ht ‹_›
 ·exact hf (by cases b <;> cases want <;> simp_all)
theorem Eu {b want : Bool} {dsts : List (Option Nat)} {Q : Exit → St → Prop} {o : Oper} {rest : List Oper} {s : St} (ht : b = want → aH P s o (Dp P dsts Q rest)) (hf : b = !want → qV P dsts Q rest (s.put o.dst (.c undef))) :
  lK P (some (.c (.bool b))) want dsts Q o rest s := by
 simp only [lK]
 split
 ·exact ht ‹_›
 ·exact hf (by cases b <;> cases want <;> simp_all)
theorem Pi (e : Nat → V) (b : Nat → Option (TypeId × List V)) (n : Nat) (h : Nat → V) (dsts : List (Option Nat)) (j : Nat) : fZ ⟨e, b, n, h⟩ dsts j = match dsts[j]? with | some (some d) => some (e d) | _ => none := rfl
end
section
variable (P : Program) (t : TypeId) (k : IntKind) (a b : Int)
theorem Uc : dP P .add t (.c (.int k a)) (.c (.int k b)) = some (.c (.int k (k.wrap (a + b)))) := by simp [dP, qK]
theorem Ud : dP P .sub t (.c (.int k a)) (.c (.int k b)) = some (.c (.int k (k.wrap (a - b)))) := by simp [dP, qK]
theorem Ue : dP P .mul t (.c (.int k a)) (.c (.int k b)) = some (.c (.int k (k.wrap (a * b)))) := by simp [dP, qK]
theorem Uf : dP P .quo t (.c (.int k a)) (.c (.int k b)) = if b = 0 then none else some (.c (.int k (k.wrap (a.tdiv b)))) := by simp [dP, qK]; split <;> rfl
theorem Ug : dP P .rem t (.c (.int k a)) (.c (.int k b)) = if b = 0 then none else some (.c (.int k (a.tmod b))) := by simp [dP, qK]; split <;> rfl
theorem Uh : dP P .and t (.c (.int k a)) (.c (.int k b)) = some (.c (.int k (bits .and k a b))) := by simp [dP, qK]
theorem YU : dP P .or t (.c (.int k a)) (.c (.int k b)) = some (.c (.int k (bits .or k a b))) := by simp [dP, qK]
theorem Ui : dP P .xor t (.c (.int k a)) (.c (.int k b)) = some (.c (.int k (bits .xor k a b))) := by simp [dP, qK]
theorem Hq : dP P .andNot t (.c (.int k a)) (.c (.int k b)) = some (.c (.int k (bits .andNot k a b))) := by simp [dP, qK]
theorem Uj : dP P .eql t (.c (.int k a)) (.c (.int k b)) = some (.c (.bool (a == b))) := by simp [dP, qK]
theorem Uk : dP P .neq t (.c (.int k a)) (.c (.int k b)) = some (.c (.bool (a != b))) := by simp [dP, qK]
theorem Ul : dP P .lss t (.c (.int k a)) (.c (.int k b)) = some (.c (.bool (decide (a < b)))) := by simp [dP, qK]
theorem Um : dP P .leq t (.c (.int k a)) (.c (.int k b)) = some (.c (.bool (decide (a ≤ b)))) := by simp [dP, qK]
theorem Un : dP P .gtr t (.c (.int k a)) (.c (.int k b)) = some (.c (.bool (decide (b < a)))) := by simp [dP, qK]
theorem Uo : dP P .geq t (.c (.int k a)) (.c (.int k b)) = some (.c (.bool (decide (b ≤ a)))) := by simp [dP, qK]
theorem Ur (k2 : IntKind) : dP P .shl t (.c (.int k a)) (.c (.int k2 b)) = if b < 0 then none else some (.c (.int k (k.wrap (a * 2 ^ min b.toNat k.bits)))) := rfl
theorem Us (k2 : IntKind) : dP P .shr t (.c (.int k a)) (.c (.int k2 b)) = if b < 0 then none else some (.c (.int k (a.fdiv (2 ^ min b.toNat k.bits)))) := rfl
theorem Ut (x y : Bool) : dP P .eql t (.c (.bool x)) (.c (.bool y)) = if kW P t = true then some (.c (.bool (x == y))) else none := rfl
theorem Uu (x y : Bool) : dP P .neq t (.c (.bool x)) (.c (.bool y)) = if kW P t = true then some (.c (.bool (!(x == y)))) else none := rfl
theorem Uw (x y : ByteArray) : dP P .eql t (.c (.string x)) (.c (.string y)) = some (.c (.bool (decide (x = y)))) := rfl
theorem Ux (x y : ByteArray) : dP P .neq t (.c (.string x)) (.c (.string y)) = some (.c (.bool (!decide (x = y)))) := rfl
theorem Pj (x y : ByteArray) : dP P .lss t (.c (.string x)) (.c (.string y)) = some (.c (.bool (Op.bytesLess x.toList y.toList))) := rfl
theorem Pn (x y : ByteArray) : dP P .leq t (.c (.string x)) (.c (.string y)) = some (.c (.bool (Op.bytesLess x.toList y.toList || decide (x = y)))) := rfl
theorem Po (x y : ByteArray) : dP P .gtr t (.c (.string x)) (.c (.string y)) = some (.c (.bool (!(Op.bytesLess x.toList y.toList || decide (x = y))))) := rfl
theorem Pq (x y : ByteArray) : dP P .geq t (.c (.string x)) (.c (.string y)) = some (.c (.bool (!Op.bytesLess x.toList y.toList))) := rfl
theorem Hr (c x y : Bool) : agH c (.c (.bool x)) (.c (.bool y)) = .c (.bool (bif c then x else y)) := rfl
theorem JY (x y : V) : agH true x y = x := by unfold agH; split <;> rfl
theorem Ht (x y : V) : agH false x y = y := by unfold agH; split <;> rfl
theorem Uy (s : St) (d : Option Nat) (c : Bool) (x y : V) (K : Kd → St → Prop) : TK s d (.c (.bool c)) x y K = K (kq [.c (.bool c), x, y] (agH c x y)) (s.put d (agH c x y)) := rfl
end
end Go.Pg
end
