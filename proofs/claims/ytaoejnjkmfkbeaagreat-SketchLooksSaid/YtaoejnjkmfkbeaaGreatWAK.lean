/-
  Texts of this claim, merged; own names are short.
-/
import Derived.Test.YtaoejnjkmfkbeaaGreatWAJ
import Derived.Test.YtaoejnjkmfkbeaaGreatWAH
set_option linter.unusedVariables false
set_option linter.unusedSimpArgs false
set_option linter.unusedSectionVars false
set_option linter.defProp false
set_option maxRecDepth 100000
set_option maxHeartbeats 8000000
namespace Go.Pg
open Go
def GoodX (P : Program) (g : FuncId) (args : List V) (r : V) : Prop :=
 ∀ (L : Lay) (w : World) (cargs : List Value), Reps L w args cargs → ∃ u, (callFunc g cargs.toArray).run P w = .ok (.value u) w ∧ Rep L w r u
theorem GoodX.z {P : Program} [Tb P] {g : FuncId} {args : List V} {r : V} (h : GoodX P g args r) (s : St) : GoodZ P g args s s r := by
 intro C L a w cargs _ S hargs
 obtain ⟨u, h1, h2⟩ := h L w cargs hargs
 exact .inr ⟨u, w, L, h1, S, h2⟩
end Go.Pg
section
namespace Go.Pg
open Go
theorem Vz (s : St) (t : Nat) : s.ev (.tmp t) = s.env t := rfl
theorem MC (s : St) (v : Value) : s.ev (.const v) = bG v := rfl
theorem Rl (s : St) (f : FuncId) : s.ev (.func f) = .fn f [] [] := rfl
theorem Ia (s : St) (g : Nat) : s.ev (.global g) = .c (.pointer (some ⟨g, 0, none⟩)) := rfl
theorem VA (e : Nat → V) (b : Nat → Option (TypeId × List V)) (n d : Nat) (h : Nat → V) (v : V) : St.put ⟨e, b, n, h⟩ (some d) v = ⟨upd e d v, b, n, h⟩ := rfl
theorem Rn {α : Type} (f : Nat → α) (d : Nat) (v : α) : upd f d v d = v := by simp [upd]
section
variable (s : St) (d : Option Nat) (l : List V) (k : Kd) (K : Kd → St → Prop)
theorem bg (r : V) : iH (some r) s d l K = K (kq l r) (s.put d r) := rfl
theorem aH : iH none s d l K = False := rfl
theorem bz (f : List V → V → Kd) (r : V) : qc f (some r) s d l K = K (f l r) (s.put d r) := rfl
theorem bC (f : List V → V → Kd) : qc f none s d l K = False := rfl
theorem Ib (r : V) : qf (some r) s d K = K (kr r) (s.put d r) := rfl
theorem aC : qf none s d K = False := rfl
theorem Ic (r : V) (s' : St) : eH (some (r, s')) d k K = K k (s'.put d r) := rfl
theorem au : eH none d k K = False := rfl
end
def rD : List Nat → V → V
 | [], v => v
 | i :: l, v => rD l (frz i v)
theorem VB (τ : Tag → Tag) (ρ : Nat → Nat) (l : List Value) : V.mapL τ ρ (l.map .c) = l.map .c := by
 induction l with
 | nil => rfl
 | cons x l ih => simp only [List.map_cons, V.mapL, V.map, ih]
theorem Ie (τ : Tag → Tag) (ρ : Nat → Nat) (v : Value) : (bG v).map τ ρ = bG v := by
 cases v <;> first | rfl | simp only [bG, V.map, VB]
theorem Ro (s : St) (i : Nat) (x : Operand) : (s.mapV (frz i)).ev x = frz i (s.ev x) := by
 cases x with
 | tmp t => rfl
 | const v => exact (Ie _ _ v).symm
 | global g => rfl
 | func f => rfl
theorem oV (ids : List Nat) : ∀ (s : St) (x : Operand), (s.freezeAll ids).ev x = rD ids (s.ev x) := by
 induction ids with
 | nil => intro s x; rfl
 | cons i l ih => intro s x; show ((s.mapV (frz i)).freezeAll l).ev x = rD l (frz i (s.ev x)); rw [ih, Ro]
def bsF (P : Program) (s : St) (d : Option Nat) (t : TypeId) (n : Nat) (parts : List (Nat × V)) (ids : List Nat) (K : Kd → St → Prop) : Prop :=
 match ids with
 | [] => False
 | i :: l => eH (aZ P (s.freezeAll (i :: l)) t n (parts.map fun p => (p.1, rD (i :: l) p.2))) d .z K
def stX (P : Program) (s : St) (t : TypeId) (x y : V) : Option (V × St) :=
 match x with
 | .ref b off => (fV P s t b off y).map fun s' => (.top, s')
 | .el (.own id _) k xs i off => (gW P s t id k xs i off y).map fun s' => (.top, s')
 | _ => none
def stF (P : Program) (s : St) (d : Option Nat) (t : TypeId) (x y : V) (ids : List Nat) (K : Kd → St → Prop) : Prop :=
 match ids with
 | [] => False
 | i :: l => eH (stX P (s.freezeAll (i :: l)) t (rD (i :: l) x) (rD (i :: l) y)) d .z K
theorem Rq (P : Program) (s : St) (d : Option Nat) (t : TypeId) (n : Nat) (parts : List (Nat × V)) (K : Kd → St → Prop) : bsF P s d t n parts [] K = False := rfl
theorem AP (P : Program) (s : St) (d : Option Nat) (t : TypeId) (n : Nat) (parts : List (Nat × V)) (i : Nat) (l : List Nat) (K : Kd → St → Prop) : bsF P s d t n parts (i :: l) K = eH (aZ P (s.freezeAll (i :: l)) t n (parts.map fun p => (p.1, rD (i :: l) p.2))) d .z K := rfl
theorem Rt (P : Program) (s : St) (d : Option Nat) (t : TypeId) (x y : V) (K : Kd → St → Prop) : stF P s d t x y [] K = False := rfl
theorem MF (P : Program) (s : St) (d : Option Nat) (t : TypeId) (x y : V) (i : Nat) (l : List Nat) (K : Kd → St → Prop) : stF P s d t x y (i :: l) K = eH (stX P (s.freezeAll (i :: l)) t (rD (i :: l) x) (rD (i :: l) y)) d .z K := rfl
theorem Ru (P : Program) (s : St) (t : TypeId) (id : Nat) (e : TypeId) (k : Nat) (xs : List V) (i off : Nat) (y : V) : stX P s t (.el (.own id e) k xs i off) y = (gW P s t id k xs i off y).map fun s' => (.top, s') := rfl
theorem MG (v : V) : rD [] v = v := rfl
theorem Ig (i : Nat) (l : List Nat) (v : V) : rD (i :: l) v = rD l (frz i v) := rfl
section
variable (P : Program) [Tb P] (s : St) (d : Option Nat) (ty : TypeId) (pos : String) (af : Array Edge) (g : Option (Nat × Bool)) (K : Kd → St → Prop)
theorem DU (x : Operand) : ai P s ⟨d, .move x, ty, pos, af, g⟩ K = K (ka [s.ev x] (s.ev x)) (s.put d (s.ev x)) := by simp only [ai, kqo, aO, qc, kx, qv, rv, xv, zv, Op.operands, List.map_toArray, List.map_cons, List.map_nil, bg, aH, bz, bC, aC, au, or_false, false_or]
theorem yz (x : Operand) : ai P s ⟨d, .assign x, ty, pos, af, g⟩ K = K (ka [s.ev x] (s.ev x)) (s.put d (s.ev x)) := by simp only [ai, kqo, aO, qc, kx, qv, rv, xv, zv, Op.operands, List.map_toArray, List.map_cons, List.map_nil, bg, aH, bz, bC, aC, au, or_false, false_or]
theorem AQ (op : BinOp) (t t2 : TypeId) (x y : Operand) : ai P s ⟨d, .binOp op t x y t2, ty, pos, af, g⟩ K = iH (pY P op t (s.ev x) (s.ev y) y) s d [s.ev x, s.ev y] K := by simp only [ai, kqo, aO, kx, qv, rv, xv, zv, Op.operands, List.map_toArray, List.map_cons, List.map_nil, bg, aH, bz, bC, aC, au, or_false, false_or]
theorem DV (op : UnOp) (t : TypeId) (x : Operand) : ai P s ⟨d, .unOp op t x, ty, pos, af, g⟩ K = iH (unV op (s.ev x)) s d [s.ev x] K := by simp only [ai, kqo, aO, kx, qv, rv, xv, zv, Op.operands, List.map_toArray, List.map_cons, List.map_nil, bg, aH, bz, bC, aC, au, or_false, false_or]
theorem wG (x : Operand) (i : Nat) : ai P s ⟨d, .extract x i, ty, pos, af, g⟩ K = iH (exV (s.ev x) i) s d [s.ev x] K := by simp only [ai, kqo, aO, kx, qv, rv, xv, zv, Op.operands, List.map_toArray, List.map_cons, List.map_nil, bg, aH, bz, bC, aC, au, or_false, false_or]
theorem AU (t : TypeId) (x : Operand) (f : Nat) : ai P s ⟨d, .field t x f, ty, pos, af, g⟩ K = iH (pU P t (s.ev x) f) s d [s.ev x] K := by simp only [ai, kqo, aO, kx, qv, rv, xv, zv, Op.operands, List.map_toArray, List.map_cons, List.map_nil, bg, aH, bz, bC, aC, au, or_false, false_or]
theorem AV (t : TypeId) (x i : Operand) : ai P s ⟨d, .index t x i, ty, pos, af, g⟩ K = iH (ixV P t (s.ev x) (s.ev i)) s d [s.ev x, s.ev i] K := by simp only [ai, kqo, aO, kx, qv, rv, xv, zv, Op.operands, List.map_toArray, List.map_cons, List.map_nil, bg, aH, bz, bC, aC, au, or_false, false_or]
theorem rF (t : TypeId) (x i : Operand) : ai P s ⟨d, .indexAddr t x i, ty, pos, af, g⟩ K = qc ka (iaV P t (s.ev x) (s.ev i)) s d [s.ev x, s.ev i] K := by simp only [ai, kqo, aO, kx, qv, rv, xv, zv, Op.operands, List.map_toArray, List.map_cons, List.map_nil, bg, aH, bz, bC, aC, au, or_false, false_or]
theorem rG (t : TypeId) (x : Operand) (f : Nat) : ai P s ⟨d, .fieldAddr t x f, ty, pos, af, g⟩ K = qc ka (faV P t (s.ev x) f) s d [s.ev x] K := by simp only [ai, kqo, aO, kx, qv, rv, xv, zv, Op.operands, List.map_toArray, List.map_cons, List.map_nil, bg, aH, bz, bC, aC, au, or_false, false_or]
theorem uG (f : FuncId) (fs cs : Array Operand) : ai P s ⟨d, .makeFunc (.func f) fs cs, ty, pos, af, g⟩ K = K (kq (fs.toList.map s.ev ++ cs.toList.map s.ev) (.fn f (fs.toList.map s.ev) (cs.toList.map s.ev))) (s.put d (.fn f (fs.toList.map s.ev) (cs.toList.map s.ev))) := by simp only [ai, kqo, aO, kx, qv, rv, xv, zv, Op.operands, Array.toList_append, List.map_append, List.map_toArray, List.map_cons, List.map_nil, bg, aH, bz, bC, aC, au, or_false, false_or]
theorem AX (t : TypeId) (parts : Array (Nat × Operand)) : ai P s ⟨d, .build t parts, ty, pos, af, g⟩ K = iH (nK P t (parts.toList.map fun p => (p.1, s.ev p.2))) s d ((parts.toList.map fun p => p.2).map s.ev) K := by simp only [ai, kqo, aO, kx, qv, rv, xv, zv, Op.operands, Array.toList_map, List.map_toArray, List.map_cons, List.map_nil, bg, aH, bz, bC, aC, au, or_false, false_or]
theorem AY (e : TypeId) : ai P s ⟨d, .alloc e, ty, pos, af, g⟩ K = eH (lM P s e) d .x K := by simp only [ai, kqo, aO, kx, qv, rv, xv, zv, Op.operands, List.map_toArray, List.map_cons, List.map_nil, bg, aH, bz, bC, aC, au, or_false, false_or]
theorem Ih (e : TypeId) (x : Operand) : ai P s ⟨d, .box e x, ty, pos, af, g⟩ K = eH (Du s e (s.ev x)) d .x K := by simp only [ai, kqo, aO, kx, qv, rv, xv, zv, Op.operands, List.map_toArray, List.map_cons, List.map_nil, bg, aH, bz, bC, aC, au, or_false, false_or]
theorem qm (t : TypeId) (n : Nat) (parts : Array (Nat × Operand)) : ai P s ⟨d, .buildSlice t n parts, ty, pos, af, g⟩ K = (eH (aZ P s t n (parts.toList.map fun p => (p.1, s.ev p.2))) d .n K ∨ bsF P s d t n (parts.toList.map fun p => (p.1, s.ev p.2)) (V.idsL (parts.toList.map fun p => s.ev p.2)) K) := by
 simp only [ai, kqo, aO, kx, qv, rv, xv, zv, Op.operands, List.map_toArray, List.map_cons, List.map_nil, bg, aH, bz, bC, aC, au, or_false, false_or]
 congr 1
 generalize V.idsL (parts.toList.map fun p => s.ev p.2) = ids
 cases ids with
 | nil => rfl
 | cons i l => simp only [frX, xv, AP, List.map_map, oV]; rfl
theorem rH (t : TypeId) (l c : Operand) : ai P s ⟨d, .makeSlice t l c, ty, pos, af, g⟩ K = eH (oH P s t (s.ev l) (s.ev c)) d .n K := by simp only [ai, kqo, aO, kx, qv, rv, xv, zv, Op.operands, List.map_toArray, List.map_cons, List.map_nil, bg, aH, bz, bC, aC, au, or_false, false_or]
def MH (s : St) (d : Option Nat) (c x y : V) (K : Kd → St → Prop) : Prop := match c with | .c (.bool b) => K (kq [.c (.bool b), x, y] (lu b x y)) (s.put d (lu b x y)) | _ => False
theorem DW (c x y : Operand) : ai P s ⟨d, .pick c x y, ty, pos, af, g⟩ K = MH s d (s.ev c) (s.ev x) (s.ev y) K := by
 simp only [ai, kqo, aO, kx, qv, rv, xv, zv, Op.operands, List.map_cons, List.map_nil, aC, au, or_false, MH]
 generalize s.ev c = v
 cases v with
 | c u => cases u <;> rfl
 | _ => rfl
def xx (P : Program) (s : St) (d : Option Nat) (src dst : TypeId) (x : V) (K : Kd → St → Prop) : Prop :=
 iH (jc P src dst x) s d [x] K ∨ qf (eY P s src dst x) s d K ∨ eH ((fZ P src dst x).map fun r => (r, s)) d .x K ∨ eH (jW P s src dst x) d .z K
theorem wH (src dst : TypeId) (x : Operand) : ai P s ⟨d, .convert src dst x, ty, pos, af, g⟩ K = xx P s d src dst (s.ev x) K := by simp only [ai, kqo, aO, kx, qv, rv, xv, zv, Op.operands, List.map_cons, List.map_nil, xx]
def Gh (P : Program) (s : St) (d : Option Nat) (t : TypeId) (x : V) (K : Kd → St → Prop) : Prop :=
 match x with
 | .ref b off => qf (iy P s t b off) s d K
 | .el tg k xs i off => iH ((xs[i]?).bind fun y => y.cs.bind fun cs => aW P t cs off) s d [.el tg k xs i off] K
 | _ => False
theorem DX (t : TypeId) (x : Operand) : ai P s ⟨d, .load t x, ty, pos, af, g⟩ K = Gh P s d t (s.ev x) K := by
 simp only [ai, kqo, aO, kx, qv, rv, xv, zv, Op.operands, List.map_cons, List.map_nil, au, or_false, Gh]
 generalize s.ev x = v
 cases v <;> simp only [aH, aC, or_false, false_or]
def yC (P : Program) (s : St) (d : Option Nat) (t : TypeId) (x y : V) (K : Kd → St → Prop) : Prop :=
 match x with
 | .ref b off => eH ((fV P s t b off y).map fun s' => (.top, s')) d .x K
 | .el (.own id e) k xs i off => eH ((gW P s t id k xs i off y).map fun s' => (.top, s')) d (.w id k) K ∨ stF P s d t (.el (.own id e) k xs i off) y y.ids K
 | _ => False
theorem AZ (t : TypeId) (x y : Operand) : ai P s ⟨d, .store t x y, ty, pos, af, g⟩ K = yC P s d t (s.ev x) (s.ev y) K := by
 simp only [ai, kqo, aO, kx, qv, rv, xv, zv, aH, aC, au, or_false, false_or, yC]
 cases hv : s.ev x with
 | el tg k xs i off =>
  cases tg with
  | own id e =>
   simp only
   congr 1
   generalize (s.ev y).ids = ids
   cases ids with
   | nil => rfl
   | cons a l => simp only [frX, xv, stF, stX, oV, hv]; rfl
  | _ => simp only [au, or_false]
 | _ => simp only [au, or_false, false_or]
def qo (P : Program) (s : St) (d : Option Nat) (t : TypeId) (x : V) (lo hi : Option V) (l : List V) (K : Kd → St → Prop) : Prop :=
 match x with
 | .sl (.own id _) k xs => if lo.all isC && hi.all isC then eH (iC P s t id k xs lo hi) d .z K else False
 | .ref b off => eH (oI P s t b off lo hi) d .z K
 | x => iH (slV P t x lo hi) s d l K
def Xt (s : St) (x : Operand) (lo hi : Option Operand) : List V := s.ev x :: ((lo.toList ++ hi.toList).map s.ev)
theorem A7 (t : TypeId) (x : Operand) (lo hi : Option Operand) : ai P s ⟨d, .slice t x lo hi none, ty, pos, af, g⟩ K = qo P s d t (s.ev x) (lo.map s.ev) (hi.map s.ev) (Xt s x lo hi) K := by
 have e : (Op.slice t x lo hi none).operands.toList.map s.ev = Xt s x lo hi := by cases lo <;> cases hi <;> rfl
 simp only [ai, kqo, aO, kx, qv, rv, xv, zv, aC, au, false_or, qo, e]
 generalize s.ev x = v
 cases v with
 | sl tg k xs =>
  cases tg with
  | fz => simp only [au, or_false]
  | nn => simp only [au, or_false]
  | own id e =>
   simp only [slV, aH, false_or]
   split <;> simp only [au]
 | ref b off => simp only [slV, aH, false_or]
 | _ => simp only [au, or_false]
theorem Ii (x : Operand) (t : TypeId) : ai P s ⟨d, .call { callee := .builtin .len, args := #[x], argTypes := #[t] }, ty, pos, af, g⟩ K = iH (zO P t (s.ev x)) s d [s.ev x] K := by
 have e : (Op.call { callee := .builtin .len, args := #[x], argTypes := #[t] }).operands.toList.map s.ev = [s.ev x] := rfl
 simp only [ai, kqo, aO, kx, qv, rv, xv, zv, e, aH, aC, au, or_false]
theorem Ij (x y : Operand) (ts : Array TypeId) : ai P s ⟨d, .call { callee := .builtin .max, args := #[x, y], argTypes := ts }, ty, pos, af, g⟩ K = iH (jC true (s.ev x) (s.ev y)) s d [s.ev x, s.ev y] K := by
 have e : (Op.call { callee := .builtin .max, args := #[x, y], argTypes := ts }).operands.toList.map s.ev = [s.ev x, s.ev y] := rfl
 simp only [ai, kqo, aO, kx, qv, rv, xv, zv, e, aH, aC, au, or_false]
theorem rJ (x : Operand) (ts : Array TypeId) : ai P s ⟨d, .call { callee := .builtin .unsafeSliceData, args := #[x], argTypes := ts }, ty, pos, af, g⟩ K = iH (sdV (s.ev x)) s d [s.ev x] K := by
 have e : (Op.call { callee := .builtin .unsafeSliceData, args := #[x], argTypes := ts }).operands.toList.map s.ev = [s.ev x] := rfl
 simp only [ai, kqo, aO, kx, qv, rv, xv, zv, e, aH, aC, au, or_false]
theorem nT (x n : Operand) (pt it : TypeId) : ai P s ⟨d, .call { callee := .builtin .unsafeString, args := #[x, n], argTypes := #[pt, it] }, ty, pos, af, g⟩ K = eH (usV P s pt (s.ev x) (s.ev n)) d .z K := by
 simp only [ai, kqo, aO, kx, qv, rv, xv, zv, aH, aC, au, false_or]
theorem Ik (x y : Operand) (ts : Array TypeId) : ai P s ⟨d, .call { callee := .builtin .min, args := #[x, y], argTypes := ts }, ty, pos, af, g⟩ K = iH (jC false (s.ev x) (s.ev y)) s d [s.ev x, s.ev y] K := by
 have e : (Op.call { callee := .builtin .min, args := #[x, y], argTypes := ts }).operands.toList.map s.ev = [s.ev x, s.ev y] := rfl
 simp only [ai, kqo, aO, kx, qv, rv, xv, zv, e, aH, aC, au, or_false]
theorem yD (x y : Operand) (t t2 : TypeId) : ai P s ⟨d, .call { callee := .builtin .append, args := #[x, y], argTypes := #[t, t2] }, ty, pos, af, g⟩ K = eH (fH P s t t2 (s.ev x) (s.ev y)) d (rC (s.ev x)) K := by simp only [ai, kqo, aO, kx, qv, rv, xv, zv, Op.operands, List.map_toArray, List.map_cons, List.map_nil, bg, aH, bz, bC, aC, au, or_false, false_or]
def MI (s : St) (d : Option Nat) (x : V) (K : Kd → St → Prop) : Prop := match x with | .ref b o => K (kq [.ref b o] (.ref b o)) (s.put d (.ref b o)) | .el t k xs i o => K (kq [.el t k xs i o] (.el t k xs i o)) (s.put d (.el t k xs i o)) | .fn f a b => K (kq [.fn f a b] (.fn f a b)) (s.put d (.fn f a b)) | _ => False
theorem uH (x : Operand) : ai P s ⟨d, .nilCheck x, ty, pos, af, g⟩ K = MI s d (s.ev x) K := by
 simp only [ai, kqo, aO, kx, qv, rv, xv, zv, Op.operands, List.map_cons, List.map_nil, aC, au, or_false, MI]
 generalize s.ev x = v
 cases v <;> rfl
theorem DY (f : Operand) (args : Array Operand) (ts : Array TypeId) : ai P s ⟨d, .call { callee := .value f, args := args, argTypes := ts }, ty, pos, af, g⟩ K = iP P (s.ev f) args.toList d s K := rfl
end
section
variable (D : Dw) (P : Program) [Tb P]
def jL (y : Code) (Q : Exit → St → Prop) : Exit → St → Prop := oJ (fun s' => wpS D P y Q s') Q
def xy (dsts : List (Option Nat)) (Q : Exit → St → Prop) (rest : List Oper) (_ : Kd) : St → Prop := wpL P dsts (Q .normal) rest
def nU (dsts : List (Option Nat)) (Q : Exit → St → Prop) (ops : List Oper) (s : St) : Prop := wpL P dsts (Q .normal) ops s
def uI (v : V) (x y : Code) (Q : Exit → St → Prop) (s : St) : Prop := Ad v (wpS D P x Q s) (wpS D P y Q s)
def A8 (x : Code) (Q : Exit → St → Prop) (s : St) : Prop := U5 (fun Q s => wpS D P x Q s) Q s
def iI (v : Option V) (want : Bool) (dsts : List (Option Nat)) (Q : Exit → St → Prop) (o : Oper) (rest : List Oper) (s : St) : Prop :=
 match v with | some (.c (.bool b)) => if b = want then ai P s o (xy P dsts Q rest) else wpL P dsts (Q .normal) rest (s.put o.dst (.c undef)) | some (.c _) => wpL P dsts (Q .normal) rest (s.put o.dst (.c undef)) | _ => False
def kF (dsts : List (Option Nat)) (ops : List Oper) (Q : Exit → St → Prop) (rest : List Oper) (ks : List Kd) (s : St) : Prop := jJ P dsts ops (Q .normal) rest ks s
def Il (dsts : List (Option Nat)) (ops : List Oper) (Q : Exit → St → Prop) (rest : List Oper) (ks : List Kd) (κ : Kd) (s : St) : Prop := jJ P dsts ops (Q .normal) rest (κ :: ks) s
def rM (v : Option V) (want : Bool) (dsts : List (Option Nat)) (ops : List Oper) (Q : Exit → St → Prop) (o : Oper) (rest : List Oper) (ks : List Kd) (s : St) : Prop :=
 match v with | some (.c (.bool b)) => if b = want then ai P s o (Il P dsts ops Q rest ks) else jJ P dsts ops (Q .normal) rest (.p :: ks) (s.put o.dst (.c undef)) | some (.c _) => jJ P dsts ops (Q .normal) rest (.p :: ks) (s.put o.dst (.c undef)) | _ => False
theorem MJ (Q : Exit → St → Prop) (s : St) : wpS D P .skip Q s = Q .normal s := rfl
theorem Rw (Q : Exit → St → Prop) (s : St) : wpS D P .ret Q s = Q .ret s := rfl
theorem MK (id : Nat) (Q : Exit → St → Prop) (s : St) : wpS D P (.exit id) Q s = Q (.exit id) s := rfl
theorem Io (l : Nat) (Q : Exit → St → Prop) (s : St) : wpS D P (.label l) Q s = Q .normal s := rfl
theorem Rx (x y : Code) (Q : Exit → St → Prop) (s : St) : wpS (dC []) P (.seq x y) Q s = wpS (dC []) P x (jL (dC []) P y Q) s := by
 have : jG (dC []).cuts (fF y) = false := by cases h : fF y <;> rfl
 simp only [wpS, this, jL, cond_false]
def Yy (cuts : List Nat) (x y : Code) (Q : Exit → St → Prop) (s : St) : Prop := wpS (dC cuts) P (.seq x y) Q s
theorem ML (n : Nat) (cuts : List Nat) (x y : Code) (Q : Exit → St → Prop) (s : St) : wpS (dC (n :: cuts)) P (.seq x y) Q s = bif jG (n :: cuts) (fF y) then Yy P (n :: cuts) x y Q s else wpS (dC (n :: cuts)) P x (jL (dC (n :: cuts)) P y Q) s := by
 cases h : jG (n :: cuts) (fF y) with
 | true => rfl
 | false =>
  have h' : jG (dC (n :: cuts)).cuts (fF y) = false := h
  simp only [wpS, h', jL, cond_false]
theorem Ba (id : Nat) (ops : Array Oper) (d : Bool) : fF (.region id ops d) = some id := rfl
theorem MM (x y : Code) : fF (.seq x y) = fF x := rfl
theorem DZ (id : Nat) (x : Code) : fF (.block id x) = fF x := rfl
theorem Ip (x : Code) : fF (.loop x) = fF x := rfl
theorem Iq (c : Operand) (x y : Code) : fF (.cond c x y) = none := rfl
theorem Ir : fF .skip = none := rfl
theorem MN : fF .ret = none := rfl
theorem Iu (id : Nat) : fF (.exit id) = none := rfl
theorem D5 (id : Nat) : fF (.label id) = none := rfl
theorem Iw (id : Nat) : fF (.goto id) = none := rfl
theorem D6 (cuts : List Nat) (n : Nat) : jG cuts (some n) = cuts.contains n := rfl
theorem D7 (cuts : List Nat) : jG cuts none = false := rfl
def Ry {ι : Type} (S : ι → St) (Inv : ι → Prop) (Q : Exit → St → Prop) : Exit → St → Prop := oJ (fun s => ∃ i, Inv i ∧ Weak s (S i)) Q
theorem MO {ι : Type} (S : ι → St) (Inv : ι → Prop) (Q : Exit → St → Prop) (s : St) : Ry S Inv Q .ret s = Q .ret s := rfl
theorem Iy {ι : Type} (S : ι → St) (Inv : ι → Prop) (Q : Exit → St → Prop) (id : Nat) (s : St) : Ry S Inv Q (.exit id) s = Q (.exit id) s := rfl
theorem Iz {ι : Type} (S : ι → St) (Inv : ι → Prop) (Q : Exit → St → Prop) (id : Nat) (s : St) : Ry S Inv Q (.goto id) s = Q (.goto id) s := rfl
def Xu {ι : Type} (S : ι → St) (Inv : ι → Prop) (s : St) : Prop := ∃ i, Inv i ∧ Weak s (S i)
theorem Bc {ι : Type} (S : ι → St) (Inv : ι → Prop) (Q : Exit → St → Prop) (s : St) : Ry S Inv Q .normal s = Xu S Inv s := rfl
theorem MP (c : Operand) (x y : Code) (Q : Exit → St → Prop) (s : St) : wpS D P (.cond c x y) Q s = uI D P (s.ev c) x y Q s := rfl
theorem IA (id : Nat) (x : Code) (Q : Exit → St → Prop) (s : St) : wpS D P (.block id x) Q s = wpS D P x (inB id Q) s := rfl
theorem MQ (x : Code) (Q : Exit → St → Prop) (s : St) : wpS D P (.loop x) Q s = A8 D P x Q s := rfl
theorem D8 (id : Nat) (l : List Oper) (Q : Exit → St → Prop) (s : St) : wpS D P (.region id l.toArray false) Q s = nU P (l.map (·.dst)) Q l s := by
 simp only [wpS, nU, Bool.false_eq_true, if_false]
theorem MR (cuts : List Nat) (id : Nat) (l : List Oper) (Q : Exit → St → Prop) (s : St) : wpS (dC cuts) P (.region id l.toArray true) Q s = kF P (l.map (·.dst)) l Q l [] s := by
 simp only [wpS, if_true, kF, xu, dC]
theorem yE (y : Code) (Q : Exit → St → Prop) (s : St) : jL D P y Q .normal s = wpS D P y Q s := rfl
theorem IB (y : Code) (Q : Exit → St → Prop) (s : St) : jL D P y Q .ret s = Q .ret s := rfl
theorem D9 (id : Nat) (y : Code) (Q : Exit → St → Prop) (s : St) : jL D P y Q (.exit id) s = Q (.exit id) s := rfl
theorem Ea (id : Nat) (Q : Exit → St → Prop) (s : St) : inB id Q .normal s = Q .normal s := rfl
theorem Rz (id : Nat) (Q : Exit → St → Prop) (s : St) : inB id Q .ret s = Q .ret s := rfl
theorem MS (id id' : Nat) (Q : Exit → St → Prop) (s : St) : inB id Q (.exit id') s = if id' = id then Q .normal s else Q (.exit id') s := rfl
theorem yG (k : St → Prop) (Q : Exit → St → Prop) (s : St) : oJ k Q .normal s = k s := rfl
theorem IC (k : St → Prop) (Q : Exit → St → Prop) (s : St) : oJ k Q .ret s = Q .ret s := rfl
theorem Eb (id : Nat) (k : St → Prop) (Q : Exit → St → Prop) (s : St) : oJ k Q (.exit id) s = Q (.exit id) s := rfl
theorem uJ (x y : Code) (Q : Exit → St → Prop) (s : St) : uI D P (.c (.bool true)) x y Q s = wpS D P x Q s := by simp [uI, Ad]
theorem qW (x y : Code) (Q : Exit → St → Prop) (s : St) : uI D P (.c (.bool false)) x y Q s = wpS D P y Q s := by simp [uI, Ad]
theorem Bd {b : Bool} {x y : Code} {Q : Exit → St → Prop} {s : St} (ht : b = true → wpS D P x Q s) (hf : b = false → wpS D P y Q s) : uI D P (.c (.bool b)) x y Q s := by
 cases b
 ·rw [qW]; exact hf rfl
 ·rw [uJ]; exact ht rfl
theorem MV (dsts : List (Option Nat)) (Q : Exit → St → Prop) (s : St) : nU P dsts Q [] s = Q .normal s := rfl
theorem Ec (dsts : List (Option Nat)) (Q : Exit → St → Prop) (s : St) (d : Option Nat) (op : Op) (ty : TypeId) (pos : String) (af : Array Edge) (rest : List Oper) :
  nU P dsts Q (⟨d, op, ty, pos, af, none⟩ :: rest) s = ai P s ⟨d, op, ty, "", #[], none⟩ (xy P dsts Q rest) := by
 simp only [nU, wpL]
 rfl
theorem Ed (dsts : List (Option Nat)) (Q : Exit → St → Prop) (s : St) (d : Option Nat) (op : Op) (ty : TypeId) (pos : String) (af : Array Edge) (j : Nat) (want : Bool) (rest : List Oper) :
  nU P dsts Q (⟨d, op, ty, pos, af, some (j, want)⟩ :: rest) s = iI P (df s dsts j) want dsts Q ⟨d, op, ty, "", #[], none⟩ rest s := by
 simp only [nU, wpL, iI]
 rfl
theorem MW (dsts : List (Option Nat)) (Q : Exit → St → Prop) (rest : List Oper) (κ : Kd) (s : St) : xy P dsts Q rest κ s = nU P dsts Q rest s := rfl
theorem Ee (b : Bool) (dsts : List (Option Nat)) (Q : Exit → St → Prop) (o : Oper) (rest : List Oper) (s : St) : iI P (some (.c (.bool b))) b dsts Q o rest s = ai P s o (xy P dsts Q rest) := by simp [iI]
theorem IE (dsts : List (Option Nat)) (Q : Exit → St → Prop) (o : Oper) (rest : List Oper) (s : St) : iI P (some (.c (.bool true))) false dsts Q o rest s = nU P dsts Q rest (s.put o.dst (.c undef)) := by simp [iI, nU]
theorem IG (dsts : List (Option Nat)) (Q : Exit → St → Prop) (o : Oper) (rest : List Oper) (s : St) : iI P (some (.c (.bool false))) true dsts Q o rest s = nU P dsts Q rest (s.put o.dst (.c undef)) := by simp [iI, nU]
theorem II (want : Bool) (dsts : List (Option Nat)) (Q : Exit → St → Prop) (o : Oper) (rest : List Oper) (s : St) : iI P (some (.c undef)) want dsts Q o rest s = nU P dsts Q rest (s.put o.dst (.c undef)) := rfl
theorem RD (want : Bool) (dsts : List (Option Nat)) (ops : List Oper) (Q : Exit → St → Prop) (o : Oper) (rest : List Oper) (ks : List Kd) (s : St) : rM P (some (.c undef)) want dsts ops Q o rest ks s = kF P dsts ops Q rest (.p :: ks) (s.put o.dst (.c undef)) := rfl
theorem MX (dsts : List (Option Nat)) (ops : List Oper) (Q : Exit → St → Prop) (ks : List Kd) (s : St) : kF P dsts ops Q [] ks s = (qj ops ks.reverse = true ∧ Q .normal s) := rfl
theorem Ef (dsts : List (Option Nat)) (ops : List Oper) (Q : Exit → St → Prop) (ks : List Kd) (s : St) (d : Option Nat) (op : Op) (ty : TypeId) (pos : String) (af : Array Edge) (rest : List Oper) :
  kF P dsts ops Q (⟨d, op, ty, pos, af, none⟩ :: rest) ks s = ai P s ⟨d, op, ty, "", #[], none⟩ (Il P dsts ops Q rest ks) := by
 simp only [kF, jJ]
 rfl
theorem Eg (dsts : List (Option Nat)) (ops : List Oper) (Q : Exit → St → Prop) (ks : List Kd) (s : St) (d : Option Nat) (op : Op) (ty : TypeId) (pos : String) (af : Array Edge) (j : Nat) (want : Bool) (rest : List Oper) :
  kF P dsts ops Q (⟨d, op, ty, pos, af, some (j, want)⟩ :: rest) ks s = rM P (df s dsts j) want dsts ops Q ⟨d, op, ty, "", #[], none⟩ rest ks s := by
 simp only [kF, jJ, rM]
 rfl
theorem RF (dsts : List (Option Nat)) (ops : List Oper) (Q : Exit → St → Prop) (rest : List Oper) (ks : List Kd) (κ : Kd) (s : St) : Il P dsts ops Q rest ks κ s = kF P dsts ops Q rest (κ :: ks) s := rfl
theorem MZ (b : Bool) (dsts : List (Option Nat)) (ops : List Oper) (Q : Exit → St → Prop) (o : Oper) (rest : List Oper) (ks : List Kd) (s : St) : rM P (some (.c (.bool b))) b dsts ops Q o rest ks s = ai P s o (Il P dsts ops Q rest ks) := by simp [rM]
theorem RG (dsts : List (Option Nat)) (ops : List Oper) (Q : Exit → St → Prop) (o : Oper) (rest : List Oper) (ks : List Kd) (s : St) : rM P (some (.c (.bool true))) false dsts ops Q o rest ks s = kF P dsts ops Q rest (.p :: ks) (s.put o.dst (.c undef)) := by simp [rM, kF]
theorem RH (dsts : List (Option Nat)) (ops : List Oper) (Q : Exit → St → Prop) (o : Oper) (rest : List Oper) (ks : List Kd) (s : St) : rM P (some (.c (.bool false))) true dsts ops Q o rest ks s = kF P dsts ops Q rest (.p :: ks) (s.put o.dst (.c undef)) := by simp [rM, kF]
theorem Eh {b want : Bool} {dsts : List (Option Nat)} {ops : List Oper} {Q : Exit → St → Prop} {o : Oper} {rest : List Oper} {ks : List Kd} {s : St} (ht : b = want → ai P s o (Il P dsts ops Q rest ks)) (hf : b = !want → kF P dsts ops Q rest (.p :: ks) (s.put o.dst (.c undef))) :
  rM P (some (.c (.bool b))) want dsts ops Q o rest ks s := by
 simp only [rM]
 split
 ·exact ht ‹_›
 ·exact hf (by cases b <;> cases want <;> simp_all)
theorem yH {b want : Bool} {dsts : List (Option Nat)} {Q : Exit → St → Prop} {o : Oper} {rest : List Oper} {s : St} (ht : b = want → ai P s o (xy P dsts Q rest)) (hf : b = !want → nU P dsts Q rest (s.put o.dst (.c undef))) :
  iI P (some (.c (.bool b))) want dsts Q o rest s := by
 simp only [iI]
 split
 ·exact ht ‹_›
 ·exact hf (by cases b <;> cases want <;> simp_all)
theorem IJ (e : Nat → V) (b : Nat → Option (TypeId × List V)) (n : Nat) (h : Nat → V) (dsts : List (Option Nat)) (j : Nat) : df ⟨e, b, n, h⟩ dsts j = match dsts[j]? with | some (some d) => some (e d) | _ => none := rfl
end
section
variable (P : Program) (t : TypeId) (k : IntKind) (a b : Int)
theorem Na : bn P .add t (.c (.int k a)) (.c (.int k b)) = some (.c (.int k (k.wrap (a + b)))) := by simp [bn, lG]
theorem Nb : bn P .sub t (.c (.int k a)) (.c (.int k b)) = some (.c (.int k (k.wrap (a - b)))) := by simp [bn, lG]
theorem Nc : bn P .mul t (.c (.int k a)) (.c (.int k b)) = some (.c (.int k (k.wrap (a * b)))) := by simp [bn, lG]
theorem Nh : bn P .quo t (.c (.int k a)) (.c (.int k b)) = if b = 0 then none else some (.c (.int k (k.wrap (a.tdiv b)))) := by simp [bn, lG]; split <;> rfl
theorem Nj : bn P .rem t (.c (.int k a)) (.c (.int k b)) = if b = 0 then none else some (.c (.int k (a.tmod b))) := by simp [bn, lG]; split <;> rfl
theorem Nk : bn P .and t (.c (.int k a)) (.c (.int k b)) = some (.c (.int k (bits .and k a b))) := by simp [bn, lG]
theorem RI : bn P .or t (.c (.int k a)) (.c (.int k b)) = some (.c (.int k (bits .or k a b))) := by simp [bn, lG]
theorem Nl : bn P .xor t (.c (.int k a)) (.c (.int k b)) = some (.c (.int k (bits .xor k a b))) := by simp [bn, lG]
theorem Be : bn P .andNot t (.c (.int k a)) (.c (.int k b)) = some (.c (.int k (bits .andNot k a b))) := by simp [bn, lG]
theorem Np : bn P .eql t (.c (.int k a)) (.c (.int k b)) = some (.c (.bool (a == b))) := by simp [bn, lG]
theorem Nq : bn P .neq t (.c (.int k a)) (.c (.int k b)) = some (.c (.bool (a != b))) := by simp [bn, lG]
theorem Nr : bn P .lss t (.c (.int k a)) (.c (.int k b)) = some (.c (.bool (decide (a < b)))) := by simp [bn, lG]
theorem Ns : bn P .leq t (.c (.int k a)) (.c (.int k b)) = some (.c (.bool (decide (a ≤ b)))) := by simp [bn, lG]
theorem Nu : bn P .gtr t (.c (.int k a)) (.c (.int k b)) = some (.c (.bool (decide (b < a)))) := by simp [bn, lG]
theorem Nv : bn P .geq t (.c (.int k a)) (.c (.int k b)) = some (.c (.bool (decide (b ≤ a)))) := by simp [bn, lG]
theorem Nw (k2 : IntKind) : bn P .shl t (.c (.int k a)) (.c (.int k2 b)) = if b < 0 then none else some (.c (.int k (k.wrap (a * 2 ^ min b.toNat k.bits)))) := rfl
theorem Ny (k2 : IntKind) : bn P .shr t (.c (.int k a)) (.c (.int k2 b)) = if b < 0 then none else some (.c (.int k (a.fdiv (2 ^ min b.toNat k.bits)))) := rfl
theorem Nz (x y : Bool) : bn P .eql t (.c (.bool x)) (.c (.bool y)) = if ig P t = true then some (.c (.bool (x == y))) else none := rfl
theorem NC (x y : Bool) : bn P .neq t (.c (.bool x)) (.c (.bool y)) = if ig P t = true then some (.c (.bool (!(x == y)))) else none := rfl
theorem ND (x y : ByteArray) : bn P .eql t (.c (.string x)) (.c (.string y)) = some (.c (.bool (decide (x = y)))) := rfl
theorem NE (x y : ByteArray) : bn P .neq t (.c (.string x)) (.c (.string y)) = some (.c (.bool (!decide (x = y)))) := rfl
theorem IK (x y : ByteArray) : bn P .lss t (.c (.string x)) (.c (.string y)) = some (.c (.bool (Op.bytesLess x.toList y.toList))) := rfl
theorem IL (x y : ByteArray) : bn P .leq t (.c (.string x)) (.c (.string y)) = some (.c (.bool (Op.bytesLess x.toList y.toList || decide (x = y)))) := rfl
theorem IM (x y : ByteArray) : bn P .gtr t (.c (.string x)) (.c (.string y)) = some (.c (.bool (!(Op.bytesLess x.toList y.toList || decide (x = y))))) := rfl
theorem IP (x y : ByteArray) : bn P .geq t (.c (.string x)) (.c (.string y)) = some (.c (.bool (!Op.bytesLess x.toList y.toList))) := rfl
theorem Bf (c x y : Bool) : lu c (.c (.bool x)) (.c (.bool y)) = .c (.bool (bif c then x else y)) := rfl
theorem Ei (x y : V) : lu true x y = x := by unfold lu; split <;> rfl
theorem Bg (x y : V) : lu false x y = y := by unfold lu; split <;> rfl
theorem NF (s : St) (d : Option Nat) (c : Bool) (x y : V) (K : Kd → St → Prop) : MH s d (.c (.bool c)) x y K = K (kq [.c (.bool c), x, y] (lu c x y)) (s.put d (lu c x y)) := rfl
end
end Go.Pg
end
