/-
  The pure layer: the steps, one equation a form of operation.
-/
import Derived.Test.YtkgebocldjhflaaPgEval
import Derived.Test.YtkgebocldjhflaaPgAny
namespace Go.Pg
open Go
set_option linter.unusedSimpArgs false

theorem ev_tmp (s : St) (t : Nat) : s.ev (.tmp t) = s.env t := rfl
theorem ev_const (s : St) (v : Value) : s.ev (.const v) = ofConst v := rfl
theorem ev_func (s : St) (f : FuncId) : s.ev (.func f) = .fn f [] [] := rfl
theorem ev_global (s : St) (g : Nat) : s.ev (.global g) = .c (.pointer (some ⟨g, 0, none⟩)) := rfl
theorem put_some (s : St) (d : Nat) (v : V) : s.put (some d) v = { s with env := upd s.env d v } := rfl
theorem put_none (s : St) (v : V) : s.put none v = s := rfl
theorem put_mk (e : Nat → V) (b : Nat → Option (List V)) (n d : Nat) (v : V) : St.put ⟨e, b, n⟩ (some d) v = ⟨upd e d v, b, n⟩ := rfl

theorem upd_hit {α : Type} (f : Nat → α) (d : Nat) (v : α) : upd f d v d = v := by simp [upd]

section
variable (s : St) (d : Option Nat) (l : List V) (k : Kd) (K : Kd → St → Prop)
theorem optQ_some (r : V) : optQ (some r) s d l K = K (kq l r) (s.put d r) := rfl
theorem optQ_none : optQ none s d l K = False := rfl
theorem optR_some (r : V) : optR (some r) s d K = K .r (s.put d r) := rfl
theorem optR_none : optR none s d K = False := rfl
theorem optK_some (r : V) (s' : St) : optK (some (r, s')) d k K = K k (s'.put d r) := rfl
theorem optK_none : optK none d k K = False := rfl
end

section
variable (P : Program) (s : St) (d : Option Nat) (ty : TypeId) (pos : String) (af : Array Edge) (g : Option (Nat × Bool)) (K : Kd → St → Prop)

theorem stepW_move (x : Operand) : stepW P s ⟨d, .move x, ty, pos, af, g⟩ K = K (kq [s.ev x] (s.ev x)) (s.put d (s.ev x)) := by simp only [stepW, qv, rv, xv, zv, Op.operands, List.map_toArray, List.map_cons, List.map_nil, optQ_some, optQ_none, optR_none, optK_none, or_false, false_or]
theorem stepW_assign (x : Operand) : stepW P s ⟨d, .assign x, ty, pos, af, g⟩ K = K (kq [s.ev x] (s.ev x)) (s.put d (s.ev x)) := by simp only [stepW, qv, rv, xv, zv, Op.operands, List.map_toArray, List.map_cons, List.map_nil, optQ_some, optQ_none, optR_none, optK_none, or_false, false_or]
theorem stepW_binOp (op : BinOp) (t t2 : TypeId) (x y : Operand) : stepW P s ⟨d, .binOp op t x y t2, ty, pos, af, g⟩ K = optQ (binV P op t (s.ev x) (s.ev y)) s d [s.ev x, s.ev y] K := by simp only [stepW, qv, rv, xv, zv, Op.operands, List.map_toArray, List.map_cons, List.map_nil, optQ_some, optQ_none, optR_none, optK_none, or_false, false_or]
theorem stepW_unOp (op : UnOp) (t : TypeId) (x : Operand) : stepW P s ⟨d, .unOp op t x, ty, pos, af, g⟩ K = optQ (unV op (s.ev x)) s d [s.ev x] K := by simp only [stepW, qv, rv, xv, zv, Op.operands, List.map_toArray, List.map_cons, List.map_nil, optQ_some, optQ_none, optR_none, optK_none, or_false, false_or]
theorem stepW_extract (x : Operand) (i : Nat) : stepW P s ⟨d, .extract x i, ty, pos, af, g⟩ K = optQ (exV (s.ev x) i) s d [s.ev x] K := by simp only [stepW, qv, rv, xv, zv, Op.operands, List.map_toArray, List.map_cons, List.map_nil, optQ_some, optQ_none, optR_none, optK_none, or_false, false_or]
theorem stepW_field (t : TypeId) (x : Operand) (f : Nat) : stepW P s ⟨d, .field t x f, ty, pos, af, g⟩ K = optQ (fieldV P t (s.ev x) f) s d [s.ev x] K := by simp only [stepW, qv, rv, xv, zv, Op.operands, List.map_toArray, List.map_cons, List.map_nil, optQ_some, optQ_none, optR_none, optK_none, or_false, false_or]
theorem stepW_index (t : TypeId) (x i : Operand) : stepW P s ⟨d, .index t x i, ty, pos, af, g⟩ K = optQ (ixV P t (s.ev x) (s.ev i)) s d [s.ev x, s.ev i] K := by simp only [stepW, qv, rv, xv, zv, Op.operands, List.map_toArray, List.map_cons, List.map_nil, optQ_some, optQ_none, optR_none, optK_none, or_false, false_or]
theorem stepW_indexAddr (t : TypeId) (x i : Operand) : stepW P s ⟨d, .indexAddr t x i, ty, pos, af, g⟩ K = optQ (iaV P t (s.ev x) (s.ev i)) s d [s.ev x, s.ev i] K := by simp only [stepW, qv, rv, xv, zv, Op.operands, List.map_toArray, List.map_cons, List.map_nil, optQ_some, optQ_none, optR_none, optK_none, or_false, false_or]
theorem stepW_fieldAddr (t : TypeId) (x : Operand) (f : Nat) : stepW P s ⟨d, .fieldAddr t x f, ty, pos, af, g⟩ K = optQ (faV P t (s.ev x) f) s d [s.ev x] K := by simp only [stepW, qv, rv, xv, zv, Op.operands, List.map_toArray, List.map_cons, List.map_nil, optQ_some, optQ_none, optR_none, optK_none, or_false, false_or]
theorem stepW_makeFunc (f : FuncId) (fs cs : Array Operand) : stepW P s ⟨d, .makeFunc (.func f) fs cs, ty, pos, af, g⟩ K = K (kq (fs.toList.map s.ev ++ cs.toList.map s.ev) (.fn f (fs.toList.map s.ev) (cs.toList.map s.ev))) (s.put d (.fn f (fs.toList.map s.ev) (cs.toList.map s.ev))) := by simp only [stepW, qv, rv, xv, zv, Op.operands, Array.toList_append, List.map_append, List.map_toArray, List.map_cons, List.map_nil, optQ_some, optQ_none, optR_none, optK_none, or_false, false_or]
theorem stepW_build (t : TypeId) (parts : Array (Nat × Operand)) : stepW P s ⟨d, .build t parts, ty, pos, af, g⟩ K = optQ (buildV P t (parts.toList.map fun p => (p.1, s.ev p.2))) s d ((parts.toList.map fun p => p.2).map s.ev) K := by simp only [stepW, qv, rv, xv, zv, Op.operands, Array.toList_map, List.map_toArray, List.map_cons, List.map_nil, optQ_some, optQ_none, optR_none, optK_none, or_false, false_or]
theorem stepW_alloc (e : TypeId) : stepW P s ⟨d, .alloc e, ty, pos, af, g⟩ K = optK (allocV P s e) d .x K := by simp only [stepW, qv, rv, xv, zv, Op.operands, List.map_toArray, List.map_cons, List.map_nil, optQ_some, optQ_none, optR_none, optK_none, or_false, false_or]
theorem stepW_box (e : TypeId) (x : Operand) : stepW P s ⟨d, .box e x, ty, pos, af, g⟩ K = optK (boxV s (s.ev x)) d .x K := by simp only [stepW, qv, rv, xv, zv, Op.operands, List.map_toArray, List.map_cons, List.map_nil, optQ_some, optQ_none, optR_none, optK_none, or_false, false_or]
theorem stepW_buildSlice (t : TypeId) (n : Nat) (parts : Array (Nat × Operand)) : stepW P s ⟨d, .buildSlice t n parts, ty, pos, af, g⟩ K = optK (buildSliceV P s t n (parts.toList.map fun p => (p.1, s.ev p.2))) d .x K := by simp only [stepW, qv, rv, xv, zv, Op.operands, List.map_toArray, List.map_cons, List.map_nil, optQ_some, optQ_none, optR_none, optK_none, or_false, false_or]
theorem stepW_makeSlice (t : TypeId) (l c : Operand) : stepW P s ⟨d, .makeSlice t l c, ty, pos, af, g⟩ K = optK (makeV P s t (s.ev l) (s.ev c)) d .x K := by simp only [stepW, qv, rv, xv, zv, Op.operands, List.map_toArray, List.map_cons, List.map_nil, optQ_some, optQ_none, optR_none, optK_none, or_false, false_or]

def pickK (s : St) (d : Option Nat) (c x y : V) (K : Kd → St → Prop) : Prop := match c with | .c (.bool b) => K (kq [.c (.bool b), x, y] (pickV b x y)) (s.put d (pickV b x y)) | _ => False
theorem stepW_pick (c x y : Operand) : stepW P s ⟨d, .pick c x y, ty, pos, af, g⟩ K = pickK s d (s.ev c) (s.ev x) (s.ev y) K := by
  simp only [stepW, qv, rv, xv, zv, Op.operands, List.map_cons, List.map_nil, optR_none, optK_none, or_false, pickK]
  generalize s.ev c = v
  cases v with
  | c u => cases u <;> rfl
  | _ => rfl
def convK (P : Program) (s : St) (d : Option Nat) (src dst : TypeId) (x : V) (K : Kd → St → Prop) : Prop :=
  optQ (convV P src dst x) s d [x] K ∨ optK ((strBytes P src dst x).map fun r => (r, s)) d .x K ∨ optK (sameSl P s src dst x) d .z K
theorem stepW_convert (src dst : TypeId) (x : Operand) : stepW P s ⟨d, .convert src dst x, ty, pos, af, g⟩ K = convK P s d src dst (s.ev x) K := by simp only [stepW, qv, rv, xv, zv, Op.operands, List.map_cons, List.map_nil, optR_none, false_or, convK]
def loadK (P : Program) (s : St) (d : Option Nat) (t : TypeId) (x : V) (K : Kd → St → Prop) : Prop :=
  match x with
  | .ref b off => optR (loadB P s t b off) s d K
  | .el tg k xs i off => optQ ((xs[i]?).bind fun y => y.cs.bind fun cs => ldCells P t cs off) s d [.el tg k xs i off] K
  | _ => False
theorem stepW_load (t : TypeId) (x : Operand) : stepW P s ⟨d, .load t x, ty, pos, af, g⟩ K = loadK P s d t (s.ev x) K := by
  simp only [stepW, qv, rv, xv, zv, Op.operands, List.map_cons, List.map_nil, optK_none, or_false, loadK]
  generalize s.ev x = v
  cases v <;> simp only [optQ_none, optR_none, or_false, false_or]
def storeK (P : Program) (s : St) (d : Option Nat) (t : TypeId) (x y : V) (K : Kd → St → Prop) : Prop :=
  match x with
  | .ref b off => optK ((storeB P s t b off y).map fun s' => (.top, s')) d .x K
  | .el (.own id _) k xs i off => optK ((storeE P s t id k xs i off y).map fun s' => (.top, s')) d .x K
  | _ => False
theorem stepW_store (t : TypeId) (x y : Operand) : stepW P s ⟨d, .store t x y, ty, pos, af, g⟩ K = storeK P s d t (s.ev x) (s.ev y) K := by
  simp only [stepW, qv, rv, xv, zv, optQ_none, optR_none, optK_none, or_false, false_or, storeK]
  generalize s.ev x = v
  cases v with
  | el t k xs i off => cases t <;> simp only [optK_none, or_false, false_or]
  | _ => simp only [optK_none, or_false, false_or]
def sliceK (P : Program) (s : St) (d : Option Nat) (t : TypeId) (x : V) (lo hi : Option V) (l : List V) (K : Kd → St → Prop) : Prop :=
  match x with
  | .sl (.own id _) k xs => if lo.all isC && hi.all isC then optK (sliceOwn P s t id k xs lo hi) d .z K else False
  | x => optQ (slV P t x lo hi) s d l K
def opsS (s : St) (x : Operand) (lo hi : Option Operand) : List V := s.ev x :: ((lo.toList ++ hi.toList).map s.ev)
theorem stepW_slice (t : TypeId) (x : Operand) (lo hi : Option Operand) : stepW P s ⟨d, .slice t x lo hi none, ty, pos, af, g⟩ K = sliceK P s d t (s.ev x) (lo.map s.ev) (hi.map s.ev) (opsS s x lo hi) K := by
  have e : (Op.slice t x lo hi none).operands.toList.map s.ev = opsS s x lo hi := by cases lo <;> cases hi <;> rfl
  simp only [stepW, qv, rv, xv, zv, optR_none, optK_none, false_or, sliceK, e]
  generalize s.ev x = v
  cases v with
  | sl tg k xs =>
    cases tg with
    | fz => simp only [optK_none, or_false]
    | own id e =>
      simp only [slV, optQ_none, false_or]
      split <;> simp only [optK_none]
  | _ => simp only [optK_none, or_false]
theorem stepW_len (x : Operand) (t : TypeId) : stepW P s ⟨d, .call { callee := .builtin .len, args := #[x], argTypes := #[t] }, ty, pos, af, g⟩ K = optQ (lenV P t (s.ev x)) s d [s.ev x] K := by
  have e : (Op.call { callee := .builtin .len, args := #[x], argTypes := #[t] }).operands.toList.map s.ev = [s.ev x] := rfl
  simp only [stepW, qv, rv, xv, zv, e, optQ_none, optR_none, optK_none, or_false]
theorem stepW_max (x y : Operand) (ts : Array TypeId) : stepW P s ⟨d, .call { callee := .builtin .max, args := #[x, y], argTypes := ts }, ty, pos, af, g⟩ K = optQ (minmaxV true (s.ev x) (s.ev y)) s d [s.ev x, s.ev y] K := by
  have e : (Op.call { callee := .builtin .max, args := #[x, y], argTypes := ts }).operands.toList.map s.ev = [s.ev x, s.ev y] := rfl
  simp only [stepW, qv, rv, xv, zv, e, optQ_none, optR_none, optK_none, or_false]
theorem stepW_min (x y : Operand) (ts : Array TypeId) : stepW P s ⟨d, .call { callee := .builtin .min, args := #[x, y], argTypes := ts }, ty, pos, af, g⟩ K = optQ (minmaxV false (s.ev x) (s.ev y)) s d [s.ev x, s.ev y] K := by
  have e : (Op.call { callee := .builtin .min, args := #[x, y], argTypes := ts }).operands.toList.map s.ev = [s.ev x, s.ev y] := rfl
  simp only [stepW, qv, rv, xv, zv, e, optQ_none, optR_none, optK_none, or_false]
theorem stepW_append (x y : Operand) (t t2 : TypeId) : stepW P s ⟨d, .call { callee := .builtin .append, args := #[x, y], argTypes := #[t, t2] }, ty, pos, af, g⟩ K = optK (appendV P s t t2 (s.ev x) (s.ev y)) d .x K := by simp only [stepW, qv, rv, xv, zv, Op.operands, List.map_toArray, List.map_cons, List.map_nil, optQ_some, optQ_none, optR_none, optK_none, or_false, false_or]
def nilK (s : St) (d : Option Nat) (x : V) (K : Kd → St → Prop) : Prop := match x with | .ref b o => K (kq [.ref b o] (.ref b o)) (s.put d (.ref b o)) | .el t k xs i o => K (kq [.el t k xs i o] (.el t k xs i o)) (s.put d (.el t k xs i o)) | .fn f a b => K (kq [.fn f a b] (.fn f a b)) (s.put d (.fn f a b)) | _ => False
theorem stepW_nilCheck (x : Operand) : stepW P s ⟨d, .nilCheck x, ty, pos, af, g⟩ K = nilK s d (s.ev x) K := by
  simp only [stepW, qv, rv, xv, zv, Op.operands, List.map_cons, List.map_nil, optR_none, optK_none, or_false, nilK]
  generalize s.ev x = v
  cases v <;> rfl
theorem stepW_call (f : Operand) (args : Array Operand) (ts : Array TypeId) : stepW P s ⟨d, .call { callee := .value f, args := args, argTypes := ts }, ty, pos, af, g⟩ K = callW P (s.ev f) args.toList d s K := rfl

end

/-! ### Code: what follows is kept behind names, so that nothing is reckoned before its turn -/
section
variable (D : Program → Array Oper → (St → Prop) → St → Prop) (P : Program)

/-- What follows a piece of code. -/
def thenC (y : Code) (Q : Exit → St → Prop) : Exit → St → Prop := thenQ (fun s' => wpS D P y Q s') Q
/-- What follows an operation of a region. -/
def nextC (dsts : List (Option Nat)) (Q : Exit → St → Prop) (rest : List Oper) (_ : Kd) : St → Prop := wpL P dsts (Q .normal) rest
def regC (dsts : List (Option Nat)) (Q : Exit → St → Prop) (ops : List Oper) (s : St) : Prop := wpL P dsts (Q .normal) ops s
def condC (v : V) (x y : Code) (Q : Exit → St → Prop) (s : St) : Prop := condK v (wpS D P x Q s) (wpS D P y Q s)
def loopC (x : Code) (Q : Exit → St → Prop) (s : St) : Prop := LoopW (fun Q s => wpS D P x Q s) Q s
def guardC (v : Option V) (want : Bool) (dsts : List (Option Nat)) (Q : Exit → St → Prop) (o : Oper) (rest : List Oper) (s : St) : Prop :=
  match v with | some (.c (.bool b)) => if b = want then stepW P s o (nextC P dsts Q rest) else wpL P dsts (Q .normal) rest (s.put o.dst .top) | _ => False

/-- The same, in a region that draws its order. -/
def drwC (dsts : List (Option Nat)) (ops : List Oper) (Q : Exit → St → Prop) (rest : List Oper) (ks : List Kd) (s : St) : Prop := wpDgo P dsts ops (Q .normal) rest ks s
def drwN (dsts : List (Option Nat)) (ops : List Oper) (Q : Exit → St → Prop) (rest : List Oper) (ks : List Kd) (κ : Kd) (s : St) : Prop := wpDgo P dsts ops (Q .normal) rest (κ :: ks) s
def drwG (v : Option V) (want : Bool) (dsts : List (Option Nat)) (ops : List Oper) (Q : Exit → St → Prop) (o : Oper) (rest : List Oper) (ks : List Kd) (s : St) : Prop :=
  match v with | some (.c (.bool b)) => if b = want then stepW P s o (drwN P dsts ops Q rest ks) else wpDgo P dsts ops (Q .normal) rest (.p :: ks) (s.put o.dst .top) | _ => False
theorem wpS_skip (Q : Exit → St → Prop) (s : St) : wpS D P .skip Q s = Q .normal s := rfl
theorem wpS_ret (Q : Exit → St → Prop) (s : St) : wpS D P .ret Q s = Q .ret s := rfl
theorem wpS_exit (id : Nat) (Q : Exit → St → Prop) (s : St) : wpS D P (.exit id) Q s = Q (.exit id) s := rfl
theorem wpS_label (l : Nat) (Q : Exit → St → Prop) (s : St) : wpS D P (.label l) Q s = Q .normal s := rfl
theorem wpS_seq (x y : Code) (Q : Exit → St → Prop) (s : St) : wpS D P (.seq x y) Q s = wpS D P x (thenC D P y Q) s := rfl
theorem wpS_cond (c : Operand) (x y : Code) (Q : Exit → St → Prop) (s : St) : wpS D P (.cond c x y) Q s = condC D P (s.ev c) x y Q s := rfl
theorem wpS_block (id : Nat) (x : Code) (Q : Exit → St → Prop) (s : St) : wpS D P (.block id x) Q s = wpS D P x (inB id Q) s := rfl
theorem wpS_loop (x : Code) (Q : Exit → St → Prop) (s : St) : wpS D P (.loop x) Q s = loopC D P x Q s := rfl
theorem wpS_region (id : Nat) (l : List Oper) (Q : Exit → St → Prop) (s : St) : wpS D P (.region id l.toArray false) Q s = regC P (l.map (·.dst)) Q l s := by
  simp only [wpS, regC, Bool.false_eq_true, if_false]
theorem wpS_draw (id : Nat) (l : List Oper) (Q : Exit → St → Prop) (s : St) : wpS drawW P (.region id l.toArray true) Q s = drwC P (l.map (·.dst)) l Q l [] s := by
  simp only [wpS, if_true, drwC, drawW]

theorem thenC_normal (y : Code) (Q : Exit → St → Prop) (s : St) : thenC D P y Q .normal s = wpS D P y Q s := rfl
theorem thenC_ret (y : Code) (Q : Exit → St → Prop) (s : St) : thenC D P y Q .ret s = Q .ret s := rfl
theorem thenC_exit (id : Nat) (y : Code) (Q : Exit → St → Prop) (s : St) : thenC D P y Q (.exit id) s = Q (.exit id) s := rfl
theorem inB_normal (id : Nat) (Q : Exit → St → Prop) (s : St) : inB id Q .normal s = Q .normal s := rfl
theorem inB_ret (id : Nat) (Q : Exit → St → Prop) (s : St) : inB id Q .ret s = Q .ret s := rfl
theorem inB_exit (id id' : Nat) (Q : Exit → St → Prop) (s : St) : inB id Q (.exit id') s = if id' = id then Q .normal s else Q (.exit id') s := rfl
theorem thenQ_normal (k : St → Prop) (Q : Exit → St → Prop) (s : St) : thenQ k Q .normal s = k s := rfl
theorem thenQ_ret (k : St → Prop) (Q : Exit → St → Prop) (s : St) : thenQ k Q .ret s = Q .ret s := rfl
theorem thenQ_exit (id : Nat) (k : St → Prop) (Q : Exit → St → Prop) (s : St) : thenQ k Q (.exit id) s = Q (.exit id) s := rfl
theorem condC_true (x y : Code) (Q : Exit → St → Prop) (s : St) : condC D P (.c (.bool true)) x y Q s = wpS D P x Q s := by simp [condC, condK]
theorem condC_false (x y : Code) (Q : Exit → St → Prop) (s : St) : condC D P (.c (.bool false)) x y Q s = wpS D P y Q s := by simp [condC, condK]
/-- A test that is not decided yet. -/
theorem condC_split {b : Bool} {x y : Code} {Q : Exit → St → Prop} {s : St} (ht : b = true → wpS D P x Q s) (hf : b = false → wpS D P y Q s) : condC D P (.c (.bool b)) x y Q s := by
  cases b
  · rw [condC_false]; exact hf rfl
  · rw [condC_true]; exact ht rfl

theorem regC_nil (dsts : List (Option Nat)) (Q : Exit → St → Prop) (s : St) : regC P dsts Q [] s = Q .normal s := rfl
theorem regC_plain (dsts : List (Option Nat)) (Q : Exit → St → Prop) (s : St) (d : Option Nat) (op : Op) (ty : TypeId) (pos : String) (af : Array Edge) (rest : List Oper) :
    regC P dsts Q (⟨d, op, ty, pos, af, none⟩ :: rest) s = stepW P s ⟨d, op, ty, "", #[], none⟩ (nextC P dsts Q rest) := by
  simp only [regC, wpL]
  rfl
theorem regC_guard (dsts : List (Option Nat)) (Q : Exit → St → Prop) (s : St) (d : Option Nat) (op : Op) (ty : TypeId) (pos : String) (af : Array Edge) (j : Nat) (want : Bool) (rest : List Oper) :
    regC P dsts Q (⟨d, op, ty, pos, af, some (j, want)⟩ :: rest) s = guardC P (guardV s dsts j) want dsts Q ⟨d, op, ty, "", #[], none⟩ rest s := by
  simp only [regC, wpL, guardC]
  rfl
theorem nextC_at (dsts : List (Option Nat)) (Q : Exit → St → Prop) (rest : List Oper) (κ : Kd) (s : St) : nextC P dsts Q rest κ s = regC P dsts Q rest s := rfl
theorem guardC_hit (b : Bool) (dsts : List (Option Nat)) (Q : Exit → St → Prop) (o : Oper) (rest : List Oper) (s : St) : guardC P (some (.c (.bool b))) b dsts Q o rest s = stepW P s o (nextC P dsts Q rest) := by simp [guardC]
theorem guardC_tf (dsts : List (Option Nat)) (Q : Exit → St → Prop) (o : Oper) (rest : List Oper) (s : St) : guardC P (some (.c (.bool true))) false dsts Q o rest s = regC P dsts Q rest (s.put o.dst .top) := by simp [guardC, regC]
theorem guardC_ft (dsts : List (Option Nat)) (Q : Exit → St → Prop) (o : Oper) (rest : List Oper) (s : St) : guardC P (some (.c (.bool false))) true dsts Q o rest s = regC P dsts Q rest (s.put o.dst .top) := by simp [guardC, regC]
theorem drwC_nil (dsts : List (Option Nat)) (ops : List Oper) (Q : Exit → St → Prop) (ks : List Kd) (s : St) : drwC P dsts ops Q [] ks s = (chkD ops ks.reverse = true ∧ Q .normal s) := rfl
theorem drwC_plain (dsts : List (Option Nat)) (ops : List Oper) (Q : Exit → St → Prop) (ks : List Kd) (s : St) (d : Option Nat) (op : Op) (ty : TypeId) (pos : String) (af : Array Edge) (rest : List Oper) :
    drwC P dsts ops Q (⟨d, op, ty, pos, af, none⟩ :: rest) ks s = stepW P s ⟨d, op, ty, "", #[], none⟩ (drwN P dsts ops Q rest ks) := by
  simp only [drwC, wpDgo]
  rfl
theorem drwC_guard (dsts : List (Option Nat)) (ops : List Oper) (Q : Exit → St → Prop) (ks : List Kd) (s : St) (d : Option Nat) (op : Op) (ty : TypeId) (pos : String) (af : Array Edge) (j : Nat) (want : Bool) (rest : List Oper) :
    drwC P dsts ops Q (⟨d, op, ty, pos, af, some (j, want)⟩ :: rest) ks s = drwG P (guardV s dsts j) want dsts ops Q ⟨d, op, ty, "", #[], none⟩ rest ks s := by
  simp only [drwC, wpDgo, drwG]
  rfl
theorem drwN_at (dsts : List (Option Nat)) (ops : List Oper) (Q : Exit → St → Prop) (rest : List Oper) (ks : List Kd) (κ : Kd) (s : St) : drwN P dsts ops Q rest ks κ s = drwC P dsts ops Q rest (κ :: ks) s := rfl
theorem drwG_hit (b : Bool) (dsts : List (Option Nat)) (ops : List Oper) (Q : Exit → St → Prop) (o : Oper) (rest : List Oper) (ks : List Kd) (s : St) : drwG P (some (.c (.bool b))) b dsts ops Q o rest ks s = stepW P s o (drwN P dsts ops Q rest ks) := by simp [drwG]
theorem drwG_tf (dsts : List (Option Nat)) (ops : List Oper) (Q : Exit → St → Prop) (o : Oper) (rest : List Oper) (ks : List Kd) (s : St) : drwG P (some (.c (.bool true))) false dsts ops Q o rest ks s = drwC P dsts ops Q rest (.p :: ks) (s.put o.dst .top) := by simp [drwG, drwC]
theorem drwG_ft (dsts : List (Option Nat)) (ops : List Oper) (Q : Exit → St → Prop) (o : Oper) (rest : List Oper) (ks : List Kd) (s : St) : drwG P (some (.c (.bool false))) true dsts ops Q o rest ks s = drwC P dsts ops Q rest (.p :: ks) (s.put o.dst .top) := by simp [drwG, drwC]
theorem drwG_split {b want : Bool} {dsts : List (Option Nat)} {ops : List Oper} {Q : Exit → St → Prop} {o : Oper} {rest : List Oper} {ks : List Kd} {s : St} (ht : b = want → stepW P s o (drwN P dsts ops Q rest ks)) (hf : b = !want → drwC P dsts ops Q rest (.p :: ks) (s.put o.dst .top)) :
    drwG P (some (.c (.bool b))) want dsts ops Q o rest ks s := by
  simp only [drwG]
  split
  · exact ht ‹_›
  · exact hf (by cases b <;> cases want <;> simp_all)
theorem guardC_split {b want : Bool} {dsts : List (Option Nat)} {Q : Exit → St → Prop} {o : Oper} {rest : List Oper} {s : St} (ht : b = want → stepW P s o (nextC P dsts Q rest)) (hf : b = !want → regC P dsts Q rest (s.put o.dst .top)) :
    guardC P (some (.c (.bool b))) want dsts Q o rest s := by
  simp only [guardC]
  split
  · exact ht ‹_›
  · exact hf (by cases b <;> cases want <;> simp_all)
theorem guardV_at (e : Nat → V) (b : Nat → Option (List V)) (n : Nat) (dsts : List (Option Nat)) (j : Nat) : guardV ⟨e, b, n⟩ dsts j = match dsts[j]? with | some (some d) => some (e d) | _ => none := rfl
end

/-! ### Numbers and truth values -/
section
variable (P : Program) (t : TypeId) (k : IntKind) (a b : Int)
theorem binV_add : binV P .add t (.c (.int k a)) (.c (.int k b)) = some (.c (.int k (k.wrap (a + b)))) := by simp [binV, binI]
theorem binV_sub : binV P .sub t (.c (.int k a)) (.c (.int k b)) = some (.c (.int k (k.wrap (a - b)))) := by simp [binV, binI]
theorem binV_mul : binV P .mul t (.c (.int k a)) (.c (.int k b)) = some (.c (.int k (k.wrap (a * b)))) := by simp [binV, binI]
theorem binV_quo : binV P .quo t (.c (.int k a)) (.c (.int k b)) = if b = 0 then none else some (.c (.int k (k.wrap (a.tdiv b)))) := by simp [binV, binI]; split <;> rfl
theorem binV_rem : binV P .rem t (.c (.int k a)) (.c (.int k b)) = if b = 0 then none else some (.c (.int k (a.tmod b))) := by simp [binV, binI]; split <;> rfl
theorem binV_and : binV P .and t (.c (.int k a)) (.c (.int k b)) = some (.c (.int k (bits .and k a b))) := by simp [binV, binI]
theorem binV_or : binV P .or t (.c (.int k a)) (.c (.int k b)) = some (.c (.int k (bits .or k a b))) := by simp [binV, binI]
theorem binV_xor : binV P .xor t (.c (.int k a)) (.c (.int k b)) = some (.c (.int k (bits .xor k a b))) := by simp [binV, binI]
theorem binV_andNot : binV P .andNot t (.c (.int k a)) (.c (.int k b)) = some (.c (.int k (bits .andNot k a b))) := by simp [binV, binI]
theorem binV_eql : binV P .eql t (.c (.int k a)) (.c (.int k b)) = some (.c (.bool (a == b))) := by simp [binV, binI]
theorem binV_neq : binV P .neq t (.c (.int k a)) (.c (.int k b)) = some (.c (.bool (a != b))) := by simp [binV, binI]
theorem binV_lss : binV P .lss t (.c (.int k a)) (.c (.int k b)) = some (.c (.bool (decide (a < b)))) := by simp [binV, binI]
theorem binV_leq : binV P .leq t (.c (.int k a)) (.c (.int k b)) = some (.c (.bool (decide (a ≤ b)))) := by simp [binV, binI]
theorem binV_gtr : binV P .gtr t (.c (.int k a)) (.c (.int k b)) = some (.c (.bool (decide (b < a)))) := by simp [binV, binI]
theorem binV_geq : binV P .geq t (.c (.int k a)) (.c (.int k b)) = some (.c (.bool (decide (b ≤ a)))) := by simp [binV, binI]
theorem binV_shl (k2 : IntKind) : binV P .shl t (.c (.int k a)) (.c (.int k2 b)) = if b < 0 then none else some (.c (.int k (k.wrap (a * 2 ^ min b.toNat k.bits)))) := rfl
theorem binV_shr (k2 : IntKind) : binV P .shr t (.c (.int k a)) (.c (.int k2 b)) = if b < 0 then none else some (.c (.int k (a.fdiv (2 ^ min b.toNat k.bits)))) := rfl
theorem binV_beq (x y : Bool) : binV P .eql t (.c (.bool x)) (.c (.bool y)) = if isBoolT P t = true then some (.c (.bool (x == y))) else none := rfl
theorem binV_bne (x y : Bool) : binV P .neq t (.c (.bool x)) (.c (.bool y)) = if isBoolT P t = true then some (.c (.bool (!(x == y)))) else none := rfl
theorem binV_seq (x y : ByteArray) : binV P .eql t (.c (.string x)) (.c (.string y)) = some (.c (.bool (decide (x = y)))) := rfl
theorem binV_sne (x y : ByteArray) : binV P .neq t (.c (.string x)) (.c (.string y)) = some (.c (.bool (!decide (x = y)))) := rfl
theorem binV_sadd (x y : ByteArray) : binV P .add t (.c (.string x)) (.c (.string y)) = if x.size + y.size ≤ 9223372036854775807 then some (.c (.string (x ++ y))) else none := by
  simp only [binV, strV]; split <;> rfl
theorem binV_slss (x y : ByteArray) : binV P .lss t (.c (.string x)) (.c (.string y)) = some (.c (.bool (Op.bytesLess x.toList y.toList))) := rfl
theorem binV_sleq (x y : ByteArray) : binV P .leq t (.c (.string x)) (.c (.string y)) = some (.c (.bool (Op.bytesLess x.toList y.toList || decide (x = y)))) := rfl
theorem binV_sgtr (x y : ByteArray) : binV P .gtr t (.c (.string x)) (.c (.string y)) = some (.c (.bool (!(Op.bytesLess x.toList y.toList || decide (x = y))))) := rfl
theorem binV_sgeq (x y : ByteArray) : binV P .geq t (.c (.string x)) (.c (.string y)) = some (.c (.bool (!Op.bytesLess x.toList y.toList))) := rfl
theorem pickV_bools (c x y : Bool) : pickV c (.c (.bool x)) (.c (.bool y)) = .c (.bool (bif c then x else y)) := rfl
theorem pickV_true (x y : V) : pickV true x y = x := by unfold pickV; split <;> rfl
theorem pickV_false (x y : V) : pickV false x y = y := by unfold pickV; split <;> rfl
theorem pickK_at (s : St) (d : Option Nat) (c : Bool) (x y : V) (K : Kd → St → Prop) : pickK s d (.c (.bool c)) x y K = K (kq [.c (.bool c), x, y] (pickV c x y)) (s.put d (pickV c x y)) := rfl
end
end Go.Pg
