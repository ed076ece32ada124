/-
  The pure layer: states of a call, how the model's state follows one, and the operations that only compute.
-/
import Derived.Test.YtkgebocldjhflaaPgCore
import Derived.WalkSpells
import Derived.WalkLawsBesides
namespace Go.Pg
open Go

structure St where
  env : Nat → V
  bx : Nat → Option (List V)
  nid : Nat

def upd {α : Type} (f : Nat → α) (d : Nat) (v : α) : Nat → α := fun t => if t = d then v else f t
theorem upd_same {α : Type} (f : Nat → α) (d : Nat) (v : α) : upd f d v d = v := by simp [upd]
theorem upd_ne {α : Type} (f : Nat → α) (d t : Nat) (v : α) (h : t ≠ d) : upd f d v t = f t := by simp [upd, h]
theorem upd_at {α : Type} (f : Nat → α) (d t : Nat) (v : α) : upd f d v t = if t = d then v else f t := rfl

def ofConst : Value → V
  | .agg cs => .agg (cs.toList.map .c)
  | .tuple vs => .tup (vs.toList.map .c)
  | v => .c v

def St.ev (s : St) : Operand → V
  | .tmp t => s.env t
  | .const v => ofConst v
  | .global g => .c (.pointer (some ⟨g, 0, none⟩))
  | .func f => .fn f [] []

def St.put (s : St) (d : Option Nat) (v : V) : St :=
  match d with
  | some d => { s with env := upd s.env d v }
  | none => s

/-- What a call is set in: its temporaries' number; what it may lean on; what it may write of old memory; the world in which it began. -/
structure Cx where
  n : Nat
  A0 : Nat → Prop
  Wr : Nat → Prop
  w0 : World
abbrev Cx.B (C : Cx) : Nat := C.w0.heap.size

structure Wf (C : Cx) (nid : Nat) (L : Lay) (w : World) : Prop where
  nidO : ∀ id g, L.own id = some g → id < nid
  nidB : ∀ b g, L.box b = some g → b < nid
  own : ∀ id g, L.own id = some g → g < w.heap.size ∧ (C.B ≤ g ∨ C.Wr g) ∧ ¬ L.A g
  boxW : ∀ b g, L.box b = some g → g < w.heap.size ∧ (C.B ≤ g ∨ C.Wr g) ∧ ¬ L.A g
  injO : ∀ i j g, L.own i = some g → L.own j = some g → i = j
  injB : ∀ i j g, L.box i = some g → L.box j = some g → i = j
  dis : ∀ i j g, L.own i = some g → L.box j = some g → False
  old : ∀ g, L.A g → g < w.heap.size
  frz : ∀ g, L.A g → C.A0 g ∨ C.B ≤ g ∨ C.Wr g

def BoxOk (L : Lay) (w : World) (b : Nat) (cs : List V) : Prop :=
  ∃ g arr e, L.box b = some g ∧ w.heap[g]? = some (.cells arr e (0, 0)) ∧ Reps L w cs arr.toList

structure Sim (C : Cx) (s : St) (L : Lay) (a : Act) (w : World) : Prop where
  defers : a.defers = []
  size : a.tmps.size = C.n
  env : ∀ t, Rep L w (s.env t) (a.tmps.getD t undef)
  box : ∀ b cs, s.bx b = some cs → BoxOk L w b cs
  wf : Wf C s.nid L w
  kp : Kp C.Wr C.B C.w0 w

theorem reps_c (L : Lay) (w : World) (l : List Value) : Reps L w (l.map .c) l := by
  induction l with
  | nil => rfl
  | cons x xs ih => exact ⟨x, xs, rfl, rfl, ih⟩

theorem rep_ofConst (L : Lay) (w : World) (v : Value) : Rep L w (ofConst v) v := by
  cases v <;> first | rfl | exact ⟨_, rfl, reps_c L w _⟩

section
variable {C : Cx} {s : St} {L : Lay} {a : Act} {w : World}

theorem Sim.ev (S : Sim C s L a w) (x : Operand) : Rep L w (s.ev x) (a.eval x) := by
  cases x with
  | tmp t => exact S.env t
  | const v => exact rep_ofConst L w v
  | global g => rfl
  | func f => exact ⟨#[], #[], rfl, rfl, rfl⟩

theorem Sim.put (S : Sim C s L a w) {v : V} {u : Value} (h : Rep L w v u) {d : Option Nat} (hd : ∀ t, d = some t → t < C.n) : Sim C (s.put d v) L (a.put d u) w := by
  cases d with
  | none => exact S
  | some d =>
    have hd := hd d rfl
    refine ⟨S.defers, by simp [Act.put, S.size], fun t => ?_, S.box, S.wf, S.kp⟩
    simp only [St.put, Act.put, upd]
    by_cases ht : t = d
    · subst ht
      have : t < a.tmps.size := by rw [S.size]; exact hd
      simp [Array.getD, this, h]
    · have := S.env t
      rw [if_neg ht]
      simpa [Array.getD_eq_getD_getElem?, Array.getElem?_setIfInBounds, Ne.symm ht] using this

theorem Sim.putTop (S : Sim C s L a w) (u : Value) {d : Option Nat} (hd : ∀ t, d = some t → t < C.n) : Sim C (s.put d .top) L (a.put d u) w := S.put (v := .top) trivial hd
end

/-! ### The types' facts that the operations ask -/
def tsz (P : Program) (t : TypeId) : Option Nat := (P.info? t).map (·.size)
def tzero (P : Program) (t : TypeId) : Option Value := (P.info? t).bind (·.zero)
def isAggT (P : Program) (t : TypeId) : Option Bool := (P.underlying t).map fun | .struct _ => true | .array _ _ => true | _ => false
def elemT (P : Program) (t : TypeId) : Option TypeId := match P.underlying t with | some (.slice e) => some e | _ => none
def fieldT (P : Program) (t : TypeId) (f : Nat) : Option (TypeId × Nat) := match P.underlying t with | some (.struct fs) => (fs[f]?).map fun x => (x.type, x.offset) | _ => none
def arrayT (P : Program) (t : TypeId) : Option (Nat × TypeId) := match P.underlying t with | some (.array n e) => some (n, e) | _ => none
def isStr (P : Program) (t : TypeId) : Bool := match P.underlying t with | some .string => true | _ => false
def isBoolT (P : Program) (t : TypeId) : Bool := match P.underlying t with | some .bool => true | _ => false
def intT (P : Program) (t : TypeId) : Option IntKind := match P.underlying t with | some (.int k) => some k | _ => none

section
variable {P : Program} {t : TypeId}
theorem tsz_info {n : Nat} (h : tsz P t = some n) : ∃ i, P.info? t = some i ∧ i.size = n := by simpa [tsz] using h
theorem tzero_info {v : Value} (h : tzero P t = some v) : ∃ i, P.info? t = some i ∧ i.zero = some v := by simpa [tzero, Option.bind_eq_some_iff] using h
theorem elemT_und {e : TypeId} (h : elemT P t = some e) : P.underlying t = some (.slice e) := by
  unfold elemT at h; split at h <;> simp_all
theorem arrayT_und {n : Nat} {e : TypeId} (h : arrayT P t = some (n, e)) : P.underlying t = some (.array n e) := by
  unfold arrayT at h; split at h <;> simp_all
theorem isStr_und (h : isStr P t = true) : P.underlying t = some .string := by
  unfold isStr at h; split at h <;> simp_all
theorem isBoolT_und (h : isBoolT P t = true) : P.underlying t = some .bool := by
  unfold isBoolT at h; split at h <;> simp_all
theorem intT_und {k : IntKind} (h : intT P t = some k) : P.underlying t = some (.int k) := by
  unfold intT at h; split at h <;> simp_all
theorem fieldT_und {f n : Nat} {ft : TypeId} (h : fieldT P t f = some (ft, n)) : ∃ fs fd, P.underlying t = some (.struct fs) ∧ fs[f]? = some fd ∧ fd.type = ft ∧ fd.offset = n := by
  unfold fieldT at h
  split at h
  · rename_i fs hu
    simp only [Option.map_eq_some_iff, Prod.mk.injEq] at h
    obtain ⟨fd, h1, h2, h3⟩ := h
    exact ⟨fs, fd, hu, h1, h2, h3⟩
  · cases h
theorem run_tsz {n : Nat} (h : tsz P t = some n) (w : World) : (sizeOf t).run P w = .ok n w := by
  obtain ⟨i, h1, h2⟩ := tsz_info h
  simp [sizeOf, typeInfo, h1, h2]
theorem run_tzero {v : Value} (h : tzero P t = some v) (w : World) : (zeroValue t).run P w = .ok v w := by
  obtain ⟨i, h1, h2⟩ := tzero_info h
  simp [zeroValue, typeInfo, h1, h2]
theorem run_isAgg {b : Bool} (h : isAggT P t = some b) (w : World) : (isAgg t).run P w = .ok b w := by
  simp only [isAggT, Option.map_eq_some_iff] at h
  obtain ⟨d, h1, h2⟩ := h
  cases d <;> simp_all [isAgg, run_underlying h1]
end

/-- A value's cells. -/
def V.cs : V → Option (List V)
  | .agg l => some l
  | .top => none
  | .c v => some (v.cells.toList.map .c)
  | .sl t k xs => some [.sl t k xs]
  | .tup vs => some [.tup vs]
  | .ref b o => some [.ref b o]
  | .el t k xs i o => some [.el t k xs i o]
  | .fn f a b => some [.fn f a b]

theorem rep_cs {L : Lay} {w : World} {v : V} {u : Value} {l : List V} (h : Rep L w v u) (hc : v.cs = some l) : Reps L w l u.cells.toList := by
  cases v <;> simp only [V.cs, Option.some.injEq, reduceCtorEq] at hc
  case c x => subst hc; simp only [Rep] at h; subst h; exact reps_c L w _
  case agg cs => subst hc; obtain ⟨a, rfl, h⟩ := h; exact h
  all_goals
    subst hc
    have hu : u.cells.toList = [u] := by
      first
        | (obtain ⟨_, _, _, rfl, _⟩ := h; rfl)
        | (obtain ⟨_, rfl, _⟩ := h; rfl)
        | (obtain ⟨_, _, rfl, _⟩ := h; rfl)
        | (obtain ⟨_, _, _, h1, _⟩ := h; subst h1; rfl)
    rw [hu]
    exact ⟨u, [], rfl, h, rfl⟩

/-! ### Numbers, strings, truth values -/
def binI (op : BinOp) (k : IntKind) (a b : Int) : Option Value :=
  match op with
  | .add => some (.int k (k.wrap (a + b)))
  | .sub => some (.int k (k.wrap (a - b)))
  | .mul => some (.int k (k.wrap (a * b)))
  | .quo => if b = 0 then none else some (.int k (k.wrap (a.tdiv b)))
  | .rem => if b = 0 then none else some (.int k (a.tmod b))
  | .and => some (.int k (bits .and k a b))
  | .or => some (.int k (bits .or k a b))
  | .xor => some (.int k (bits .xor k a b))
  | .andNot => some (.int k (bits .andNot k a b))
  | .eql => some (.bool (a == b))
  | .neq => some (.bool (a != b))
  | .lss => some (.bool (decide (a < b)))
  | .leq => some (.bool (decide (a ≤ b)))
  | .gtr => some (.bool (decide (a > b)))
  | .geq => some (.bool (decide (a ≥ b)))
  | .shl | .shr => none

def strV (op : BinOp) (a b : ByteArray) : Option Value :=
  match op with
  | .add => if a.size + b.size ≤ 9223372036854775807 then some (.string (a ++ b)) else none
  | .eql => some (.bool (decide (a = b)))
  | .neq => some (.bool (!decide (a = b)))
  | .lss => some (.bool (Op.bytesLess a.toList b.toList))
  | .leq => some (.bool (Op.bytesLess a.toList b.toList || decide (a = b)))
  | .gtr => some (.bool (!(Op.bytesLess a.toList b.toList || decide (a = b))))
  | .geq => some (.bool (!Op.bytesLess a.toList b.toList))
  | _ => none

def isNilSl : V → Option Bool
  | .c (.slice none _ _) => some true
  | .sl _ _ (_ :: _) => some false
  | _ => none

def binV (P : Program) (op : BinOp) (t : TypeId) (x y : V) : Option V :=
  match op, x, y with
  | .shl, .c (.int k a), .c (.int _ b) => if b < 0 then none else some (.c (.int k (k.wrap (a * 2 ^ min b.toNat k.bits))))
  | .shr, .c (.int k a), .c (.int _ b) => if b < 0 then none else some (.c (.int k (a.fdiv (2 ^ min b.toNat k.bits))))
  | op, .c (.int k a), .c (.int k' b) => if k = k' then (binI op k a b).map .c else none
  | op, .c (.string a), .c (.string b) => (strV op a b).map .c
  | .eql, .c (.bool a), .c (.bool b) => if isBoolT P t then some (.c (.bool (a == b))) else none
  | .neq, .c (.bool a), .c (.bool b) => if isBoolT P t then some (.c (.bool (!(a == b)))) else none
  | .eql, x, .c (.slice none 0 0) => if (elemT P t).isSome then (isNilSl x).map fun b => .c (.bool b) else none
  | .neq, x, .c (.slice none 0 0) => if (elemT P t).isSome then (isNilSl x).map fun b => .c (.bool (!b)) else none
  | _, _, _ => none

theorem bytes_eq (a b : ByteArray) : (a.toList == b.toList) = decide (a = b) := by
  rw [Bool.eq_iff_iff]
  simp only [ByteArray.toList_eq, beq_iff_eq, decide_eq_true_eq]
  constructor
  · intro h
    have := Array.ext' h
    cases a; cases b; simp_all
  · intro h; rw [h]

section
variable {P : Program} {L : Lay} {w : World}

theorem isNilSl_rep {x : V} {u : Value} {b : Bool} (h : isNilSl x = some b) (r : Rep L w x u) : ∃ a n c, u = .slice a n c ∧ a.isNone = b := by
  unfold isNilSl at h
  split at h
  · simp only [Rep] at r; subst r; simp at h; exact ⟨_, _, _, rfl, by simp [← h]⟩
  · rename_i t k y ys
    obtain ⟨a, cap, cells, rfl, h2, h3⟩ := r
    simp at h
    refine ⟨_, _, _, rfl, ?_⟩
    cases t with
    | fz =>
      obtain ⟨_, h3⟩ := h3
      simp at h3
      obtain ⟨g, o, rfl, _⟩ := h3
      simp [← h]
    | own id e =>
      rcases h3 with ⟨h3, _⟩ | ⟨g, arr, _, rfl, _⟩
      · simp at h3
      · simp [← h]
  · cases h

theorem binI_run {op : BinOp} {k : IntKind} {a b : Int} {r : Value} (h : binI op k a b = some r) (t : TypeId) : (binOp op t (.int k a) (.int k b)).run P w = .ok r w := by
  cases op <;> simp only [binI, Option.some.injEq, reduceCtorEq, Option.ite_none_left_eq_some] at h
  case quo => obtain ⟨h0, h⟩ := h; subst h; simp [binOp, Op.intDiv, h0]
  case rem => obtain ⟨h0, h⟩ := h; subst h; simp [binOp, Op.intDiv, h0]
  all_goals
    subst h
    simp [binOp, Op.intArith, Op.intCmp, intBits_and, intBits_or, intBits_xor, intBits_andNot]

theorem strV_run {op : BinOp} {a b : ByteArray} {r : Value} (h : strV op a b = some r) (t : TypeId) : (binOp op t (.string a) (.string b)).run P w = .ok r w := by
  cases op <;> simp only [strV, Option.some.injEq, reduceCtorEq, Option.ite_none_right_eq_some] at h
  case add =>
    obtain ⟨h0, h⟩ := h
    subst h
    have : ¬ ((a.size + b.size : Nat) : Int) > IntKind.i64.max := by rw [IntKind.max_i64]; omega
    simp only [binOp, Op.stringOp]
    rw [if_neg this]; rfl
  all_goals
    subst h
    simp [binOp, Op.stringOp, bytes_eq]

theorem eqGuard_ok (op : BinOp) (t : TypeId) (x y : Operand) (u v : Value) (h1 : u ≠ .nilIface) (h2 : ∀ a, u ≠ .agg a) : (eqGuard op t x y u v).run P w = .ok () w := by
  cases u <;> first | exact absurd rfl h1 | exact absurd rfl (h2 _) | (cases op <;> rfl)

theorem run_equalIn_sl (d : Nat) {t e : TypeId} (hu : P.underlying t = some (.slice e)) (a : Option Addr) (n c : Nat) : (Op.equalIn (d + 1) t (.slice a n c) (.slice none 0 0)).run P w = .ok a.isNone w := by
  cases a <;> simp [Op.equalIn, run_underlying hu]
theorem run_equal_sl {t e : TypeId} (hu : P.underlying t = some (.slice e)) (a : Option Addr) (n c : Nat) : (Op.equal t (.slice a n c) (.slice none 0 0)).run P w = .ok a.isNone w := run_equalIn_sl 9999 hu a n c

theorem binV_run {op : BinOp} {t : TypeId} {x y r : V} {ux uy : Value} (h : binV P op t x y = some r) (rx : Rep L w x ux) (ry : Rep L w y uy) (ox oy : Operand) :
    ∃ u, (do eqGuard op t ox oy ux uy; binOp op t ux uy : Sem Value).run P w = .ok u w ∧ Rep L w r u := by
  unfold binV at h
  split at h
  · simp only [Rep] at rx ry; subst rx; subst ry
    simp only [Option.ite_none_left_eq_some, Option.some.injEq] at h
    obtain ⟨h0, rfl⟩ := h
    refine ⟨_, ?_, rfl⟩
    rw [Sem.run_bind, eqGuard_ok _ _ _ _ _ _ (by simp) (by simp)]
    simp [binOp, Op.shift, h0]
  · simp only [Rep] at rx ry; subst rx; subst ry
    simp only [Option.ite_none_left_eq_some, Option.some.injEq] at h
    obtain ⟨h0, rfl⟩ := h
    refine ⟨_, ?_, rfl⟩
    rw [Sem.run_bind, eqGuard_ok _ _ _ _ _ _ (by simp) (by simp)]
    simp [binOp, Op.shift, h0]
  · simp only [Rep] at rx ry; subst rx; subst ry
    simp only [Option.ite_none_right_eq_some, Option.map_eq_some_iff] at h
    obtain ⟨rfl, v, h1, rfl⟩ := h
    exact ⟨v, by rw [Sem.run_bind, eqGuard_ok _ _ _ _ _ _ (by simp) (by simp)]; exact binI_run h1 t, rfl⟩
  · simp only [Rep] at rx ry; subst rx; subst ry
    simp only [Option.map_eq_some_iff] at h
    obtain ⟨v, h1, rfl⟩ := h
    exact ⟨v, by rw [Sem.run_bind, eqGuard_ok _ _ _ _ _ _ (by simp) (by simp)]; exact strV_run h1 t, rfl⟩
  · simp only [Rep] at rx ry; subst rx; subst ry
    simp only [Option.ite_none_right_eq_some, Option.some.injEq] at h
    obtain ⟨h0, rfl⟩ := h
    exact ⟨_, by rw [Sem.run_bind, eqGuard_ok _ _ _ _ _ _ (by simp) (by simp)]; exact run_eql_bool w t _ _ (isBoolT_und h0), rfl⟩
  · simp only [Rep] at rx ry; subst rx; subst ry
    simp only [Option.ite_none_right_eq_some, Option.some.injEq] at h
    obtain ⟨h0, rfl⟩ := h
    exact ⟨_, by rw [Sem.run_bind, eqGuard_ok _ _ _ _ _ _ (by simp) (by simp)]; exact run_neq_bool w t _ _ (isBoolT_und h0), rfl⟩
  · simp only [Rep] at ry; subst ry
    simp only [Option.ite_none_right_eq_some, Option.map_eq_some_iff] at h
    obtain ⟨h0, b, h1, rfl⟩ := h
    obtain ⟨a, n, c, rfl, h2⟩ := isNilSl_rep h1 rx
    obtain ⟨e, he⟩ := Option.isSome_iff_exists.1 h0
    have hu := elemT_und he
    refine ⟨.bool a.isNone, ?_, by rw [h2]; rfl⟩
    rw [Sem.run_bind, eqGuard_ok _ _ _ _ _ _ (by simp) (by simp)]
    simp only [binOp]
    simp [run_equal_sl hu]
  · simp only [Rep] at ry; subst ry
    simp only [Option.ite_none_right_eq_some, Option.map_eq_some_iff] at h
    obtain ⟨h0, b, h1, rfl⟩ := h
    obtain ⟨a, n, c, rfl, h2⟩ := isNilSl_rep h1 rx
    obtain ⟨e, he⟩ := Option.isSome_iff_exists.1 h0
    have hu := elemT_und he
    refine ⟨.bool (!a.isNone), ?_, by rw [h2]; rfl⟩
    rw [Sem.run_bind, eqGuard_ok _ _ _ _ _ _ (by simp) (by simp)]
    simp only [binOp]
    simp [run_equal_sl hu]
  · cases h
end
end Go.Pg
