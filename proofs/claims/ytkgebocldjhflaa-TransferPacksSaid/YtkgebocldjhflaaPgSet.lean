/-
  The pure layer: all the equations by which steps are reckoned, under one name each.
-/
import Derived.Test.YtkgebocldjhflaaPgSimp
import Derived.Handy
import Derived.KernelRfl
namespace Go.Pg
set_option linter.defProp false
open Go
theorem ofConst_int (k : IntKind) (n : Int) : ofConst (.int k n) = .c (.int k n) := rfl
theorem ofConst_bool (b : Bool) : ofConst (.bool b) = .c (.bool b) := rfl
theorem ofConst_string (z : ByteArray) : ofConst (.string z) = .c (.string z) := rfl
theorem ofConst_slice (a : Option Addr) (n c : Nat) : ofConst (.slice a n c) = .c (.slice a n c) := rfl
theorem ofConst_pointer (a : Option Addr) : ofConst (.pointer a) = .c (.pointer a) := rfl
theorem ofConst_agg (l : List Value) : ofConst (.agg l.toArray) = .agg (l.map .c) := by simp [ofConst]
theorem initS_at (l : List V) : initS l = ⟨initE l 0, fun _ => none, 0⟩ := rfl
theorem initE_nil (k : Nat) : initE [] k = fun _ => .top := rfl
theorem initE_cons (x : V) (xs : List V) (k : Nat) : initE (x :: xs) k = upd (initE xs (k + 1)) k x := rfl
theorem cs_c_int (k : IntKind) (n : Int) : V.cs (.c (.int k n)) = some [.c (.int k n)] := rfl
theorem cs_c_bool (b : Bool) : V.cs (.c (.bool b)) = some [.c (.bool b)] := rfl
theorem cs_c_string (z : ByteArray) : V.cs (.c (.string z)) = some [.c (.string z)] := rfl
theorem cs_c_slice (a : Option Addr) (n c : Nat) : V.cs (.c (.slice a n c)) = some [.c (.slice a n c)] := rfl
theorem cs_agg (l : List V) : V.cs (.agg l) = some l := rfl
theorem cs_sl (t : Tag) (k : Nat) (xs : List V) : V.cs (.sl t k xs) = some [.sl t k xs] := rfl
theorem cs_ref (b o : Nat) : V.cs (.ref b o) = some [.ref b o] := rfl
theorem cs_fn (f : FuncId) (x y : List V) : V.cs (.fn f x y) = some [.fn f x y] := rfl
theorem one_c_int (k : IntKind) (n : Int) : V.one (.c (.int k n)) = true := rfl
theorem one_c_bool (b : Bool) : V.one (.c (.bool b)) = true := rfl
theorem one_c_string (z : ByteArray) : V.one (.c (.string z)) = true := rfl
theorem one_c_slice (a : Option Addr) (n c : Nat) : V.one (.c (.slice a n c)) = true := rfl
theorem one_sl (t : Tag) (k : Nat) (xs : List V) : V.one (.sl t k xs) = true := rfl
theorem one_ref (b o : Nat) : V.one (.ref b o) = true := rfl
theorem one_fn (f : FuncId) (x y : List V) : V.one (.fn f x y) = true := rfl
theorem free_c (v : Value) : V.free (.c v) = true := rfl
theorem free_fz (k : Nat) (xs : List V) : V.free (.sl .fz k xs) = true := rfl
theorem free_agg (l : List V) : V.free (.agg l) = !V.anyL Tag.isOwn (fun _ => true) true l := rfl
theorem anyL_nil (p : Tag → Bool) (q : Nat → Bool) (tp : Bool) : V.anyL p q tp [] = false := rfl
theorem anyL_at (p : Tag → Bool) (q : Nat → Bool) (tp : Bool) (x : V) (xs : List V) : V.anyL p q tp (x :: xs) = (V.any p q tp x || V.anyL p q tp xs) := rfl
theorem any_c (p : Tag → Bool) (q : Nat → Bool) (tp : Bool) (v : Value) : V.any p q tp (.c v) = false := rfl
theorem any_sl (p : Tag → Bool) (q : Nat → Bool) (tp : Bool) (t : Tag) (k : Nat) (xs : List V) : V.any p q tp (.sl t k xs) = p t := rfl
theorem any_agg (p : Tag → Bool) (q : Nat → Bool) (tp : Bool) (l : List V) : V.any p q tp (.agg l) = V.anyL p q tp l := rfl
theorem any_tup (p : Tag → Bool) (q : Nat → Bool) (tp : Bool) (l : List V) : V.any p q tp (.tup l) = V.anyL p q tp l := rfl
theorem any_ref (p : Tag → Bool) (q : Nat → Bool) (tp : Bool) (b o : Nat) : V.any p q tp (.ref b o) = q b := rfl
theorem any_el (p : Tag → Bool) (q : Nat → Bool) (tp : Bool) (t : Tag) (k : Nat) (xs : List V) (i o : Nat) : V.any p q tp (.el t k xs i o) = p t := rfl
theorem any_fn (p : Tag → Bool) (q : Nat → Bool) (tp : Bool) (f : FuncId) (x y : List V) : V.any p q tp (.fn f x y) = (V.anyL p q tp x || V.anyL p q tp y) := rfl
theorem any_top (p : Tag → Bool) (q : Nat → Bool) (tp : Bool) : V.any p q tp .top = tp := rfl
theorem mapL_nil (τ : Tag → Tag) (ρ : Nat → Nat) : V.mapL τ ρ [] = [] := rfl
theorem mapL_at (τ : Tag → Tag) (ρ : Nat → Nat) (x : V) (xs : List V) : V.mapL τ ρ (x :: xs) = V.map τ ρ x :: V.mapL τ ρ xs := rfl
theorem map_c (τ : Tag → Tag) (ρ : Nat → Nat) (v : Value) : V.map τ ρ (.c v) = .c v := rfl
theorem map_sl (τ : Tag → Tag) (ρ : Nat → Nat) (t : Tag) (k : Nat) (xs : List V) : V.map τ ρ (.sl t k xs) = .sl (τ t) k xs := rfl
theorem map_agg (τ : Tag → Tag) (ρ : Nat → Nat) (l : List V) : V.map τ ρ (.agg l) = .agg (V.mapL τ ρ l) := rfl
theorem map_tup (τ : Tag → Tag) (ρ : Nat → Nat) (l : List V) : V.map τ ρ (.tup l) = .tup (V.mapL τ ρ l) := rfl
theorem map_ref (τ : Tag → Tag) (ρ : Nat → Nat) (b o : Nat) : V.map τ ρ (.ref b o) = .ref (ρ b) o := rfl
theorem map_el (τ : Tag → Tag) (ρ : Nat → Nat) (t : Tag) (k : Nat) (xs : List V) (i o : Nat) : V.map τ ρ (.el t k xs i o) = .el (τ t) k xs i o := rfl
theorem map_fn (τ : Tag → Tag) (ρ : Nat → Nat) (f : FuncId) (x y : List V) : V.map τ ρ (.fn f x y) = .fn f (V.mapL τ ρ x) (V.mapL τ ρ y) := rfl
theorem map_top (τ : Tag → Tag) (ρ : Nat → Nat) : V.map τ ρ .top = .top := rfl
theorem is_own (i j : Nat) (e : TypeId) : Tag.is i (.own j e) = (j == i) := rfl
theorem is_fz (i : Nat) : Tag.is i .fz = false := rfl
theorem isOwn_own (j : Nat) (e : TypeId) : Tag.isOwn (.own j e) = true := rfl
theorem isOwn_fz : Tag.isOwn .fz = false := rfl
theorem notIn_own (l : List Nat) (i : Nat) (e : TypeId) : Tag.notIn l (.own i e) = !l.contains i := rfl
theorem notIn_fz (l : List Nat) : Tag.notIn l .fz = false := rfl
theorem renT_own (l : List Nat) (i : Nat) (e : TypeId) : renT l (.own i e) = .own (l.idxOf i) e := rfl
theorem renT_fz (l : List Nat) : renT l .fz = .fz := rfl
theorem erase_at (v : V) : v.erase = v.map (fun _ => .fz) id := rfl
theorem shift_c (n : Nat) (v : Value) : V.shift n (.c v) = .c v := rfl
theorem shift_own (n id : Nat) (e : TypeId) (k : Nat) (xs : List V) : V.shift n (.sl (.own id e) k xs) = .sl (.own (id + n) e) k xs := rfl
theorem shift_fz (n : Nat) (k : Nat) (xs : List V) : V.shift n (.sl .fz k xs) = .sl .fz k xs := rfl
theorem shiftL (n : Nat) (l : List V) : V.mapL (fun t => match t with | .fz => .fz | .own id e => .own (id + n) e) id l = l.map (V.shift n) := mapL_eq _ _ _
theorem shift_agg (n : Nat) (l : List V) : V.shift n (.agg l) = .agg (l.map (V.shift n)) := by rw [← shiftL]; rfl
theorem shift_tup (n : Nat) (l : List V) : V.shift n (.tup l) = .tup (l.map (V.shift n)) := by rw [← shiftL]; rfl
theorem idb_c (v : Value) : V.idb (.c v) = 0 := rfl
theorem idb_own (id : Nat) (e : TypeId) (k : Nat) (xs : List V) : V.idb (.sl (.own id e) k xs) = id + 1 := rfl
theorem idb_fz (k : Nat) (xs : List V) : V.idb (.sl .fz k xs) = 0 := rfl
theorem idb_agg (l : List V) : V.idb (.agg l) = V.idbL l := rfl
theorem idb_tup (l : List V) : V.idb (.tup l) = V.idbL l := rfl
theorem idbL_nil : V.idbL [] = 0 := rfl
theorem idbL_cons (x : V) (xs : List V) : V.idbL (x :: xs) = max (V.idb x) (V.idbL xs) := rfl
theorem flat_c (v : Value) : V.flat (.c v) = true := rfl
theorem flat_own (id : Nat) (e : TypeId) (k : Nat) (xs : List V) : V.flat (.sl (.own id e) k xs) = V.flatL xs := rfl
theorem flat_fz (k : Nat) (xs : List V) : V.flat (.sl .fz k xs) = false := rfl
theorem flat_agg (l : List V) : V.flat (.agg l) = V.flatL l := rfl
theorem flat_tup (l : List V) : V.flat (.tup l) = V.flatL l := rfl
theorem flatL_nil : V.flatL [] = true := rfl
theorem flatL_cons (x : V) (xs : List V) : V.flatL (x :: xs) = (V.flat x && V.flatL xs) := rfl
theorem flatL_append (l l' : List V) : V.flatL (l ++ l') = (V.flatL l && V.flatL l') := by
  induction l with
  | nil => rfl
  | cons x xs ih => simp [V.flatL, ih, Bool.and_assoc]
theorem noRef_at (v : V) : v.noRef = !v.any (fun _ => false) (fun _ => true) false := rfl
theorem ownFree_at (l : List V) : ownFree l = !V.anyL Tag.isOwn (fun _ => false) false l := rfl
theorem noRefs_at (l : List V) : noRefs l = !V.anyL (fun _ => false) (fun _ => true) false l := rfl
theorem freezeAll_nil (s : St) : s.freezeAll [] = s := rfl
def mapE (ψ : V → V) (e : Nat → V) : Nat → V := fun t => ψ (e t)
def mapB (ψ : V → V) (b : Nat → Option (List V)) : Nat → Option (List V) := fun x => (b x).map (List.map ψ)
theorem mapE_lk (ψ : V → V) (e : Nat → V) (t : Nat) : mapE ψ e t = ψ (e t) := rfl
theorem mapB_lk (ψ : V → V) (b : Nat → Option (List V)) (x : Nat) : mapB ψ b x = (b x).map (List.map ψ) := rfl
theorem mapB_none (ψ : V → V) : mapB ψ (fun _ => none) = fun _ => none := rfl
theorem mapV_at (e : Nat → V) (b : Nat → Option (List V)) (n : Nat) (ψ : V → V) : St.mapV ⟨e, b, n⟩ ψ = ⟨mapE ψ e, mapB ψ b, n⟩ := rfl
theorem poison_at (id : Nat) (v : V) : poison id v = if v.has id then .top else v := rfl
theorem has_at (id : Nat) (v : V) : v.has id = v.any (Tag.is id) (fun _ => false) false := rfl
theorem frz_at (id : Nat) (v : V) : frz id v = v.map (fun t => if t.is id then .fz else t) _root_.id := rfl
theorem iaV_sl (P : Program) (t : TypeId) (tg : Tag) (k : Nat) (xs : List V) (ik : IntKind) (n : Int) : iaV P t (.sl tg k xs) (.c (.int ik n)) = if (elemT P t).bind (tsz P) = some k ∧ 0 ≤ n ∧ n < xs.length then some (.el tg k xs n.toNat 0) else none := rfl
theorem lenV_sl (P : Program) (t : TypeId) (tg : Tag) (k : Nat) (xs : List V) : lenV P t (.sl tg k xs) = if (elemT P t).isSome then some (.c (.int .i64 xs.length)) else none := rfl
theorem lenV_nil (P : Program) (t : TypeId) (n c : Nat) : lenV P t (.c (.slice none n c)) = if (elemT P t).isSome then some (.c (.int .i64 n)) else none := rfl
theorem lenV_str (P : Program) (t : TypeId) (z : ByteArray) : lenV P t (.c (.string z)) = if isStr P t then some (.c (.int .i64 z.size)) else none := rfl
theorem loadK_ref (P : Program) (s : St) (d : Option Nat) (t : TypeId) (b off : Nat) (K : Kd → St → Prop) : loadK P s d t (.ref b off) K = optR (loadB P s t b off) s d K := rfl
theorem loadK_el (P : Program) (s : St) (d : Option Nat) (t : TypeId) (tg : Tag) (k : Nat) (xs : List V) (i off : Nat) (K : Kd → St → Prop) : loadK P s d t (.el tg k xs i off) K = optQ ((xs[i]?).bind fun y => y.cs.bind fun cs => ldCells P t cs off) s d [.el tg k xs i off] K := rfl
theorem convK_at (P : Program) (s : St) (d : Option Nat) (src dst : TypeId) (x : V) (K : Kd → St → Prop) : convK P s d src dst x K = (optQ (convV P src dst x) s d [x] K ∨ optK ((strBytes P src dst x).map fun r => (r, s)) d .x K ∨ optK (sameSl P s src dst x) d .z K) := rfl
theorem convV_int (P : Program) (src dst : TypeId) (k k' : IntKind) (n : Int) (h : intT P dst = some k) (hs : (P.underlying src).isSome = true) : convV P src dst (.c (.int k' n)) = some (.c (.int k (k.wrap n))) := by simp [convV, h, hs]
theorem strBytes_int (P : Program) (src dst : TypeId) (k' : IntKind) (n : Int) : strBytes P src dst (.c (.int k' n)) = none := rfl
theorem sameSl_c (P : Program) (s : St) (src dst : TypeId) (v : Value) : sameSl P s src dst (.c v) = none := rfl
theorem convK_int (P : Program) (s : St) (d : Option Nat) (src dst : TypeId) (k : IntKind) (n : Int) (K : Kd → St → Prop) : convK P s d src dst (.c (.int k n)) K = optQ (convV P src dst (.c (.int k n))) s d [.c (.int k n)] K := by
  rw [convK_at]
  have h1 : (strBytes P src dst (.c (.int k n))).map (fun r => (r, s)) = none := rfl
  have h2 : sameSl P s src dst (.c (.int k n)) = none := rfl
  rw [h1, h2]
  simp only [optK_none, or_false]
theorem exV_tup (l : List V) (i : Nat) : exV (.tup l) i = l[i]? := rfl
theorem sliceK_fz (P : Program) (s : St) (d : Option Nat) (t : TypeId) (k : Nat) (xs : List V) (lo hi : Option V) (l : List V) (K : Kd → St → Prop) : sliceK P s d t (.sl .fz k xs) lo hi l K = optQ (slV P t (.sl .fz k xs) lo hi) s d l K := rfl
theorem sliceK_c (P : Program) (s : St) (d : Option Nat) (t : TypeId) (v : Value) (lo hi : Option V) (l : List V) (K : Kd → St → Prop) : sliceK P s d t (.c v) lo hi l K = optQ (slV P t (.c v) lo hi) s d l K := rfl
theorem sliceK_own (P : Program) (s : St) (d : Option Nat) (t : TypeId) (id : Nat) (e : TypeId) (k : Nat) (xs : List V) (lo hi : Option V) (l : List V) (K : Kd → St → Prop) : sliceK P s d t (.sl (.own id e) k xs) lo hi l K = if lo.all isC && hi.all isC then optK (sliceOwn P s t id k xs lo hi) d .z K else False := rfl
theorem slV_fz (P : Program) (t : TypeId) (k : Nat) (xs : List V) (lo hi : Option V) : slV P t (.sl .fz k xs) lo hi = (bdV lo 0).bind fun l => (bdV hi xs.length).bind fun h => if (elemT P t).bind (tsz P) = some k ∧ 0 ≤ l ∧ l ≤ h ∧ h ≤ xs.length then some (.sl .fz k ((xs.take h.toNat).drop l.toNat)) else none := rfl
theorem slV_str (P : Program) (t : TypeId) (z : ByteArray) (lo hi : Option V) : slV P t (.c (.string z)) lo hi = (bdV lo 0).bind fun l => (bdV hi z.size).bind fun h => if isStr P t = true ∧ 0 ≤ l ∧ l ≤ h ∧ h ≤ z.size then some (.c (.string (z.extract l.toNat h.toNat))) else none := rfl
theorem bdV_none (n : Nat) : bdV none n = some (n : Int) := rfl
theorem bdV_int (k : IntKind) (i : Int) (n : Nat) : bdV (some (.c (.int k i))) n = some i := rfl
theorem srcV_sl (P : Program) (t : TypeId) (k : Nat) (tg : Tag) (k' : Nat) (ys : List V) : srcV P t k (.sl tg k' ys) = if k' = k ∧ (elemT P t).isSome then some ys else none := rfl
theorem srcV_nil (P : Program) (t : TypeId) (k n : Nat) : srcV P t k (.c (.slice none 0 n)) = if (elemT P t).isSome then some [] else none := rfl
theorem srcV_str (P : Program) (t : TypeId) (k : Nat) (z : ByteArray) : srcV P t k (.c (.string z)) = if k = 1 ∧ isStr P t = true then some (byteVs z) else none := rfl
theorem appendV_at (P : Program) (s : St) (t t2 : TypeId) (x y : V) (e k bytes : Nat) (ys : List V) (he : elemT P t = some e) (hk : tapp P e = some (k, bytes)) (hy : srcV P t2 k y = some ys) : appendV P s t t2 x y =
    match x with
    | .c (.slice none 0 0) => if Fits ys.length bytes then some (.sl (.own s.nid e) k ys, { s with nid := s.nid + 1 }) else none
    | .sl (.own id e') k' xs => if e' = e ∧ k' = k ∧ Fits (xs.length + ys.length) bytes then some (.sl (.own id e) k (xs ++ ys), { s.mapV (poison id) with nid := max s.nid (id + 1) }) else none
    | _ => none := by
  simp only [appendV, he, hk, hy, Option.bind_some]
  rfl
theorem retQ_ret (P : Program) (rs : List ResultVar) (r : V) (s : St) : retQ P rs r .ret s = ∃ r0 l, retV P s rs = some r0 ∧ List.Nodup l ∧ r0.any (Tag.notIn l) (fun _ => true) false = false ∧ r0.map (renT l) id = r := rfl
theorem retQ_normal (P : Program) (rs : List ResultVar) (r : V) (s : St) : retQ P rs r .normal s = ∃ r0 l, retV P s rs = some r0 ∧ List.Nodup l ∧ r0.any (Tag.notIn l) (fun _ => true) false = false ∧ r0.map (renT l) id = r := rfl

/-- A call: the contract's arguments and what it hands back. -/
theorem callW_use {P : Program} {g : FuncId} {args : List Operand} {d : Option Nat} {s : St} {K : Kd → St → Prop} {vs : List V} (r : V) (hg : Good P g vs r) (hvs : (args.map s.ev).map V.erase = vs) (h1 : noRefs (args.map s.ev) = true)
    (h2 : r.noRef = true) (h3 : (ownFree (args.map s.ev) || r.flat) = true) (hK : K (kc (.fn g [] [] :: args.map s.ev) [] r) (St.put { s with nid := s.nid + r.idb } d (r.shift s.nid))) : callW P (.fn g [] []) args d s K := by
  refine ⟨[], r, ?_, rfl, ?_, h2, ?_, hK⟩
  · simpa [St.freezeAll, hvs] using hg
  · simpa [St.freezeAll] using h1
  · simpa [St.freezeAll] using h3

/-- All of them. -/
def pgs :=
  And.intro @ev_tmp ( And.intro @ev_const ( And.intro @ev_func ( And.intro @ev_global ( And.intro @put_mk ( And.intro @upd_hit ( And.intro @optQ_some ( And.intro @optQ_none ( And.intro @optK_some ( And.intro @optK_none ( And.intro @optR_some ( And.intro @optR_none ( And.intro @drwC_nil ( And.intro @drwC_plain ( And.intro @drwC_guard ( And.intro @drwN_at ( And.intro @sliceK_own ( And.intro @stepW_move ( And.intro @stepW_assign ( And.intro @stepW_binOp ( And.intro @stepW_unOp ( And.intro @stepW_extract ( And.intro @stepW_field ( And.intro @stepW_index ( And.intro @stepW_indexAddr ( And.intro @stepW_fieldAddr ( And.intro @stepW_makeFunc ( And.intro @stepW_build ( And.intro @stepW_alloc ( And.intro @stepW_box ( And.intro @stepW_buildSlice ( And.intro @stepW_makeSlice ( And.intro @stepW_pick ( And.intro @stepW_convert ( And.intro @stepW_load ( And.intro @stepW_store ( And.intro @stepW_slice ( And.intro @stepW_len ( And.intro @stepW_max ( And.intro @stepW_min ( And.intro @stepW_append ( And.intro @stepW_nilCheck ( And.intro @stepW_call ( And.intro @wpS_skip ( And.intro @wpS_ret ( And.intro @wpS_exit ( And.intro @wpS_label ( And.intro @wpS_seq ( And.intro @wpS_cond ( And.intro @wpS_block ( And.intro @wpS_loop ( And.intro @wpS_region ( And.intro @wpS_draw ( And.intro @thenC_normal ( And.intro @thenC_ret ( And.intro @thenC_exit ( And.intro @inB_normal ( And.intro @inB_ret ( And.intro @inB_exit ( And.intro @thenQ_normal ( And.intro @thenQ_ret ( And.intro @thenQ_exit ( And.intro @condC_true ( And.intro @condC_false ( And.intro @regC_nil ( And.intro @regC_plain ( And.intro @regC_guard ( And.intro @nextC_at ( And.intro @guardV_at ( And.intro @binV_add ( And.intro @binV_sub ( And.intro @binV_mul ( And.intro @binV_quo ( And.intro @binV_rem ( And.intro @binV_and ( And.intro @binV_or ( And.intro @binV_xor ( And.intro @binV_andNot ( And.intro @binV_eql ( And.intro @binV_neq ( And.intro @binV_lss ( And.intro @binV_leq ( And.intro @binV_gtr ( And.intro @binV_geq ( And.intro @binV_shl ( And.intro @binV_shr ( And.intro @binV_beq ( And.intro @binV_bne ( And.intro @binV_seq ( And.intro @binV_sne ( And.intro @binV_sadd ( And.intro @binV_slss ( And.intro @binV_sleq ( And.intro @binV_sgtr ( And.intro @binV_sgeq ( And.intro @pickV_bools ( And.intro @pickV_true ( And.intro @pickV_false ( And.intro @pickK_at ( And.intro @ofConst_int ( And.intro @ofConst_bool ( And.intro @ofConst_string ( And.intro @ofConst_slice ( And.intro @ofConst_pointer ( And.intro @ofConst_agg ( And.intro @initS_at ( And.intro @initE_nil ( And.intro @initE_cons ( And.intro @cs_c_int ( And.intro @cs_c_bool ( And.intro @cs_c_string ( And.intro @cs_c_slice ( And.intro @cs_agg ( And.intro @cs_sl ( And.intro @cs_ref ( And.intro @cs_fn ( And.intro @one_c_int ( And.intro @one_c_bool ( And.intro @one_c_string ( And.intro @one_c_slice ( And.intro @one_sl ( And.intro @one_ref ( And.intro @one_fn ( And.intro @free_c ( And.intro @free_fz ( And.intro @free_agg ( And.intro @anyL_nil ( And.intro @anyL_at ( And.intro @any_c ( And.intro @any_sl ( And.intro @any_agg ( And.intro @any_tup ( And.intro @any_ref ( And.intro @any_el ( And.intro @any_fn ( And.intro @any_top ( And.intro @mapL_nil ( And.intro @mapL_at ( And.intro @map_c ( And.intro @map_sl ( And.intro @map_agg ( And.intro @map_tup ( And.intro @map_ref ( And.intro @map_el ( And.intro @map_fn ( And.intro @map_top ( And.intro @is_own ( And.intro @is_fz ( And.intro @isOwn_own ( And.intro @isOwn_fz ( And.intro @notIn_own ( And.intro @notIn_fz ( And.intro @renT_own ( And.intro @renT_fz ( And.intro @erase_at ( And.intro @shift_c ( And.intro @shift_own ( And.intro @shift_fz ( And.intro @shiftL ( And.intro @shift_agg ( And.intro @shift_tup ( And.intro @idb_c ( And.intro @idb_own ( And.intro @idb_fz ( And.intro @idb_agg ( And.intro @idb_tup ( And.intro @idbL_nil ( And.intro @idbL_cons ( And.intro @flat_c ( And.intro @flat_own ( And.intro @flat_fz ( And.intro @flat_agg ( And.intro @flat_tup ( And.intro @flatL_nil ( And.intro @flatL_cons ( And.intro @flatL_append ( And.intro @noRef_at ( And.intro @ownFree_at ( And.intro @noRefs_at ( And.intro @freezeAll_nil ( And.intro @mapV_at ( And.intro @mapE_lk ( And.intro @mapB_lk ( And.intro @mapB_none ( And.intro @poison_at ( And.intro @has_at ( And.intro @frz_at ( And.intro @lenV_sl ( And.intro @lenV_nil ( And.intro @lenV_str ( And.intro @loadK_ref ( And.intro @loadK_el ( And.intro @convK_int ( And.intro @strBytes_int ( And.intro @sameSl_c ( And.intro @exV_tup ( And.intro @sliceK_fz ( And.intro @sliceK_c ( And.intro @slV_str ( And.intro @bdV_none ( And.intro @bdV_int ( And.intro @srcV_sl ( And.intro @srcV_nil ( @srcV_str)))))))))))))))))))))))))))))))))))))))))))))))))))))))))))))))))))))))))))))))))))))))))))))))))))))))))))))))))))))))))))))))))))))))))))))))))))))))))))))))))))))))))))))))))))))))))))))))))))))))))))

/-- And what lists, options and numbers need. -/
def pgl :=
  And.intro @Option.bind_some.{0,0} ( And.intro @Option.bind_none.{0,0} ( And.intro @Option.map_some.{0,0} ( And.intro @Option.map_none.{0,0} ( And.intro @Option.isSome_some.{0} ( And.intro @Option.all_none.{0} ( And.intro @Option.all_some.{0} ( And.intro @Option.getD_some.{0} ( And.intro @List.map_cons.{0,0} ( And.intro @List.map_nil.{0,0} ( And.intro @List.length_cons.{0} ( And.intro @List.length_nil.{0} ( And.intro @List.set_cons_zero.{0} ( And.intro @List.set_cons_succ.{0} ( And.intro @List.getElem?_cons_zero.{0} ( And.intro @List.getElem?_cons_succ.{0} ( And.intro @List.all_cons.{0} ( And.intro @List.all_nil.{0} ( And.intro @List.replicate_succ.{0} ( And.intro @List.replicate_zero.{0} ( And.intro @List.cons_append.{0} ( And.intro @List.nil_append.{0} ( And.intro @List.append_nil.{0} ( And.intro @List.take_zero.{0} ( And.intro @List.take_succ_cons.{0} ( And.intro @List.drop_zero.{0} ( And.intro @List.drop_succ_cons.{0} ( And.intro @List.drop_nil.{0} ( And.intro @List.take_nil.{0} ( And.intro @Bool.and_true ( And.intro @Bool.true_and ( And.intro @Bool.and_false ( And.intro @Bool.false_and ( And.intro @Bool.or_true ( And.intro @Bool.or_false ( And.intro @Bool.true_or ( And.intro @Bool.false_or ( And.intro @Bool.not_true ( And.intro @Bool.not_false ( And.intro @and_true ( And.intro @true_and ( And.intro @and_false ( And.intro @false_and ( And.intro @or_false ( And.intro @false_or ( And.intro @or_true ( And.intro @true_or ( And.intro @List.mapM_cons.{0,0,0} ( And.intro @List.mapM_nil.{0,0,0} ( And.intro @Option.pure_def.{0} ( And.intro @Option.bind_eq_bind.{0} ( And.intro @List.elem_nil.{0} ( And.intro @List.elem_cons.{0} ( And.intro @List.contains_cons.{0} ( And.intro @List.contains_nil.{0} ( And.intro @Bool.false_eq_true ( And.intro @not_true_eq_false ( And.intro @not_false_eq_true ( @Array.toList_map.{0,0}))))))))))))))))))))))))))))))))))))))))))))))))))))))))))
end Go.Pg
