/-
  Texts of this claim, merged; own names are short.
-/
import Derived.Handy
import Derived.KernelRfl
import Derived.Test.YtaoejnjkmfkbeaaGreatWAK
import Derived.IntWalk
set_option linter.unusedVariables false
set_option linter.unusedSimpArgs false
set_option linter.unusedSectionVars false
set_option linter.defProp false
set_option maxRecDepth 100000
set_option maxHeartbeats 8000000
section
namespace Go.Pg
open Go
theorem Hu (k : IntKind) (n : Int) : dY (.int k n) = .c (.int k n) := rfl
theorem Ew (b : Bool) : dY (.bool b) = .c (.bool b) := rfl
theorem Aw (z : ByteArray) : dY (.string z) = .c (.string z) := rfl
theorem CG (a : Option Addr) (n c : Nat) : dY (.slice a n c) = .c (.slice a n c) := rfl
theorem yY (a : Option Addr) : dY (.pointer a) = .c (.pointer a) := rfl
theorem Hw (l : List Value) : dY (.agg l.toArray) = .agg (l.map .c) := by simp [dY]
theorem Uz (l : List V) : Gv l = ⟨qF l 0, fun _ => none, 0, fun _ => .top⟩ := rfl
theorem Pv (k : Nat) : qF [] k = fun _ => .top := rfl
theorem JZ (x : V) (xs : List V) (k : Nat) : qF (x :: xs) k = upd (qF xs (k + 1)) k x := rfl
theorem UA (k : IntKind) (n : Int) : V.cs (.c (.int k n)) = some [.c (.int k n)] := rfl
theorem Px (b : Bool) : V.cs (.c (.bool b)) = some [.c (.bool b)] := rfl
theorem Hy (z : ByteArray) : V.cs (.c (.string z)) = some [.c (.string z)] := rfl
theorem J3 (a : Option Addr) (n c : Nat) : V.cs (.c (.slice a n c)) = some [.c (.slice a n c)] := rfl
theorem ace (l : List V) : V.cs (.agg l) = some l := rfl
theorem adV (t : Tag) (k : Nat) (xs : List V) : V.cs (.sl t k xs) = some [.sl t k xs] := rfl
theorem acf (b o : Nat) : V.cs (.ref b o) = some [.ref b o] := rfl
theorem adW (f : FuncId) (x y : List V) : V.cs (.fn f x y) = some [.fn f x y] := rfl
theorem Py (k : IntKind) (n : Int) : V.one (.c (.int k n)) = true := rfl
theorem J4 (b : Bool) : V.one (.c (.bool b)) = true := rfl
theorem Ey (z : ByteArray) : V.one (.c (.string z)) = true := rfl
theorem Hz (a : Option Addr) (n c : Nat) : V.one (.c (.slice a n c)) = true := rfl
theorem acg (t : Tag) (k : Nat) (xs : List V) : V.one (.sl t k xs) = true := rfl
theorem YV (b o : Nat) : V.one (.ref b o) = true := rfl
theorem ach (f : FuncId) (x y : List V) : V.one (.fn f x y) = true := rfl
theorem aci (v : Value) : V.free (.c v) = true := rfl
theorem YW (k : Nat) (xs : List V) : V.free (.sl .fz k xs) = true := rfl
theorem UB (l : List V) : V.free (.agg l) = !V.anyL Tag.isOwn (fun _ => true) true l := rfl
theorem UC (p : Tag → Bool) (q : Nat → Bool) (tp : Bool) : V.anyL p q tp [] = false := rfl
theorem YX (p : Tag → Bool) (q : Nat → Bool) (tp : Bool) (x : V) (xs : List V) : V.anyL p q tp (x :: xs) = (V.any p q tp x || V.anyL p q tp xs) := rfl
theorem adX (p : Tag → Bool) (q : Nat → Bool) (tp : Bool) (v : Value) : V.any p q tp (.c v) = false := rfl
theorem acj (p : Tag → Bool) (q : Nat → Bool) (tp : Bool) (t : Tag) (k : Nat) (xs : List V) : V.any p q tp (.sl t k xs) = p t := rfl
theorem YY (p : Tag → Bool) (q : Nat → Bool) (tp : Bool) (l : List V) : V.any p q tp (.agg l) = V.anyL p q tp l := rfl
theorem YZ (p : Tag → Bool) (q : Nat → Bool) (tp : Bool) (l : List V) : V.any p q tp (.tup l) = V.anyL p q tp l := rfl
theorem Y0 (p : Tag → Bool) (q : Nat → Bool) (tp : Bool) (b o : Nat) : V.any p q tp (.ref b o) = q b := rfl
theorem ack (p : Tag → Bool) (q : Nat → Bool) (tp : Bool) (t : Tag) (k : Nat) (xs : List V) (i o : Nat) : V.any p q tp (.el t k xs i o) = p t := rfl
theorem acl (p : Tag → Bool) (q : Nat → Bool) (tp : Bool) (f : FuncId) (x y : List V) : V.any p q tp (.fn f x y) = (V.anyL p q tp x || V.anyL p q tp y) := rfl
theorem Y1 (p : Tag → Bool) (q : Nat → Bool) (tp : Bool) : V.any p q tp .top = tp := rfl
theorem UD (τ : Tag → Tag) (ρ : Nat → Nat) : V.mapL τ ρ [] = [] := rfl
theorem Y2 (τ : Tag → Tag) (ρ : Nat → Nat) (x : V) (xs : List V) : V.mapL τ ρ (x :: xs) = V.map τ ρ x :: V.mapL τ ρ xs := rfl
theorem adY (τ : Tag → Tag) (ρ : Nat → Nat) (v : Value) : V.map τ ρ (.c v) = .c v := rfl
theorem acm (τ : Tag → Tag) (ρ : Nat → Nat) (t : Tag) (k : Nat) (xs : List V) : V.map τ ρ (.sl t k xs) = .sl (τ t) k xs := rfl
theorem Y3 (τ : Tag → Tag) (ρ : Nat → Nat) (l : List V) : V.map τ ρ (.agg l) = .agg (V.mapL τ ρ l) := rfl
theorem Y4 (τ : Tag → Tag) (ρ : Nat → Nat) (l : List V) : V.map τ ρ (.tup l) = .tup (V.mapL τ ρ l) := rfl
theorem Y5 (τ : Tag → Tag) (ρ : Nat → Nat) (b o : Nat) : V.map τ ρ (.ref b o) = .ref (ρ b) o := rfl
theorem acn (τ : Tag → Tag) (ρ : Nat → Nat) (t : Tag) (k : Nat) (xs : List V) (i o : Nat) : V.map τ ρ (.el t k xs i o) = .el (τ t) k xs i o := rfl
theorem aco (τ : Tag → Tag) (ρ : Nat → Nat) (f : FuncId) (x y : List V) : V.map τ ρ (.fn f x y) = .fn f (V.mapL τ ρ x) (V.mapL τ ρ y) := rfl
theorem Y6 (τ : Tag → Tag) (ρ : Nat → Nat) : V.map τ ρ .top = .top := rfl
theorem acp (i j : Nat) (e : TypeId) : Tag.is i (.own j e) = (j == i) := rfl
theorem adZ (i : Nat) : Tag.is i .fz = false := rfl
theorem ad1 (i : Nat) : Tag.is i .nn = false := rfl
theorem UE : Tag.isOwn .nn = true := rfl
theorem UF (l : List Nat) : Tag.notIn l .nn = false := rfl
theorem Y7 (l : List Nat) : mQ l .nn = .nn := rfl
theorem UG (n : Nat) (k : Nat) (xs : List V) : V.shift n (.sl .nn k xs) = .sl .nn k xs := rfl
theorem acr (k : Nat) (xs : List V) : V.idb (.sl .nn k xs) = 0 := rfl
theorem Y8 (k : Nat) (xs : List V) : V.flat (.sl .nn k xs) = V.flatL xs := rfl
theorem Pz (j : Nat) (e : TypeId) : Tag.isOwn (.own j e) = true := rfl
theorem UH : Tag.isOwn .fz = false := rfl
theorem PD (l : List Nat) (i : Nat) (e : TypeId) : Tag.notIn l (.own i e) = !l.contains i := rfl
theorem UI (l : List Nat) : Tag.notIn l .fz = false := rfl
theorem UJ (l : List Nat) (i : Nat) (e : TypeId) : mQ l (.own i e) = .own (l.idxOf i) e := rfl
theorem Y9 (l : List Nat) : mQ l .fz = .fz := rfl
theorem UK (v : V) : v.erase = v.map (fun _ => .fz) id := rfl
theorem Za (n : Nat) (v : Value) : V.shift n (.c v) = .c v := rfl
theorem PE (n id : Nat) (e : TypeId) (k : Nat) (xs : List V) : V.shift n (.sl (.own id e) k xs) = .sl (.own (id + n) e) k xs := rfl
theorem UL (n : Nat) (k : Nat) (xs : List V) : V.shift n (.sl .fz k xs) = .sl .fz k xs := rfl
theorem J5 (n : Nat) (l : List V) : V.mapL (fun t => match t with | .fz => .fz | .nn => .nn | .own id e => .own (id + n) e) id l = l.map (V.shift n) := uO _ _ _
theorem PG (n : Nat) (l : List V) : V.shift n (.agg l) = .agg (l.map (V.shift n)) := by rw [← J5]; rfl
theorem PH (n : Nat) (l : List V) : V.shift n (.tup l) = .tup (l.map (V.shift n)) := by rw [← J5]; rfl
theorem ad2 (v : Value) : V.idb (.c v) = 0 := rfl
theorem Zb (id : Nat) (e : TypeId) (k : Nat) (xs : List V) : V.idb (.sl (.own id e) k xs) = id + 1 := rfl
theorem acs (k : Nat) (xs : List V) : V.idb (.sl .fz k xs) = 0 := rfl
theorem Zc (l : List V) : V.idb (.agg l) = V.idbL l := rfl
theorem Zd (l : List V) : V.idb (.tup l) = V.idbL l := rfl
theorem UM : V.idbL [] = 0 := rfl
theorem PI (x : V) (xs : List V) : V.idbL (x :: xs) = max (V.idb x) (V.idbL xs) := rfl
theorem acu (v : Value) : V.flat (.c v) = true := rfl
theorem UN (id : Nat) (e : TypeId) (k : Nat) (xs : List V) : V.flat (.sl (.own id e) k xs) = V.flatL xs := rfl
theorem Ze (k : Nat) (xs : List V) : V.flat (.sl .fz k xs) = false := rfl
theorem UO (l : List V) : V.flat (.agg l) = V.flatL l := rfl
theorem UQ (l : List V) : V.flat (.tup l) = V.flatL l := rfl
theorem PK : V.flatL [] = true := rfl
theorem J6 (x : V) (xs : List V) : V.flatL (x :: xs) = (V.flat x && V.flatL xs) := rfl
theorem Ez (l l' : List V) : V.flatL (l ++ l') = (V.flatL l && V.flatL l') := by
 induction l with
 | nil => rfl
 | cons x xs ih => simp [V.flatL, ih, Bool.and_assoc]
theorem UR (v : V) : v.noRef = !v.any (fun _ => false) (fun _ => true) false := rfl
theorem J7 (l : List V) : ownFree l = !V.anyL Tag.isOwn (fun _ => false) false l := rfl
theorem PL (l : List V) : noRefs l = !V.anyL (fun _ => false) (fun _ => true) false l := rfl
theorem CJ (s : St) : s.freezeAll [] = s := rfl
def iM (ψ : V → V) (e : Nat → V) : Nat → V := fun t => ψ (e t)
def mX (ψ : V → V) (b : Nat → Option (TypeId × List V)) : Nat → Option (TypeId × List V) := fun x => (b x).map fun y => (y.1, y.2.map ψ)
theorem Zf (ψ : V → V) (e : Nat → V) (t : Nat) : iM ψ e t = ψ (e t) := rfl
theorem Zg (ψ : V → V) (b : Nat → Option (TypeId × List V)) (x : Nat) : mX ψ b x = (b x).map fun y => (y.1, y.2.map ψ) := rfl
theorem PM (ψ : V → V) : mX ψ (fun _ => none) = fun _ => none := rfl
theorem Zh (e : Nat → V) (b : Nat → Option (TypeId × List V)) (n : Nat) (h : Nat → V) (ψ : V → V) : St.mapV ⟨e, b, n, h⟩ ψ = ⟨iM ψ e, mX ψ b, n, iM ψ h⟩ := rfl
theorem sG (id : Nat) (v : V) : aC id v = if v.has id then .top else v := rfl
theorem acv (id : Nat) (v : V) : v.has id = v.any (Tag.is id) (fun _ => false) false := rfl
theorem acw (id : Nat) (v : V) : frz id v = v.map (fun t => if t.is id then .fz else t) _root_.id := rfl
theorem acx (P : Program) (t : TypeId) (tg : Tag) (k : Nat) (xs : List V) (ik : IntKind) (n : Int) : iaV P t (.sl tg k xs) (.c (.int ik n)) = if (elemT P t).bind (tsz P) = some k ∧ 0 ≤ n ∧ n < xs.length then some (.el tg k xs n.toNat 0) else none := rfl
theorem Zi (P : Program) (t : TypeId) (tg : Tag) (k : Nat) (xs : List V) : Gf P t (.sl tg k xs) = if (elemT P t).isSome then some (.c (.int .i64 xs.length)) else none := rfl
theorem UT (P : Program) (t : TypeId) (n c : Nat) : Gf P t (.c (.slice none n c)) = if (elemT P t).isSome then some (.c (.int .i64 n)) else none := rfl
theorem ah5 (P : Program) (t : TypeId) (z : ByteArray) : Gf P t (.c (.string z)) = if fK P t then some (.c (.int .i64 z.size)) else none := rfl
theorem PN (P : Program) [Tb P] (s : St) (d : Option Nat) (t : TypeId) (b off : Nat) (K : Kd → St → Prop) : Na P s d t (.ref b off) K = wX (lm P s t b off) s d K := rfl
theorem UV (P : Program) (s : St) (d : Option Nat) (t : TypeId) (tg : Tag) (k : Nat) (xs : List V) (i off : Nat) (K : Kd → St → Prop) : Na P s d t (.el tg k xs i off) K = lJ ((xs[i]?).bind fun y => y.cs.bind fun cs => dI P t cs off) s d [.el tg k xs i off] K := rfl
theorem vH (P : Program) (s : St) (d : Option Nat) (src dst : TypeId) (x : V) (K : Kd → St → Prop) : Ap P s d src dst x K = (lJ (lh P src dst x) s d [x] K ∨ wX (iY P s src dst x) s d K ∨ iV ((jD P src dst x).map fun r => (r, s)) d .x K ∨ iV (lI P s src dst x) d .z K) := rfl
theorem EC (P : Program) (src dst : TypeId) (k' : IntKind) (n : Int) : jD P src dst (.c (.int k' n)) = none := rfl
theorem UW (P : Program) (s : St) (src dst : TypeId) (v : Value) : lI P s src dst (.c v) = none := rfl
theorem PO (P : Program) (s : St) (d : Option Nat) (src dst : TypeId) (k : IntKind) (n : Int) (K : Kd → St → Prop) : Ap P s d src dst (.c (.int k n)) K = lJ (lh P src dst (.c (.int k n))) s d [.c (.int k n)] K := by
 rw [vH]
 have h1 : (jD P src dst (.c (.int k n))).map (fun r => (r, s)) = none := rfl
 have h2 : lI P s src dst (.c (.int k n)) = none := rfl
 have h3 : iY P s src dst (.c (.int k n)) = none := rfl
 rw [h1, h2, h3]
 simp only [aV, bI, or_false]
theorem Zj (l : List V) (i : Nat) : exV (.tup l) i = l[i]? := rfl
theorem PP (P : Program) (s : St) (d : Option Nat) (t : TypeId) (k : Nat) (xs : List V) (lo hi : Option V) (l : List V) (K : Kd → St → Prop) : xu P s d t (.sl .fz k xs) lo hi l K = lJ (slV P t (.sl .fz k xs) lo hi) s d l K := rfl
theorem UX (P : Program) (s : St) (d : Option Nat) (t : TypeId) (v : Value) (lo hi : Option V) (l : List V) (K : Kd → St → Prop) : xu P s d t (.c v) lo hi l K = lJ (slV P t (.c v) lo hi) s d l K := rfl
theorem J8 (P : Program) (s : St) (d : Option Nat) (t : TypeId) (id : Nat) (e : TypeId) (k : Nat) (xs : List V) (lo hi : Option V) (l : List V) (K : Kd → St → Prop) : xu P s d t (.sl (.own id e) k xs) lo hi l K = if lo.all isC && hi.all isC then iV (lq P s t id k xs lo hi) d .z K else False := rfl
theorem ED (P : Program) (t : TypeId) (k : Nat) (xs : List V) (lo hi : Option V) : slV P t (.sl .fz k xs) lo hi = (bdV lo 0).bind fun l => (bdV hi xs.length).bind fun h => if (elemT P t).bind (tsz P) = some k ∧ 0 ≤ l ∧ l ≤ h ∧ h ≤ xs.length then some (.sl .fz k ((xs.take h.toNat).drop l.toNat)) else none := rfl
theorem Zk (P : Program) (t : TypeId) (z : ByteArray) (lo hi : Option V) : slV P t (.c (.string z)) lo hi = (bdV lo 0).bind fun l => (bdV hi z.size).bind fun h => if fK P t = true ∧ 0 ≤ l ∧ l ≤ h ∧ h ≤ z.size then some (.c (.string (z.extract l.toNat h.toNat))) else none := rfl
theorem UY (n : Nat) : bdV none n = some (n : Int) := rfl
theorem Zl (k : IntKind) (i : Int) (n : Nat) : bdV (some (.c (.int k i))) n = some i := rfl
theorem Zm (P : Program) (t : TypeId) (k : Nat) (tg : Tag) (k' : Nat) (ys : List V) : zU P t k (.sl tg k' ys) = if k' = k ∧ (elemT P t).isSome then some ys else none := rfl
theorem UZ (P : Program) (t : TypeId) (k n : Nat) : zU P t k (.c (.slice none 0 n)) = if (elemT P t).isSome then some [] else none := rfl
theorem U0 (P : Program) (t : TypeId) (k : Nat) (z : ByteArray) : zU P t k (.c (.string z)) = if k = 1 ∧ fK P t = true then some (lH z) else none := rfl
theorem xw {P : Program} [Tb P] {g : FuncId} {args : List Operand} {d : Option Nat} {s : St} {K : Kd → St → Prop} {vs : List V} (r : V) (hg : Good P g vs r) (hvs : (args.map s.ev).map V.erase = vs) (h1 : noRefs (args.map s.ev) = true)
  (h2 : r.noRef = true) (h3 : (ownFree (args.map s.ev) || r.flat) = true) (hK : K (kc (.fn g [] [] :: args.map s.ev) [] r) (St.put { s with nid := s.nid + r.idb } d (r.shift s.nid))) : cu P (.fn g [] []) args d s K := by
 refine .inl ⟨[], r, ?_, rfl, ?_, h2, ?_, hK⟩
 ·simpa [St.freezeAll, hvs] using hg
 ·simpa [St.freezeAll] using h1
 ·simpa [St.freezeAll] using h3
section
variable (P : Program) (op : BinOp) (t : TypeId) (x y : V)
theorem U1 (n : Nat) : wV P op t x y (.tmp n) = dP P op t x y := rfl
theorem U2 (k : IntKind) (n : Int) : wV P op t x y (.const (.int k n)) = dP P op t x y := rfl
theorem U3 (z : ByteArray) : wV P op t x y (.const (.string z)) = dP P op t x y := rfl
theorem PQ (b : Bool) : wV P op t x y (.const (.bool b)) = dP P op t x y := rfl
theorem Zn (a : Option Addr) (n c : Nat) : wV P op t x y (.const (.slice a n c)) = dP P op t x y := rfl
theorem U4 (a : Option Addr) : wV P op t x y (.const (.pointer a)) = dP P op t x y := rfl
theorem U5 (a : Array Value) : wV P op t x y (.const (.agg a)) = dP P op t x y := rfl
theorem U6 : wV P op t x y (.const .nilIface) = uk P op t x := rfl
theorem U7 (h : qE P t = true) : uk P .eql t (.c .nilIface) = some (.c (.bool true)) := if_pos h
theorem U8 (h : qE P t = true) : uk P .neq t (.c .nilIface) = some (.c (.bool false)) := if_pos h
theorem Zo (a : TypeId) (v : Value) (h : qE P t = true) : uk P .eql t (.c (.iface a v)) = some (.c (.bool false)) := if_pos h
theorem Zp (a : TypeId) (v : Value) (h : qE P t = true) : uk P .neq t (.c (.iface a v)) = some (.c (.bool true)) := if_pos h
theorem Zq : dY .nilIface = .c .nilIface := rfl
end
def pgs :=
 aI @U1 (aI @U2 (aI @U3 (aI @PQ (aI @Zn (aI @U4 (aI @U5 (aI @U6 (aI @U7 (aI @U8 (aI @Zo (aI @Zp (aI @Zq (aI @yV ( aI @uz ( aI @aca ( aI @TG ( aI @YG ( aI @OH ( aI @acb ( aI @YH ( aI @dJ ( aI @bM ( aI @OJ ( aI @aV ( aI @OI ( aI @bI ( aI @Ua ( aI @JV ( aI @JW ( aI @YR ( aI @J8 ( aI @JD ( aI @Em ( aI @G7 ( aI @JE ( aI @CB ( aI @G8 ( aI @G9 ( aI @yR ( aI @yT ( aI @Am ( aI @Ha ( aI @He ( aI @OO ( aI @xq ( aI @yU ( aI @JF ( aI @CE ( aI @JG ( aI @Hf ( aI @Hg ( aI @OQ ( aI @OT ( aI @OU ( aI @Ep ( aI @Aq ( aI @JH ( aI @TM ( aI @YM ( aI @TN ( aI @OW ( aI @YN ( aI @TP ( aI @Hl ( aI @TQ ( aI @JI ( aI @OX ( aI @OY ( aI @OZ ( aI @TR ( aI @O0 ( aI @JJ ( aI @O1 ( aI @JK ( aI @JL ( aI @TS ( aI @O3 ( aI @O4 ( aI @Hm ( aI @TT ( aI @O5 ( aI @TU ( aI @JM ( aI @TV ( aI @Es ( aI @O6 ( aI @JO ( aI @JP ( aI @YP ( aI @TW ( aI @Et ( aI @O7 ( aI @JQ ( aI @Au ( aI @yz ( aI @TY ( aI @JR ( aI @JS ( aI @TZ ( aI @Pi ( aI @Uc ( aI @Ud ( aI @Ue ( aI @Uh ( aI @YU ( aI @Ui ( aI @Hq ( aI @Uj ( aI @Uk ( aI @Ul ( aI @Um ( aI @Un ( aI @Uo ( aI @Ut ( aI @Uu ( aI @Uw ( aI @Ux ( aI @Pj ( aI @Pn ( aI @Po ( aI @Pq ( aI @Hr ( aI @JY ( aI @Ht ( aI @Uy ( aI @Hu ( aI @Ew ( aI @Aw ( aI @CG ( aI @yY ( aI @Hw ( aI @Uz ( aI @Pv ( aI @JZ ( aI @UA ( aI @Px ( aI @Hy ( aI @J3 ( aI @ace ( aI @adV ( aI @acf ( aI @adW ( aI @Py ( aI @J4 ( aI @Ey ( aI @Hz ( aI @acg ( aI @YV ( aI @ach ( aI @aci ( aI @YW ( aI @UB ( aI @UC ( aI @YX ( aI @adX ( aI @acj ( aI @YY ( aI @YZ ( aI @Y0 ( aI @ack ( aI @acl ( aI @Y1 ( aI @UD ( aI @Y2 ( aI @adY ( aI @acm ( aI @Y3 ( aI @Y4 ( aI @Y5 ( aI @acn ( aI @aco ( aI @Y6 ( aI @acp ( aI @adZ ( aI @Pz ( aI @UH ( aI @PD ( aI @UI ( aI @UJ ( aI @Y9 ( aI @UK ( aI @Za ( aI @PE ( aI @UL ( aI @J5 ( aI @PG ( aI @PH ( aI @ad2 ( aI @Zb ( aI @acs ( aI @Zc ( aI @Zd ( aI @UM ( aI @PI ( aI @acu ( aI @UN ( aI @Ze ( aI @UO ( aI @UQ ( aI @PK ( aI @J6 ( aI @Ez ( aI @UR ( aI @J7 ( aI @PL ( aI @CJ ( aI @Zh ( aI @Zf ( aI @Zg ( aI @PM ( aI @sG ( aI @acv ( aI @acw ( aI @Zi ( aI @UT ( aI @ah5 ( aI @PN ( aI @UV ( aI @PO ( aI @EC ( aI @UW ( aI @Zj ( aI @PP ( aI @UX ( aI @UY ( aI @Zl ( aI @Zm ( aI @UZ ( @U0)))))))))))))))))))))))))))))))))))))))))))))))))))))))))))))))))))))))))))))))))))))))))))))))))))))))))))))))))))))))))))))))))))))))))))))))))))))))))))))))))))))))))))))))))))))))))))))))))))))))))))))))))))))))))))))))))))))
def pgl :=
 aI @Option.bind_some.{0,0} ( aI @Option.bind_none.{0,0} ( aI @Option.map_some.{0,0} ( aI @Option.map_none.{0,0} ( aI @Option.isSome_some.{0} ( aI @Option.all_none.{0} ( aI @Option.all_some.{0} ( aI @Option.getD_some.{0} ( aI @List.map_cons.{0,0} ( aI @List.map_nil.{0,0} ( aI @List.length_cons.{0} ( aI @List.length_nil.{0} ( aI @List.set_cons_zero.{0} ( aI @List.set_cons_succ.{0} ( aI @List.getElem?_cons_zero.{0} ( aI @List.getElem?_cons_succ.{0} ( aI @List.all_cons.{0} ( aI @List.all_nil.{0} ( aI @List.replicate_succ.{0} ( aI @List.replicate_zero.{0} ( aI @List.cons_append.{0} ( aI @List.nil_append.{0} ( aI @List.append_nil.{0} ( aI @List.take_zero.{0} ( aI @List.take_succ_cons.{0} ( aI @List.drop_zero.{0} ( aI @List.drop_succ_cons.{0} ( aI @List.drop_nil.{0} ( aI @List.take_nil.{0} ( aI @Bool.and_true ( aI @Bool.true_and ( aI @Bool.and_false ( aI @Bool.false_and ( aI @Bool.or_true ( aI @Bool.or_false ( aI @Bool.true_or ( aI @Bool.false_or ( aI @Bool.not_true ( aI @Bool.not_false ( aI @and_true ( aI @true_and ( aI @and_false ( aI @false_and ( aI @or_false ( aI @false_or ( aI @or_true ( aI @true_or ( aI @List.mapM_cons.{0,0,0} ( aI @List.mapM_nil.{0,0,0} ( aI @Option.pure_def.{0} ( aI @Option.bind_eq_bind.{0} ( aI @List.elem_nil.{0} ( aI @List.elem_cons.{0} ( aI @List.contains_cons.{0} ( aI @List.contains_nil.{0} ( aI @Bool.false_eq_true ( aI @not_true_eq_false ( aI @not_false_eq_true ( @Array.toList_map.{0,0}))))))))))))))))))))))))))))))))))))))))))))))))))))))))))
end Go.Pg
end
section
namespace Go.Pg
open Go
def GenE (l m : List Nat) (e : Nat → V) : List V → Nat → Prop
 | [], _ => True
 | x :: xs, k => Gen l m (e k) x ∧ GenE l m e xs (k + 1)
theorem GenE.at {l m : List Nat} {e : Nat → V} : ∀ (xs : List V) (k : Nat), GenE l m e xs k → ∀ t, Gen l m (e t) (qF xs k t) := by
 intro xs
 induction xs with
 | nil => intro k _ t; exact .inl rfl
 | cons x xs ih =>
  intro k h t
  simp only [qF, upd]
  split
  ·rename_i ht; subst ht; exact h.1
  ·exact ih (k + 1) h.2 t
theorem aZ (l m : List Nat) (v : V) : Gen l m v .top = True := by simp [Gen]
theorem bV (l m : List Nat) (v : Value) : Gen l m (.c v) (.c v) = True := by simp [Gen, V.any, V.map]
theorem bD (l m : List Nat) (k : Nat) (xs : List V) : Gen l m (.sl .fz k xs) (.sl .fz k xs) = True := by simp [Gen, V.any, V.map, Tag.notIn, mQ]
theorem Zr (l m : List Nat) (t : Tag) (k : Nat) (h : t.notNN = true) : Gen l m (.c (.slice none 0 0)) (.sl t k []) = True := by
 exact eq_true (.inr (.inr (.inl ⟨rfl, t, k, h, rfl⟩)))
theorem ak {l m : List Nat} {i j : Nat} {e : TypeId} {k : Nat} {xs ys : List V} (h : (l.contains i && l.idxOf i == j) = true) (hx : xs = ys) : Gen l m (.sl (.own i e) k xs) (.sl (.own j e) k ys) := by
 simp only [Bool.and_eq_true, beq_iff_eq, List.contains_iff_mem] at h
 subst hx
 refine .inr (.inl ⟨by simp [V.any, Tag.notIn, h.1], by simp [V.map, mQ, h.2]⟩)
theorem acy {α : Type} (f : Nat → α) (d : Nat) (v : α) (x : Nat) : upd f d v x = if x = d then v else f x := rfl
theorem bU (P : Program) (s : St) (t : Nat) : o7 P s [.tmp t] = some (s.env t) := rfl
theorem Az (P : Program) (s : St) (a b : Nat) : o7 P s [.tmp a, .tmp b] = some (.tup [s.env a, s.env b]) := rfl
theorem uA (P : Program) (s : St) (a b c : Nat) : o7 P s [.tmp a, .tmp b, .tmp c] = some (.tup [s.env a, s.env b, s.env c]) := rfl
theorem xx (P : Program) (s : St) (a b c d : Nat) : o7 P s [.tmp a, .tmp b, .tmp c, .tmp d] = some (.tup [s.env a, s.env b, s.env c, s.env d]) := rfl
def PR (P : Program) (rs : List ResultVar) (r : V) (s : St) : Prop := ∃ r0 l, o7 P s rs = some r0 ∧ List.Nodup l ∧ r0.any (Tag.notIn l) (fun _ => true) false = false ∧ r0.map (mQ l) id = r
theorem PS (P : Program) (rs : List ResultVar) (r : V) (s : St) : Yx P rs r .ret s = PR P rs r s := rfl
theorem ahb (P : Program) (rs : List ResultVar) (r : V) (s : St) : Yx P rs r .normal s = PR P rs r s := rfl
theorem AA {P : Program} {rs : List ResultVar} {r : V} {s : St} (l : List Nat) (r0 : V) (h : o7 P s rs = some r0) (hl : l.Nodup) (hi : r0.any (Tag.notIn l) (fun _ => true) false = false) (hr : r0.map (mQ l) id = r) : PR P rs r s := ⟨r0, l, h, hl, hi, hr⟩
theorem ad3 (x y : Bool) : (bif true then x else y) = x := rfl
theorem ad4 (x y : Bool) : (bif false then x else y) = y := rfl
theorem acz (x y : Prop) : (bif true then x else y) = x := rfl
theorem acA (x y : Prop) : (bif false then x else y) = y := rfl
def pgx := aI @acz (aI @acA (aI @Ph (aI @YQ (aI @ad3 (aI @ad4 (aI @acy (aI @JU (aI @O8 (aI @O9 (aI @Ub (aI @YS (aI @YT (aI @PS @ahb)))))))))))))
theorem aQ {D : Dw} {P : Program} [Tb P] {b : Bool} {x y : Code} {Q : Exit → St → Prop} {s : St} (ht : b = true → wpS D P x Q s) (hf : b = false → wpS D P y Q s) : Ar D P (.c (.bool b)) x y Q s := Ho D P ht hf
theorem aB {P : Program} [Tb P] {b want : Bool} {dsts : List (Option Nat)} {Q : Exit → St → Prop} {o : Oper} {rest : List Oper} {s : St} (ht : b = want → aH P s o (Dp P dsts Q rest)) (hf : b = !want → qV P dsts Q rest (s.put o.dst (.c undef))) :
  lK P (some (.c (.bool b))) want dsts Q o rest s := Eu P ht hf
section
variable {ι : Type} {D : Dw} {P : Program} [Tb P]
def Dt (S : ι → St) (Inv : ι → Prop) (μ : ι → Nat) (i : ι) (s : St) : Prop := ∃ m s3, m < μ i ∧ Weak s s3 ∧ ∃ j, Inv j ∧ μ j = m ∧ s3 = S j
theorem bu {S : ι → St} {Inv : ι → Prop} {μ : ι → Nat} {i : ι} {s : St} (j : ι) (l m : List Nat) (h1 : Inv j) (h2 : μ j < μ i) (h3 : Keep l m s (S j)) : Dt S Inv μ i s := ⟨μ j, S j, h2, h3.weak, j, h1, rfl, rfl⟩
def Du (S : ι → St) (Inv : ι → Prop) (μ : ι → Nat) (i : ι) (Q : Exit → St → Prop) : Exit → St → Prop := uX (Dt S Inv μ i) Q
theorem EF (S : ι → St) (Inv : ι → Prop) (μ : ι → Nat) (i : ι) (Q : Exit → St → Prop) (s : St) : Du S Inv μ i Q .normal s = Dt S Inv μ i s := rfl
theorem J9 (S : ι → St) (Inv : ι → Prop) (μ : ι → Nat) (i : ι) (Q : Exit → St → Prop) (id : Nat) (s : St) : Du S Inv μ i Q (.exit id) s = Q (.exit id) s := rfl
theorem PT (S : ι → St) (Inv : ι → Prop) (μ : ι → Nat) (i : ι) (Q : Exit → St → Prop) (s : St) : Du S Inv μ i Q .ret s = Q .ret s := rfl
theorem Zt {x : Code} {Q : Exit → St → Prop} {s : St} (S : ι → St) (Inv : ι → Prop) (μ : ι → Nat) (i0 : ι) (l m : List Nat) (hk : Keep l m s (S i0)) (h0 : Inv i0)
  (hr : ∀ i, Inv i → ∀ s, s = S i → wpS D P x (Du S Inv μ i Q) s) : Dq D P x Q s := by
 refine ⟨fun n s1 => ∃ i, Inv i ∧ μ i = n ∧ s1 = S i, μ i0, ⟨S i0, hk.weak, i0, h0, rfl, rfl⟩, ?_⟩
 rintro n s1 ⟨i, hi, rfl, rfl⟩
 exact hr i hi _ rfl
end
end Go.Pg
end
namespace Go.Pg
open Go
def oct (l : List Nat) : Prop := ∀ b ∈ l, b < 256
def sB (l : List Nat) : ByteArray := ⟨(l.map UInt8.ofNat).toArray⟩
def bv (l : List Nat) : List V := l.map fun (b : Nat) => V.c (.int .u8 (b : Int))
def sv (l : List (List Nat)) : List V := l.map fun b => V.c (.string (sB b))
theorem kY : oct [] := fun b h => by cases h
theorem lV {a : Nat} (h : a < 256) : oct [a] := by intro x hx; simp only [List.mem_singleton] at hx; omega
theorem aY {a b : List Nat} (h : oct a) (h' : oct b) : oct (a ++ b) := by intro x hx; rcases List.mem_append.1 hx with hx | hx; exact h x hx; exact h' x hx
theorem vI {a : Nat} {l : List Nat} (h : a < 256) (h' : oct l) : oct (a :: l) := aY (a := [a]) (lV h) h'
theorem mY {l : List Nat} (h : oct l) (e : Nat) : oct (l.take e) := fun x hx => h x (List.mem_of_mem_take hx)
theorem dZ {l : List Nat} (h : oct l) (e : Nat) : oct (l.drop e) := fun x hx => h x (List.mem_of_mem_drop hx)
theorem iZ {l : List Nat} (h : oct l) (i : Nat) : l.getD i 0 < 256 := by
 rcases Nat.lt_or_ge i l.length with h1 | h1
 ·simp only [List.getD, List.getElem?_eq_getElem h1, Option.getD_some]; exact h _ (List.getElem_mem h1)
 ·simp [List.getD, h1]
theorem ai (l : List Nat) : (bv l).length = l.length := by simp [bv]
theorem lL (l : List Nat) (i : Nat) (h : i < l.length) : (bv l)[i]? = some (.c (.int .u8 (l.getD i 0 : Nat))) := by simp [bv, h, List.getD]
theorem bQ (l l' : List Nat) : bv l ++ bv l' = bv (l ++ l') := by simp [bv]
theorem Zu (l : List Nat) (n : Nat) : (bv l).take n = bv (l.take n) := by simp [bv, List.map_take]
theorem aix (l : List Nat) (i v : Nat) : (bv l).set i (.c (.int .u8 (v : Int))) = bv (l.set i v) := by simp [bv, List.map_set]
theorem ahO (l : List Nat) : V.flatL (bv l) = true := by
 induction l with
 | nil => rfl
 | cons a l ih => simp only [bv, List.map_cons, V.flatL, V.flat] at ih ⊢; exact ih
theorem Cc (l : List (List Nat)) : (sv l).length = l.length := by simp [sv]
theorem jX (l : List (List Nat)) (i : Nat) (h : i < l.length) : (sv l)[i]? = some (.c (.string (sB (l.getD i [])))) := by simp [sv, h, List.getD]
theorem acB (l l' : List (List Nat)) : sv l ++ sv l' = sv (l ++ l') := by simp [sv]
theorem nX (l : List Nat) : (sB l).size = l.length := by simp [sB, ByteArray.size]
theorem Ko {l : List Nat} (h : oct l) (i : Nat) : ((sB l).data.toList.getD i 0).toNat = l.getD i 0 := by
 simp only [sB, List.getD, List.getElem?_map]
 rcases Nat.lt_or_ge i l.length with h1 | h1
 ·simp only [List.getElem?_eq_getElem h1, Option.map_some, Option.getD_some]
  have := h _ (List.getElem_mem h1)
  simp only [UInt8.toNat_ofNat']
  omega
 ·simp [List.getElem?_eq_none h1]
theorem acC (l : List Nat) (i j : Nat) : (sB l).extract i j = sB ((l.take j).drop i) := by
 apply ByteArray.ext
 rw [ByteArray.data_extract]
 apply Array.ext'
 simp [sB, List.map_drop, List.map_take, List.drop_take]
theorem U9 {a b : List Nat} (ha : oct a) (hb : oct b) (h : sB a = sB b) : a = b := by
 have hl : a.length = b.length := by have := congrArg ByteArray.size h; rwa [nX, nX] at this
 apply List.ext_getElem?
 intro i
 rcases Nat.lt_or_ge i a.length with h1 | h1
 ·have e1 := Ko ha i
  have e2 := Ko hb i
  rw [h] at e1
  have : a.getD i 0 = b.getD i 0 := e1.symm.trans e2
  simp only [List.getD, List.getElem?_eq_getElem h1, List.getElem?_eq_getElem (show i < b.length by omega), Option.getD_some] at this
  rw [List.getElem?_eq_getElem h1, List.getElem?_eq_getElem (show i < b.length by omega), this]
 ·rw [List.getElem?_eq_none h1, List.getElem?_eq_none (by omega)]
theorem jw {a b : List Nat} (ha : oct a) (hb : oct b) : decide (sB a = sB b) = decide (a = b) := by
 by_cases h : a = b
 ·subst h; simp
 ·rw [decide_eq_false h, decide_eq_false (fun e => h (U9 ha hb e))]
theorem Va (l : List Nat) : u8s (bv l) = some (l.map fun (b : Nat) => (b : Int)) := by
 induction l with
 | nil => rfl
 | cons a l ih => simp only [bv, List.map_cons] at ih ⊢; simp only [u8s, ih]; rfl
end Go.Pg
