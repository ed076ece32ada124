/-
  Texts of this claim, merged; own names are short.
-/
import Derived.Handy
import Derived.KernelRfl
import Derived.Test.YtaoejnjkmfkbeaaGreatWAK
import Derived.IntWalk
set_option linter.unusedVariables false
set_option linter.unusedSimpArgs false
set_option linter.unusedSectionVars false
set_option linter.defProp false
set_option maxRecDepth 100000
set_option maxHeartbeats 8000000
section
namespace Go.Pg
open Go
theorem Bh (k : IntKind) (n : Int) : bG (.int k n) = .c (.int k n) := rfl
theorem yJ (b : Bool) : bG (.bool b) = .c (.bool b) := rfl
theorem uK (z : ByteArray) : bG (.string z) = .c (.string z) := rfl
theorem wI (a : Option Addr) (n c : Nat) : bG (.slice a n c) = .c (.slice a n c) := rfl
theorem rO (a : Option Addr) : bG (.pointer a) = .c (.pointer a) := rfl
theorem Bi (l : List Value) : bG (.agg l.toArray) = .agg (l.map .c) := by simp [bG]
theorem NG (l : List V) : Ae l = ⟨mX l 0, fun _ => none, 0, fun _ => .top⟩ := rfl
theorem IQ (k : Nat) : mX [] k = fun _ => .top := rfl
theorem Ej (x : V) (xs : List V) (k : Nat) : mX (x :: xs) k = upd (mX xs (k + 1)) k x := rfl
theorem NH (k : IntKind) (n : Int) : V.cs (.c (.int k n)) = some [.c (.int k n)] := rfl
theorem IR (b : Bool) : V.cs (.c (.bool b)) = some [.c (.bool b)] := rfl
theorem Bj (z : ByteArray) : V.cs (.c (.string z)) = some [.c (.string z)] := rfl
theorem Em (a : Option Addr) (n c : Nat) : V.cs (.c (.slice a n c)) = some [.c (.slice a n c)] := rfl
theorem VC (l : List V) : V.cs (.agg l) = some l := rfl
theorem Xv (t : Tag) (k : Nat) (xs : List V) : V.cs (.sl t k xs) = some [.sl t k xs] := rfl
theorem VD (b o : Nat) : V.cs (.ref b o) = some [.ref b o] := rfl
theorem Xw (f : FuncId) (x y : List V) : V.cs (.fn f x y) = some [.fn f x y] := rfl
theorem IU (k : IntKind) (n : Int) : V.one (.c (.int k n)) = true := rfl
theorem Eo (b : Bool) : V.one (.c (.bool b)) = true := rfl
theorem yK (z : ByteArray) : V.one (.c (.string z)) = true := rfl
theorem Bl (a : Option Addr) (n c : Nat) : V.one (.c (.slice a n c)) = true := rfl
theorem VE (t : Tag) (k : Nat) (xs : List V) : V.one (.sl t k xs) = true := rfl
theorem RJ (b o : Nat) : V.one (.ref b o) = true := rfl
theorem VF (f : FuncId) (x y : List V) : V.one (.fn f x y) = true := rfl
theorem VG (v : Value) : V.free (.c v) = true := rfl
theorem RN (k : Nat) (xs : List V) : V.free (.sl .fz k xs) = true := rfl
theorem NI (l : List V) : V.free (.agg l) = !V.anyL Tag.isOwn (fun _ => true) true l := rfl
theorem NJ (p : Tag → Bool) (q : Nat → Bool) (tp : Bool) : V.anyL p q tp [] = false := rfl
theorem RP (p : Tag → Bool) (q : Nat → Bool) (tp : Bool) (x : V) (xs : List V) : V.anyL p q tp (x :: xs) = (V.any p q tp x || V.anyL p q tp xs) := rfl
theorem Xx (p : Tag → Bool) (q : Nat → Bool) (tp : Bool) (v : Value) : V.any p q tp (.c v) = false := rfl
theorem VH (p : Tag → Bool) (q : Nat → Bool) (tp : Bool) (t : Tag) (k : Nat) (xs : List V) : V.any p q tp (.sl t k xs) = p t := rfl
theorem RQ (p : Tag → Bool) (q : Nat → Bool) (tp : Bool) (l : List V) : V.any p q tp (.agg l) = V.anyL p q tp l := rfl
theorem RS (p : Tag → Bool) (q : Nat → Bool) (tp : Bool) (l : List V) : V.any p q tp (.tup l) = V.anyL p q tp l := rfl
theorem RU (p : Tag → Bool) (q : Nat → Bool) (tp : Bool) (b o : Nat) : V.any p q tp (.ref b o) = q b := rfl
theorem VI (p : Tag → Bool) (q : Nat → Bool) (tp : Bool) (t : Tag) (k : Nat) (xs : List V) (i o : Nat) : V.any p q tp (.el t k xs i o) = p t := rfl
theorem VJ (p : Tag → Bool) (q : Nat → Bool) (tp : Bool) (f : FuncId) (x y : List V) : V.any p q tp (.fn f x y) = (V.anyL p q tp x || V.anyL p q tp y) := rfl
theorem RV (p : Tag → Bool) (q : Nat → Bool) (tp : Bool) : V.any p q tp .top = tp := rfl
theorem NK (τ : Tag → Tag) (ρ : Nat → Nat) : V.mapL τ ρ [] = [] := rfl
theorem RX (τ : Tag → Tag) (ρ : Nat → Nat) (x : V) (xs : List V) : V.mapL τ ρ (x :: xs) = V.map τ ρ x :: V.mapL τ ρ xs := rfl
theorem Xy (τ : Tag → Tag) (ρ : Nat → Nat) (v : Value) : V.map τ ρ (.c v) = .c v := rfl
theorem VK (τ : Tag → Tag) (ρ : Nat → Nat) (t : Tag) (k : Nat) (xs : List V) : V.map τ ρ (.sl t k xs) = .sl (τ t) k xs := rfl
theorem RY (τ : Tag → Tag) (ρ : Nat → Nat) (l : List V) : V.map τ ρ (.agg l) = .agg (V.mapL τ ρ l) := rfl
theorem RZ (τ : Tag → Tag) (ρ : Nat → Nat) (l : List V) : V.map τ ρ (.tup l) = .tup (V.mapL τ ρ l) := rfl
theorem Si (τ : Tag → Tag) (ρ : Nat → Nat) (b o : Nat) : V.map τ ρ (.ref b o) = .ref (ρ b) o := rfl
theorem VL (τ : Tag → Tag) (ρ : Nat → Nat) (t : Tag) (k : Nat) (xs : List V) (i o : Nat) : V.map τ ρ (.el t k xs i o) = .el (τ t) k xs i o := rfl
theorem VM (τ : Tag → Tag) (ρ : Nat → Nat) (f : FuncId) (x y : List V) : V.map τ ρ (.fn f x y) = .fn f (V.mapL τ ρ x) (V.mapL τ ρ y) := rfl
theorem Sj (τ : Tag → Tag) (ρ : Nat → Nat) : V.map τ ρ .top = .top := rfl
theorem VN (i j : Nat) (e : TypeId) : Tag.is i (.own j e) = (j == i) := rfl
theorem Xz (i : Nat) : Tag.is i .fz = false := rfl
theorem XA (i : Nat) : Tag.is i .nn = false := rfl
theorem NL : Tag.isOwn .nn = true := rfl
theorem NM (l : List Nat) : Tag.notIn l .nn = false := rfl
theorem Sl (l : List Nat) : jk l .nn = .nn := rfl
theorem NP (n : Nat) (k : Nat) (xs : List V) : V.shift n (.sl .nn k xs) = .sl .nn k xs := rfl
theorem VO (k : Nat) (xs : List V) : V.idb (.sl .nn k xs) = 0 := rfl
theorem Sm (k : Nat) (xs : List V) : V.flat (.sl .nn k xs) = V.flatL xs := rfl
theorem IV (j : Nat) (e : TypeId) : Tag.isOwn (.own j e) = true := rfl
theorem NQ : Tag.isOwn .fz = false := rfl
theorem IW (l : List Nat) (i : Nat) (e : TypeId) : Tag.notIn l (.own i e) = !l.contains i := rfl
theorem NR (l : List Nat) : Tag.notIn l .fz = false := rfl
theorem NS (l : List Nat) (i : Nat) (e : TypeId) : jk l (.own i e) = .own (l.idxOf i) e := rfl
theorem Sr (l : List Nat) : jk l .fz = .fz := rfl
theorem NT (v : V) : v.erase = v.map (fun _ => .fz) id := rfl
theorem Su (n : Nat) (v : Value) : V.shift n (.c v) = .c v := rfl
theorem IX (n id : Nat) (e : TypeId) (k : Nat) (xs : List V) : V.shift n (.sl (.own id e) k xs) = .sl (.own (id + n) e) k xs := rfl
theorem NU (n : Nat) (k : Nat) (xs : List V) : V.shift n (.sl .fz k xs) = .sl .fz k xs := rfl
theorem Ep (n : Nat) (l : List V) : V.mapL (fun t => match t with | .fz => .fz | .nn => .nn | .own id e => .own (id + n) e) id l = l.map (V.shift n) := oh _ _ _
theorem IY (n : Nat) (l : List V) : V.shift n (.agg l) = .agg (l.map (V.shift n)) := by rw [← Ep]; rfl
theorem IZ (n : Nat) (l : List V) : V.shift n (.tup l) = .tup (l.map (V.shift n)) := by rw [← Ep]; rfl
theorem XB (v : Value) : V.idb (.c v) = 0 := rfl
theorem Sv (id : Nat) (e : TypeId) (k : Nat) (xs : List V) : V.idb (.sl (.own id e) k xs) = id + 1 := rfl
theorem VP (k : Nat) (xs : List V) : V.idb (.sl .fz k xs) = 0 := rfl
theorem Sz (l : List V) : V.idb (.agg l) = V.idbL l := rfl
theorem SA (l : List V) : V.idb (.tup l) = V.idbL l := rfl
theorem NV : V.idbL [] = 0 := rfl
theorem I4 (x : V) (xs : List V) : V.idbL (x :: xs) = max (V.idb x) (V.idbL xs) := rfl
theorem VQ (v : Value) : V.flat (.c v) = true := rfl
theorem NW (id : Nat) (e : TypeId) (k : Nat) (xs : List V) : V.flat (.sl (.own id e) k xs) = V.flatL xs := rfl
theorem SB (k : Nat) (xs : List V) : V.flat (.sl .fz k xs) = false := rfl
theorem NY (l : List V) : V.flat (.agg l) = V.flatL l := rfl
theorem NZ (l : List V) : V.flat (.tup l) = V.flatL l := rfl
theorem I5 : V.flatL [] = true := rfl
theorem Es (x : V) (xs : List V) : V.flatL (x :: xs) = (V.flat x && V.flatL xs) := rfl
theorem yM (l l' : List V) : V.flatL (l ++ l') = (V.flatL l && V.flatL l') := by
 induction l with
 | nil => rfl
 | cons x xs ih => simp [V.flatL, ih, Bool.and_assoc]
theorem N7 (v : V) : v.noRef = !v.any (fun _ => false) (fun _ => true) false := rfl
theorem Et (l : List V) : ownFree l = !V.anyL Tag.isOwn (fun _ => false) false l := rfl
theorem I7 (l : List V) : noRefs l = !V.anyL (fun _ => false) (fun _ => true) false l := rfl
theorem wJ (s : St) : s.freezeAll [] = s := rfl
def kG (ψ : V → V) (e : Nat → V) : Nat → V := fun t => ψ (e t)
def rP (ψ : V → V) (b : Nat → Option (TypeId × List V)) : Nat → Option (TypeId × List V) := fun x => (b x).map fun y => (y.1, y.2.map ψ)
theorem SC (ψ : V → V) (e : Nat → V) (t : Nat) : kG ψ e t = ψ (e t) := rfl
theorem SE (ψ : V → V) (b : Nat → Option (TypeId × List V)) (x : Nat) : rP ψ b x = (b x).map fun y => (y.1, y.2.map ψ) := rfl
theorem I8 (ψ : V → V) : rP ψ (fun _ => none) = fun _ => none := rfl
theorem SG (e : Nat → V) (b : Nat → Option (TypeId × List V)) (n : Nat) (h : Nat → V) (ψ : V → V) : St.mapV ⟨e, b, n, h⟩ ψ = ⟨kG ψ e, rP ψ b, n, kG ψ h⟩ := rfl
theorem I9 (id : Nat) (v : V) : ak id v = if v.has id then .top else v := rfl
theorem VR (id : Nat) (v : V) : v.has id = v.any (Tag.is id) (fun _ => false) false := rfl
theorem VS (id : Nat) (v : V) : frz id v = v.map (fun t => if t.is id then .fz else t) _root_.id := rfl
theorem VT (P : Program) (t : TypeId) (tg : Tag) (k : Nat) (xs : List V) (ik : IntKind) (n : Int) : iaV P t (.sl tg k xs) (.c (.int ik n)) = if (elemT P t).bind (tsz P) = some k ∧ 0 ≤ n ∧ n < xs.length then some (.el tg k xs n.toNat 0) else none := rfl
theorem SH (P : Program) (t : TypeId) (tg : Tag) (k : Nat) (xs : List V) : zO P t (.sl tg k xs) = if (elemT P t).isSome then some (.c (.int .i64 xs.length)) else none := rfl
theorem N8 (P : Program) (t : TypeId) (n c : Nat) : zO P t (.c (.slice none n c)) = if (elemT P t).isSome then some (.c (.int .i64 n)) else none := rfl
theorem N9 (P : Program) (t : TypeId) (z : ByteArray) : zO P t (.c (.string z)) = if cO P t then some (.c (.int .i64 z.size)) else none := rfl
theorem Ja (P : Program) [Tb P] (s : St) (d : Option Nat) (t : TypeId) (b off : Nat) (K : Kd → St → Prop) : Gh P s d t (.ref b off) K = qf (iy P s t b off) s d K := rfl
theorem Oa (P : Program) (s : St) (d : Option Nat) (t : TypeId) (tg : Tag) (k : Nat) (xs : List V) (i off : Nat) (K : Kd → St → Prop) : Gh P s d t (.el tg k xs i off) K = iH ((xs[i]?).bind fun y => y.cs.bind fun cs => aW P t cs off) s d [.el tg k xs i off] K := rfl
theorem uM (P : Program) (s : St) (d : Option Nat) (src dst : TypeId) (x : V) (K : Kd → St → Prop) : xx P s d src dst x K = (iH (jc P src dst x) s d [x] K ∨ qf (eY P s src dst x) s d K ∨ eH ((fZ P src dst x).map fun r => (r, s)) d .x K ∨ eH (jW P s src dst x) d .z K) := rfl
theorem yN (P : Program) (src dst : TypeId) (k' : IntKind) (n : Int) : fZ P src dst (.c (.int k' n)) = none := rfl
theorem Ob (P : Program) (s : St) (src dst : TypeId) (v : Value) : jW P s src dst (.c v) = none := rfl
theorem Jb (P : Program) (s : St) (d : Option Nat) (src dst : TypeId) (k : IntKind) (n : Int) (K : Kd → St → Prop) : xx P s d src dst (.c (.int k n)) K = iH (jc P src dst (.c (.int k n))) s d [.c (.int k n)] K := by
 rw [uM]
 have h1 : (fZ P src dst (.c (.int k n))).map (fun r => (r, s)) = none := rfl
 have h2 : jW P s src dst (.c (.int k n)) = none := rfl
 have h3 : eY P s src dst (.c (.int k n)) = none := rfl
 rw [h1, h2, h3]
 simp only [au, aC, or_false]
theorem SI (l : List V) (i : Nat) : exV (.tup l) i = l[i]? := rfl
theorem Jc (P : Program) (s : St) (d : Option Nat) (t : TypeId) (k : Nat) (xs : List V) (lo hi : Option V) (l : List V) (K : Kd → St → Prop) : qo P s d t (.sl .fz k xs) lo hi l K = iH (slV P t (.sl .fz k xs) lo hi) s d l K := rfl
theorem Oc (P : Program) (s : St) (d : Option Nat) (t : TypeId) (v : Value) (lo hi : Option V) (l : List V) (K : Kd → St → Prop) : qo P s d t (.c v) lo hi l K = iH (slV P t (.c v) lo hi) s d l K := rfl
theorem Eu (P : Program) (s : St) (d : Option Nat) (t : TypeId) (id : Nat) (e : TypeId) (k : Nat) (xs : List V) (lo hi : Option V) (l : List V) (K : Kd → St → Prop) : qo P s d t (.sl (.own id e) k xs) lo hi l K = if lo.all isC && hi.all isC then eH (iC P s t id k xs lo hi) d .z K else False := rfl
theorem yO (P : Program) (t : TypeId) (k : Nat) (xs : List V) (lo hi : Option V) : slV P t (.sl .fz k xs) lo hi = (bdV lo 0).bind fun l => (bdV hi xs.length).bind fun h => if (elemT P t).bind (tsz P) = some k ∧ 0 ≤ l ∧ l ≤ h ∧ h ≤ xs.length then some (.sl .fz k ((xs.take h.toNat).drop l.toNat)) else none := rfl
theorem SK (P : Program) (t : TypeId) (z : ByteArray) (lo hi : Option V) : slV P t (.c (.string z)) lo hi = (bdV lo 0).bind fun l => (bdV hi z.size).bind fun h => if cO P t = true ∧ 0 ≤ l ∧ l ≤ h ∧ h ≤ z.size then some (.c (.string (z.extract l.toNat h.toNat))) else none := rfl
theorem Oe (n : Nat) : bdV none n = some (n : Int) := rfl
theorem SL (k : IntKind) (i : Int) (n : Nat) : bdV (some (.c (.int k i))) n = some i := rfl
theorem SN (P : Program) (t : TypeId) (k : Nat) (tg : Tag) (k' : Nat) (ys : List V) : tN P t k (.sl tg k' ys) = if k' = k ∧ (elemT P t).isSome then some ys else none := rfl
theorem Og (P : Program) (t : TypeId) (k n : Nat) : tN P t k (.c (.slice none 0 n)) = if (elemT P t).isSome then some [] else none := rfl
theorem Oh (P : Program) (t : TypeId) (k : Nat) (z : ByteArray) : tN P t k (.c (.string z)) = if k = 1 ∧ cO P t = true then some (kU z) else none := rfl
theorem qp {P : Program} [Tb P] {g : FuncId} {args : List Operand} {d : Option Nat} {s : St} {K : Kd → St → Prop} {vs : List V} (r : V) (hg : Good P g vs r) (hvs : (args.map s.ev).map V.erase = vs) (h1 : noRefs (args.map s.ev) = true)
  (h2 : r.noRef = true) (h3 : (ownFree (args.map s.ev) || r.flat) = true) (hK : K (kc (.fn g [] [] :: args.map s.ev) [] r) (St.put { s with nid := s.nid + r.idb } d (r.shift s.nid))) : iP P (.fn g [] []) args d s K := by
 refine .inl ⟨[], r, ?_, rfl, ?_, h2, ?_, hK⟩
 ·simpa [St.freezeAll, hvs] using hg
 ·simpa [St.freezeAll] using h1
 ·simpa [St.freezeAll] using h3
section
variable (P : Program) (op : BinOp) (t : TypeId) (x y : V)
theorem Oi (n : Nat) : pY P op t x y (.tmp n) = bn P op t x y := rfl
theorem Oj (k : IntKind) (n : Int) : pY P op t x y (.const (.int k n)) = bn P op t x y := rfl
theorem Ol (z : ByteArray) : pY P op t x y (.const (.string z)) = bn P op t x y := rfl
theorem Jd (b : Bool) : pY P op t x y (.const (.bool b)) = bn P op t x y := rfl
theorem SQ (a : Option Addr) (n c : Nat) : pY P op t x y (.const (.slice a n c)) = bn P op t x y := rfl
theorem Om (a : Option Addr) : pY P op t x y (.const (.pointer a)) = bn P op t x y := rfl
theorem Oo (a : Array Value) : pY P op t x y (.const (.agg a)) = bn P op t x y := rfl
theorem Oq : pY P op t x y (.const .nilIface) = nO P op t x := rfl
theorem Ot (h : lw P t = true) : nO P .eql t (.c .nilIface) = some (.c (.bool true)) := if_pos h
theorem Ou (h : lw P t = true) : nO P .neq t (.c .nilIface) = some (.c (.bool false)) := if_pos h
theorem SS (a : TypeId) (v : Value) (h : lw P t = true) : nO P .eql t (.c (.iface a v)) = some (.c (.bool false)) := if_pos h
theorem SV (a : TypeId) (v : Value) (h : lw P t = true) : nO P .neq t (.c (.iface a v)) = some (.c (.bool true)) := if_pos h
theorem SX : bG .nilIface = .c .nilIface := rfl
end
def pgs :=
 aI @Oi (aI @Oj (aI @Ol (aI @Jd (aI @SQ (aI @Om (aI @Oo (aI @Oq (aI @Ot (aI @Ou (aI @SS (aI @SV (aI @SX (aI @rJ ( aI @nT ( aI @Vz ( aI @MC ( aI @Rl ( aI @Ia ( aI @VA ( aI @Rn ( aI @bg ( aI @aH ( aI @Ic ( aI @au ( aI @Ib ( aI @aC ( aI @MX ( aI @Ef ( aI @Eg ( aI @RF ( aI @Eu ( aI @DU ( aI @yz ( aI @AQ ( aI @DV ( aI @wG ( aI @AU ( aI @AV ( aI @rF ( aI @rG ( aI @uG ( aI @AX ( aI @AY ( aI @Ih ( aI @qm ( aI @rH ( aI @DW ( aI @wH ( aI @DX ( aI @AZ ( aI @A7 ( aI @Ii ( aI @Ij ( aI @Ik ( aI @yD ( aI @uH ( aI @DY ( aI @MJ ( aI @Rw ( aI @MK ( aI @Io ( aI @Rx ( aI @ML ( aI @Ba ( aI @MM ( aI @DZ ( aI @Ip ( aI @Iq ( aI @Ir ( aI @MN ( aI @Iu ( aI @D5 ( aI @Iw ( aI @D6 ( aI @D7 ( aI @MO ( aI @Iy ( aI @Iz ( aI @Bc ( aI @MP ( aI @IA ( aI @MQ ( aI @D8 ( aI @MR ( aI @yE ( aI @IB ( aI @D9 ( aI @Ea ( aI @Rz ( aI @MS ( aI @yG ( aI @IC ( aI @Eb ( aI @uJ ( aI @qW ( aI @MV ( aI @Ec ( aI @Ed ( aI @MW ( aI @IJ ( aI @Na ( aI @Nb ( aI @Nc ( aI @Nk ( aI @RI ( aI @Nl ( aI @Be ( aI @Np ( aI @Nq ( aI @Nr ( aI @Ns ( aI @Nu ( aI @Nv ( aI @Nz ( aI @NC ( aI @ND ( aI @NE ( aI @IK ( aI @IL ( aI @IM ( aI @IP ( aI @Bf ( aI @Ei ( aI @Bg ( aI @NF ( aI @Bh ( aI @yJ ( aI @uK ( aI @wI ( aI @rO ( aI @Bi ( aI @NG ( aI @IQ ( aI @Ej ( aI @NH ( aI @IR ( aI @Bj ( aI @Em ( aI @VC ( aI @Xv ( aI @VD ( aI @Xw ( aI @IU ( aI @Eo ( aI @yK ( aI @Bl ( aI @VE ( aI @RJ ( aI @VF ( aI @VG ( aI @RN ( aI @NI ( aI @NJ ( aI @RP ( aI @Xx ( aI @VH ( aI @RQ ( aI @RS ( aI @RU ( aI @VI ( aI @VJ ( aI @RV ( aI @NK ( aI @RX ( aI @Xy ( aI @VK ( aI @RY ( aI @RZ ( aI @Si ( aI @VL ( aI @VM ( aI @Sj ( aI @VN ( aI @Xz ( aI @IV ( aI @NQ ( aI @IW ( aI @NR ( aI @NS ( aI @Sr ( aI @NT ( aI @Su ( aI @IX ( aI @NU ( aI @Ep ( aI @IY ( aI @IZ ( aI @XB ( aI @Sv ( aI @VP ( aI @Sz ( aI @SA ( aI @NV ( aI @I4 ( aI @VQ ( aI @NW ( aI @SB ( aI @NY ( aI @NZ ( aI @I5 ( aI @Es ( aI @yM ( aI @N7 ( aI @Et ( aI @I7 ( aI @wJ ( aI @SG ( aI @SC ( aI @SE ( aI @I8 ( aI @I9 ( aI @VR ( aI @VS ( aI @SH ( aI @N8 ( aI @N9 ( aI @Ja ( aI @Oa ( aI @Jb ( aI @yN ( aI @Ob ( aI @SI ( aI @Jc ( aI @Oc ( aI @Oe ( aI @SL ( aI @SN ( aI @Og ( @Oh)))))))))))))))))))))))))))))))))))))))))))))))))))))))))))))))))))))))))))))))))))))))))))))))))))))))))))))))))))))))))))))))))))))))))))))))))))))))))))))))))))))))))))))))))))))))))))))))))))))))))))))))))))))))))))))))))))))
def pgl :=
 aI @Option.bind_some.{0,0} ( aI @Option.bind_none.{0,0} ( aI @Option.map_some.{0,0} ( aI @Option.map_none.{0,0} ( aI @Option.isSome_some.{0} ( aI @Option.all_none.{0} ( aI @Option.all_some.{0} ( aI @Option.getD_some.{0} ( aI @List.map_cons.{0,0} ( aI @List.map_nil.{0,0} ( aI @List.length_cons.{0} ( aI @List.length_nil.{0} ( aI @List.set_cons_zero.{0} ( aI @List.set_cons_succ.{0} ( aI @List.getElem?_cons_zero.{0} ( aI @List.getElem?_cons_succ.{0} ( aI @List.all_cons.{0} ( aI @List.all_nil.{0} ( aI @List.replicate_succ.{0} ( aI @List.replicate_zero.{0} ( aI @List.cons_append.{0} ( aI @List.nil_append.{0} ( aI @List.append_nil.{0} ( aI @List.take_zero.{0} ( aI @List.take_succ_cons.{0} ( aI @List.drop_zero.{0} ( aI @List.drop_succ_cons.{0} ( aI @List.drop_nil.{0} ( aI @List.take_nil.{0} ( aI @Bool.and_true ( aI @Bool.true_and ( aI @Bool.and_false ( aI @Bool.false_and ( aI @Bool.or_true ( aI @Bool.or_false ( aI @Bool.true_or ( aI @Bool.false_or ( aI @Bool.not_true ( aI @Bool.not_false ( aI @and_true ( aI @true_and ( aI @and_false ( aI @false_and ( aI @or_false ( aI @false_or ( aI @or_true ( aI @true_or ( aI @List.mapM_cons.{0,0,0} ( aI @List.mapM_nil.{0,0,0} ( aI @Option.pure_def.{0} ( aI @Option.bind_eq_bind.{0} ( aI @List.elem_nil.{0} ( aI @List.elem_cons.{0} ( aI @List.contains_cons.{0} ( aI @List.contains_nil.{0} ( aI @Bool.false_eq_true ( aI @not_true_eq_false ( aI @not_false_eq_true ( @Array.toList_map.{0,0}))))))))))))))))))))))))))))))))))))))))))))))))))))))))))
end Go.Pg
end
section
namespace Go.Pg
open Go
def GenE (l m : List Nat) (e : Nat → V) : List V → Nat → Prop
 | [], _ => True
 | x :: xs, k => Gen l m (e k) x ∧ GenE l m e xs (k + 1)
theorem GenE.at {l m : List Nat} {e : Nat → V} : ∀ (xs : List V) (k : Nat), GenE l m e xs k → ∀ t, Gen l m (e t) (mX xs k t) := by
 intro xs
 induction xs with
 | nil => intro k _ t; exact .inl rfl
 | cons x xs ih =>
  intro k h t
  simp only [mX, upd]
  split
  ·rename_i ht; subst ht; exact h.1
  ·exact ih (k + 1) h.2 t
theorem dJ (l m : List Nat) (v : V) : Gen l m v .top = True := by simp [Gen]
theorem gK (l m : List Nat) (v : Value) : Gen l m (.c v) (.c v) = True := by simp [Gen, V.any, V.map]
theorem eP (l m : List Nat) (k : Nat) (xs : List V) : Gen l m (.sl .fz k xs) (.sl .fz k xs) = True := by simp [Gen, V.any, V.map, Tag.notIn, jk]
theorem SY (l m : List Nat) (t : Tag) (k : Nat) (h : t.notNN = true) : Gen l m (.c (.slice none 0 0)) (.sl t k []) = True := by
 exact eq_true (.inr (.inr (.inl ⟨rfl, t, k, h, rfl⟩)))
theorem aP {l m : List Nat} {i j : Nat} {e : TypeId} {k : Nat} {xs ys : List V} (h : (l.contains i && l.idxOf i == j) = true) (hx : xs = ys) : Gen l m (.sl (.own i e) k xs) (.sl (.own j e) k ys) := by
 simp only [Bool.and_eq_true, beq_iff_eq, List.contains_iff_mem] at h
 subst hx
 refine .inr (.inl ⟨by simp [V.any, Tag.notIn, h.1], by simp [V.map, jk, h.2]⟩)
theorem VU {α : Type} (f : Nat → α) (d : Nat) (v : α) (x : Nat) : upd f d v x = if x = d then v else f x := rfl
theorem lT (P : Program) (s : St) (t : Nat) : lH P s [.tmp t] = some (s.env t) := rfl
theorem uN (P : Program) (s : St) (a b : Nat) : lH P s [.tmp a, .tmp b] = some (.tup [s.env a, s.env b]) := rfl
theorem nV (P : Program) (s : St) (a b c : Nat) : lH P s [.tmp a, .tmp b, .tmp c] = some (.tup [s.env a, s.env b, s.env c]) := rfl
theorem qw (P : Program) (s : St) (a b c d : Nat) : lH P s [.tmp a, .tmp b, .tmp c, .tmp d] = some (.tup [s.env a, s.env b, s.env c, s.env d]) := rfl
def Je (P : Program) (rs : List ResultVar) (r : V) (s : St) : Prop := ∃ r0 l, lH P s rs = some r0 ∧ List.Nodup l ∧ r0.any (Tag.notIn l) (fun _ => true) false = false ∧ r0.map (jk l) id = r
theorem Jf (P : Program) (rs : List ResultVar) (r : V) (s : St) : Q7 P rs r .ret s = Je P rs r s := rfl
theorem yQ (P : Program) (rs : List ResultVar) (r : V) (s : St) : Q7 P rs r .normal s = Je P rs r s := rfl
theorem uO {P : Program} {rs : List ResultVar} {r : V} {s : St} (l : List Nat) (r0 : V) (h : lH P s rs = some r0) (hl : l.Nodup) (hi : r0.any (Tag.notIn l) (fun _ => true) false = false) (hr : r0.map (jk l) id = r) : Je P rs r s := ⟨r0, l, h, hl, hi, hr⟩
theorem XC (x y : Bool) : (bif true then x else y) = x := rfl
theorem XD (x y : Bool) : (bif false then x else y) = y := rfl
theorem VV (x y : Prop) : (bif true then x else y) = x := rfl
theorem VW (x y : Prop) : (bif false then x else y) = y := rfl
def pgx := aI @VV (aI @VW (aI @II (aI @RD (aI @XC (aI @XD (aI @VU (aI @Ee (aI @IE (aI @IG (aI @MZ (aI @RG (aI @RH (aI @Jf @yQ)))))))))))))
theorem fB {D : Dw} {P : Program} [Tb P] {b : Bool} {x y : Code} {Q : Exit → St → Prop} {s : St} (ht : b = true → wpS D P x Q s) (hf : b = false → wpS D P y Q s) : uI D P (.c (.bool b)) x y Q s := Bd D P ht hf
theorem dP {P : Program} [Tb P] {b want : Bool} {dsts : List (Option Nat)} {Q : Exit → St → Prop} {o : Oper} {rest : List Oper} {s : St} (ht : b = want → ai P s o (xy P dsts Q rest)) (hf : b = !want → nU P dsts Q rest (s.put o.dst (.c undef))) :
  iI P (some (.c (.bool b))) want dsts Q o rest s := yH P ht hf
section
variable {ι : Type} {D : Dw} {P : Program} [Tb P]
def Bo (S : ι → St) (Inv : ι → Prop) (μ : ι → Nat) (i : ι) (s : St) : Prop := ∃ m s3, m < μ i ∧ Weak s s3 ∧ ∃ j, Inv j ∧ μ j = m ∧ s3 = S j
theorem aQ {S : ι → St} {Inv : ι → Prop} {μ : ι → Nat} {i : ι} {s : St} (j : ι) (l m : List Nat) (h1 : Inv j) (h2 : μ j < μ i) (h3 : Keep l m s (S j)) : Bo S Inv μ i s := ⟨μ j, S j, h2, h3.weak, j, h1, rfl, rfl⟩
def Bq (S : ι → St) (Inv : ι → Prop) (μ : ι → Nat) (i : ι) (Q : Exit → St → Prop) : Exit → St → Prop := oJ (Bo S Inv μ i) Q
theorem yR (S : ι → St) (Inv : ι → Prop) (μ : ι → Nat) (i : ι) (Q : Exit → St → Prop) (s : St) : Bq S Inv μ i Q .normal s = Bo S Inv μ i s := rfl
theorem Ew (S : ι → St) (Inv : ι → Prop) (μ : ι → Nat) (i : ι) (Q : Exit → St → Prop) (id : Nat) (s : St) : Bq S Inv μ i Q (.exit id) s = Q (.exit id) s := rfl
theorem Jg (S : ι → St) (Inv : ι → Prop) (μ : ι → Nat) (i : ι) (Q : Exit → St → Prop) (s : St) : Bq S Inv μ i Q .ret s = Q .ret s := rfl
theorem S9 {x : Code} {Q : Exit → St → Prop} {s : St} (S : ι → St) (Inv : ι → Prop) (μ : ι → Nat) (i0 : ι) (l m : List Nat) (hk : Keep l m s (S i0)) (h0 : Inv i0)
  (hr : ∀ i, Inv i → ∀ s, s = S i → wpS D P x (Bq S Inv μ i Q) s) : A8 D P x Q s := by
 refine ⟨fun n s1 => ∃ i, Inv i ∧ μ i = n ∧ s1 = S i, μ i0, ⟨S i0, hk.weak, i0, h0, rfl, rfl⟩, ?_⟩
 rintro n s1 ⟨i, hi, rfl, rfl⟩
 exact hr i hi _ rfl
end
end Go.Pg
end
namespace Go.Pg
open Go
def oct (l : List Nat) : Prop := ∀ b ∈ l, b < 256
def sB (l : List Nat) : ByteArray := ⟨(l.map UInt8.ofNat).toArray⟩
def bv (l : List Nat) : List V := l.map fun (b : Nat) => V.c (.int .u8 (b : Int))
def sv (l : List (List Nat)) : List V := l.map fun b => V.c (.string (sB b))
theorem yT : oct [] := fun b h => by cases h
theorem Ov {l : List Nat} (h : oct l) (e : Nat) : oct (l.take e) := fun x hx => h x (List.mem_of_mem_take hx)
theorem Gi {l : List Nat} (h : oct l) (i : Nat) : l.getD i 0 < 256 := by
 rcases Nat.lt_or_ge i l.length with h1 | h1
 ·simp only [List.getD, List.getElem?_eq_getElem h1, Option.getD_some]; exact h _ (List.getElem_mem h1)
 ·simp [List.getD, h1]
theorem uP (l : List Nat) : (bv l).length = l.length := by simp [bv]
theorem VX (l : List Nat) (i : Nat) (h : i < l.length) : (bv l)[i]? = some (.c (.int .u8 (l.getD i 0 : Nat))) := by simp [bv, h, List.getD]
theorem Tc (l : List Nat) (n : Nat) : (bv l).take n = bv (l.take n) := by simp [bv, List.map_take]
theorem bU (l : List (List Nat)) : (sv l).length = l.length := by simp [sv]
theorem iJ (l : List (List Nat)) (i : Nat) (h : i < l.length) : (sv l)[i]? = some (.c (.string (sB (l.getD i [])))) := by simp [sv, h, List.getD]
theorem jM (l : List Nat) : (sB l).size = l.length := by simp [sB, ByteArray.size]
theorem Ey {l : List Nat} (h : oct l) (i : Nat) : ((sB l).data.toList.getD i 0).toNat = l.getD i 0 := by
 simp only [sB, List.getD, List.getElem?_map]
 rcases Nat.lt_or_ge i l.length with h1 | h1
 ·simp only [List.getElem?_eq_getElem h1, Option.map_some, Option.getD_some]
  have := h _ (List.getElem_mem h1)
  simp only [UInt8.toNat_ofNat']
  omega
 ·simp [List.getElem?_eq_none h1]
theorem VY (l : List Nat) (i j : Nat) : (sB l).extract i j = sB ((l.take j).drop i) := by
 apply ByteArray.ext
 rw [ByteArray.data_extract]
 apply Array.ext'
 simp [sB, List.map_drop, List.map_take, List.drop_take]
theorem Ox {a b : List Nat} (ha : oct a) (hb : oct b) (h : sB a = sB b) : a = b := by
 have hl : a.length = b.length := by have := congrArg ByteArray.size h; rwa [jM, jM] at this
 apply List.ext_getElem?
 intro i
 rcases Nat.lt_or_ge i a.length with h1 | h1
 ·have e1 := Ey ha i
  have e2 := Ey hb i
  rw [h] at e1
  have : a.getD i 0 = b.getD i 0 := e1.symm.trans e2
  simp only [List.getD, List.getElem?_eq_getElem h1, List.getElem?_eq_getElem (show i < b.length by omega), Option.getD_some] at this
  rw [List.getElem?_eq_getElem h1, List.getElem?_eq_getElem (show i < b.length by omega), this]
 ·rw [List.getElem?_eq_none h1, List.getElem?_eq_none (by omega)]
theorem uQ {a b : List Nat} (ha : oct a) (hb : oct b) : decide (sB a = sB b) = decide (a = b) := by
 by_cases h : a = b
 ·subst h; simp
 ·rw [decide_eq_false h, decide_eq_false (fun e => h (Ox ha hb e))]
theorem VZ (l : List Nat) : u8s (bv l) = some (l.map fun (b : Nat) => (b : Int)) := by
 induction l with
 | nil => rfl
 | cons a l ih => simp only [bv, List.map_cons] at ih ⊢; simp only [u8s, ih]; rfl
end Go.Pg
