/-
  Texts of this claim, merged; own names are short.
-/
import Derived.WideLaws
import Derived.Test.YtjiolbcdfgclaaaGreatDoorWAC
set_option linter.unusedVariables false
set_option linter.unusedSimpArgs false
set_option linter.unusedSectionVars false
set_option linter.defProp false
set_option maxRecDepth 100000
set_option maxHeartbeats 8000000
section
namespace Go.Pg
open Go
def exV(x:V)(i:Nat):Option V:=match x with | .tup vs=>vs[i]?|_=>none
def uA(P:Program)(t:TypeId):Bool:=match P.underlying t with|some (.interface _)=>true|_=>false
def wQ(P:Program)(op:BinOp)(t:TypeId)(x:V):Option V :=
 match op,x with
 | .eql,.c .nilIface=>if uA P t then some (.c (.bool true)) else none
 | .neq,.c .nilIface=>if uA P t then some (.c (.bool false)) else none
 | .eql,.c (.iface _ _)=>if uA P t then some (.c (.bool false)) else none
 | .neq,.c (.iface _ _)=>if uA P t then some (.c (.bool true)) else none
 | .eql,.nif=>if uA P t then some (.c (.bool false)) else none
 | .neq,.nif=>if uA P t then some (.c (.bool true)) else none
 | _,_=>none
def ap3(P:Program)(t:TypeId):Bool:=match P.underlying t with|some (.interface _)=>false|some _=>true|none=>false
def miV(P:Program)(t:TypeId)(x:V):Option V:=match x with | .c v=>if ap3 P t then some (.c (.iface t v)) else none|_=>none
theorem ap2{P:Program}{L:Lay}{w:World}{t:TypeId}{x r:V}{u:Value}(h:miV P t x=some r)(hx:Rep L w x u):∃v,(Instr.makeInterface t u).run P w = .ok v w∧Rep L w r v:=by
 unfold miV at h
 split at h
 ·rename_i v
  simp only[Rep] at hx;subst hx
  simp only[Option.ite_none_right_eq_some,Option.some.injEq] at h
  obtain⟨h0,rfl⟩:=h
  refine⟨_, ?_,rfl⟩
  unfold ap3 at h0
  split at h0
  ·cases h0
  ·rename_i d hd hu
   simp only[Instr.makeInterface,Sem.run_bind,run_underlying hu,Result.andThen_ok]
   cases d<;>first|rfl|exact absurd hu (hd _)
  ·cases h0
 ·cases h
def zB(P:Program)(op:BinOp)(t:TypeId)(x y:V)(oy:Operand):Option V :=
 match oy with
 | .const .nilIface=>wQ P op t x
 | _=>eu P op t x y
theorem vM{P:Program}{t:TypeId}(h:uA P t=true):P.underlying t=some (.interface (P.methodsAt t)):=by
 unfold uA at h
 split at h
 ·rename_i ms hm;simp [Program.methodsAt,hm]
 ·cases h
theorem W9{P:Program}{L:Lay}{w:World}{op:BinOp}{t:TypeId}{x y r:V}{ux uy:Value}{ox oy:Operand}(h:zB P op t x y oy=some r)(rx:Rep L w x ux)(ry:Rep L w y uy)(hc:∀v,oy = .const v→uy=v) :
  ∃u,(do eqGuard op t ox oy ux uy;Go.binOp op t ux uy:Sem Value).run P w = .ok u w∧Rep L w r u:=by
 unfold zB at h
 split at h
 ·have:=hc _ rfl
  subst this
  unfold wQ at h
  split at h
  ·simp only[Rep] at rx;subst rx
   simp only[Option.ite_none_right_eq_some,Option.some.injEq] at h
   obtain⟨h0,rfl⟩:=h
   exact⟨.bool true,by rw[eqGuard_nil_constR];exact run_eql_nil_nil w t (vM h0),rfl⟩
  ·simp only[Rep] at rx;subst rx
   simp only[Option.ite_none_right_eq_some,Option.some.injEq] at h
   obtain⟨h0,rfl⟩:=h
   exact⟨.bool false,by rw[eqGuard_nil_constR];exact run_neq_nil_nil w t (vM h0),rfl⟩
  ·simp only[Rep] at rx;subst rx
   simp only[Option.ite_none_right_eq_some,Option.some.injEq] at h
   obtain⟨h0,rfl⟩:=h
   exact⟨.bool false,by rw[Sem.run_bind,gp _ _ _ _ _ _ (by simp) (by simp)];exact run_eql_held_nil w t _ _ (vM h0),rfl⟩
  ·simp only[Rep] at rx;subst rx
   simp only[Option.ite_none_right_eq_some,Option.some.injEq] at h
   obtain⟨h0,rfl⟩:=h
   exact⟨.bool true,by rw[Sem.run_bind,gp _ _ _ _ _ _ (by simp) (by simp)];exact run_neq_held_nil w t _ _ (vM h0),rfl⟩
  ·obtain⟨a,v,rfl⟩:=rx
   simp only[Option.ite_none_right_eq_some,Option.some.injEq] at h
   obtain⟨h0,rfl⟩:=h
   exact⟨.bool false,by rw[Sem.run_bind,gp _ _ _ _ _ _ (by simp) (by simp)];exact run_eql_held_nil w t _ _ (vM h0),rfl⟩
  ·obtain⟨a,v,rfl⟩:=rx
   simp only[Option.ite_none_right_eq_some,Option.some.injEq] at h
   obtain⟨h0,rfl⟩:=h
   exact⟨.bool true,by rw[Sem.run_bind,gp _ _ _ _ _ _ (by simp) (by simp)];exact run_neq_held_nil w t _ _ (vM h0),rfl⟩
  ·cases h
 ·exact WT h rx ry _ _
def qv(P:Program)(s:St)(op:Op):Option V :=
 match op with
 | .move x=>some (s.ev x)
 | .assign x=>some (s.ev x)
 | .pick c x y=>match s.ev c with | .c (.bool b)=>some (tZ b (s.ev x) (s.ev y))|_=>none
 | .binOp op t x y _=>zB P op t (s.ev x) (s.ev y) y
 | .unOp op _ x=>unV op (s.ev x)
 | .convert src dst x=>mM P src dst (s.ev x)
 | .extract x i=>exV (s.ev x) i
 | .field t x f=>zx P t (s.ev x) f
 | .index t x i=>ixV P t (s.ev x) (s.ev i)
 | .indexAddr t x i=>iaV P t (s.ev x) (s.ev i)
 | .fieldAddr t x f=>faV P t (s.ev x) f
 | .nilCheck x=>match s.ev x with | .ref b o=>some (.ref b o) | .el t k xs i o=>some (.el t k xs i o) | .fn f fs cs=>some (.fn f fs cs)|_=>none
 | .makeFunc (.func f) fs cs=>some (.fn f (fs.toList.map s.ev) (cs.toList.map s.ev))
 | .build t parts=>wM P t (parts.toList.map fun p=>(p.1,s.ev p.2))
 | .slice t x lo hi none=>slV P t (s.ev x) (lo.map s.ev) (hi.map s.ev)
 | .load t x=>match s.ev x with | .el _ _ xs i off=>(xs[i]?).bind fun y=>y.cs.bind fun cs=>EI P t cs off|_=>none
 | .call { callee := .builtin .len,args,argTypes }=>match args.toList,argTypes.toList with|[x],[t]=>Je P t (s.ev x)|_,_=>none
 | .call { callee := .builtin .unsafeSliceData,args,.. }=>match args.toList with|[x]=>sdV (s.ev x)|_=>none
 | .call { callee := .builtin .max,args,.. }=>match args.toList with|[x,y]=>qx true (s.ev x) (s.ev y)|_=>none
 | .call { callee := .builtin .min,args,.. }=>match args.toList with|[x,y]=>qx false (s.ev x) (s.ev y)|_=>none
 | .makeInterface t x=>miV P t (s.ev x)
 | _=>none
def isC:V→Bool
 | .c _=>true
 | _=>false
def Jp(P:Program)(src dst e:TypeId)(n off:Nat):Bool :=
 match P.underlying src,P.underlying dst with
 | some (.pointer t),some .unsafePointer=>(match P.info? t with|some j=>decide (j.size≠0)&&decide (off<n)|none=>false)
 | some .unsafePointer,some (.pointer u)=>(P.info? u).isSome&&liesAt P P.depth e (n / P.cellsOf e) off u 1
 | _,_=>false
def jF(P:Program)(s:St)(src dst:TypeId)(x:V):Option V :=
 match x with
 | .ref b off=>(s.bx b).bind fun y=>if Jp P src dst y.1 y.2.length off=true then some (.ref b off) else none
 | _=>none
def xv(P:Program)(s:St)(op:Op):Option (V × St) :=
 match op with
 | .alloc e=>uu P s e
 | .box e x=>MZ s e (s.ev x)
 | .buildSlice t len parts=>bV P s t len (parts.toList.map fun p=>(p.1,s.ev p.2))
 | .store t x y=>match s.ev x with
  | .ref b off=>(lZ P s t b off (s.ev y)).map fun s'=>(.top,s')
  | .el (.own id _) k xs i off=>(mY P s t id k xs i off (s.ev y)).map fun s'=>(.top,s')
  | _=>none
 | .makeSlice t l c=>xG P s t (s.ev l) (s.ev c)
 | .convert src dst x=>(kz P src dst (s.ev x)).map fun r=>(r,s)
 | .call { callee := .builtin .append,args,argTypes }=>match args.toList,argTypes.toList with|[x,y],[t,t2]=>lC P s t t2 (s.ev x) (s.ev y)|_,_=>none
 | _=>none
mutual
def V.ids:V→List Nat
 | .c _=>[]
 | .sl (.own id _) _ _=>[id]
 | .sl .fz _ _=>[]
 | .sl .nn _ _=>[]
 | .agg cs=>V.idsL cs
 | .tup cs=>V.idsL cs
 | .ref _ _=>[]
 | .el (.own id _) _ _ _ _=>[id]
 | .el .fz _ _ _ _=>[]
 | .el .nn _ _ _ _=>[]
 | .fn _ fs cs=>V.idsL fs++V.idsL cs
 | .top=>[]
 | .nif=>[]
def V.idsL:List V→List Nat
 | []=>[]
 | x::xs=>V.ids x++V.idsL xs
end
def frX(P:Program)(s:St)(ids:List Nat)(op:Op):Option (V × St) :=
 match ids with
 | []=>none
 | i::l=>xv P (s.freezeAll (i::l)) op
def zv(P:Program)(s:St)(op:Op):Option (V × St) :=
 match op with
 | .slice t x lo hi none=>match s.ev x with
  | .sl (.own id _) k xs=>if (lo.map s.ev).all isC&&(hi.map s.ev).all isC then nO P s t id k xs (lo.map s.ev) (hi.map s.ev) else none
  | .ref b off=>xH P s t b off (lo.map s.ev) (hi.map s.ev)
  | _=>none
 | .convert src dst x=>mX P s src dst (s.ev x)
 | .buildSlice t len parts=>frX P s (V.idsL (parts.toList.map fun p=>s.ev p.2)) (.buildSlice t len parts)
 | .store t x y=>match s.ev x with | .el (.own _ _) _ _ _ _=>frX P s (s.ev y).ids (.store t x y)|_=>none
 | .call { callee := .builtin .unsafeString,args,argTypes }=>match args.toList,argTypes.toList with|[x,n],[pt,_]=>usV P s pt (s.ev x) (s.ev n)|_,_=>none
 | _=>none
def rv(P:Program)(s:St)(op:Op):Option V :=
 match op with
 | .load t x=>match s.ev x with | .ref b off=>nN P s t b off|_=>none
 | .convert src dst x=>jF P s src dst (s.ev x)
 | _=>none
def jV(x:Option (V × St))(d:Option Nat)(k:Kd)(K:Kd→St→Prop):Prop :=
 match x with
 | some (r,s')=>K k (s'.put d r)
 | none=>False
def oM(x:Option V)(s:St)(d:Option Nat)(l:List V)(K:Kd→St→Prop):Prop :=
 match x with
 | some r=>K (kq l r) (s.put d r)
 | none=>False
def xI(f:List V→V→Kd)(x:Option V)(s:St)(d:Option Nat)(l:List V)(K:Kd→St→Prop):Prop :=
 match x with
 | some r=>K (f l r) (s.put d r)
 | none=>False
def kqo(op:Op):List V→V→Kd :=
 match op with
 | .move _=>ka
 | .assign _=>ka
 | .indexAddr _ _ _=>ka
 | .fieldAddr _ _ _=>ka
 | _=>kq
def Bf:V→Kd
 | .c (.slice none 0 0) => .n
 | .sl (.own id _) _ _ => .g id
 | _ => .x
def kx(s:St)(op:Op):Kd :=
 match op with
 | .store _ x _=>(match s.ev x with | .el (.own id _) k _ _ _ => .w id k|_ => .x)
 | .buildSlice _ _ _ => .n
 | .makeSlice _ _ _ => .n
 | .call { callee := .value _,.. } => .n
 | .call { callee := .builtin .append,args:=⟨[x,_]⟩,.. }=>Bf (s.ev x)
 | _ => .x
theorem iI(x:Option V)(s:St)(d:Option Nat)(l:List V)(K:Kd→St→Prop):xI kq x s d l K=oM x s d l K:=rfl
def xJ(x:Option V)(s:St)(d:Option Nat)(K:Kd→St→Prop):Prop :=
 match x with
 | some r=>K (kr r) (s.put d r)
 | none=>False
def az(P:Program)[Tb P](s:St)(o:Oper)(K:Kd→St→Prop):Prop :=
 match o.op with
 | .call { callee := .value f,args,.. }=>gU P (s.ev f) args.toList o.dst s K
 | op=>xI (kqo op) (qv P s op) s o.dst (op.operands.toList.map s.ev) K∨xJ (rv P s op) s o.dst K∨jV (xv P s op) o.dst (kx s op) K∨jV (zv P s op) o.dst .z K
section
variable {P:Program} [Tb P] {C:Cx} {s:St} {L L':Lay} {a:Act} {w w':World}
def Does(P:Program)(o:Oper)(a:Act)(w:World)(u:Value)(w':World):Prop :=
 (execOp a.eval o).run P w = .ok (.value u) w'∨((execOp a.eval o).run P w = .ok .skip w'∧u=undef)
theorem Does.wp{o:Oper}{u:Value}{next:Act→World→Prop}{Q:Exit→Act→World→Prop}(h:Does P o a w u w')(hn:next (a.put o.dst u) w'):o.wp P a w next Q:=by
 unfold Oper.wp
 rcases h with h|⟨h,rfl⟩<;>rw[h]<;>exact hn
theorem evs(S:Sim C s L a w)(l:List Operand):Reps L w (l.map s.ev) (l.map a.eval):=by
 induction l with
 | nil=>rfl
 | cons x xs ih=>exact⟨_,_,rfl,S.ev x,ih⟩
theorem GY(S:Sim C s L a w)(o:Option Operand):o.map s.ev=none∧o.map a.eval=none∨∃v u,o.map s.ev=some v∧o.map a.eval=some u∧Rep L w v u:=by
 cases o with
 | none=>exact .inl ⟨rfl,rfl⟩
 | some x=>exact .inr ⟨_,_,rfl,rfl,S.ev x⟩
theorem QD{o:Oper}{r:V}(h:qv P s o.op=some r)(S:Sim C s L a w):∃u,Does P o a w u w∧Rep L w r u:=by
 obtain⟨dst,op,type,pos,after,guard⟩:=o
 simp only at h
 unfold qv at h
 split at h
 ·simp only[Option.some.injEq] at h;subst h
  exact⟨_,.inl rfl,S.ev _⟩
 ·simp only[Option.some.injEq] at h;subst h
  exact⟨_,.inl rfl,S.ev _⟩
 ·rename_i c x y
  split at h
  ·rename_i b hb
   simp only[Option.some.injEq] at h;subst h
   have hc:=S.ev c
   rw[hb] at hc
   simp only[Rep] at hc
   refine⟨if b then a.eval x else a.eval y,.inl ?_,Tm (S.ev x) (S.ev y)⟩
   simp only[execOp,hc,asBool,Sem.run_bind,Sem.run_pure,Result.andThen_ok]
  ·cases h
 ·rename_i op t x y yt
  obtain⟨u,h1,h2⟩:=W9 (ox:=x) h (S.ev x) (S.ev y) (fun v hv=>by subst hv;rfl)
  exact⟨u,.inl (by simp only[execOp];rw[Sem.run_bind];rw[h1];rfl),h2⟩
 ·rename_i op t x
  obtain⟨u,h1,h2⟩:=acX (P:=P) h (S.ev x)
  exact⟨u,.inl (by simp only[execOp,Sem.run_bind,h1,Result.andThen_ok,Sem.run_pure]),h2⟩
 ·rename_i src dst' x
  obtain⟨u,h1,h2⟩:=Tj h (S.ev x)
  exact⟨u,.inl (by simp only[execOp,Sem.run_bind,h1,Result.andThen_ok,Sem.run_pure]),h2⟩
 ·rename_i x i
  unfold exV at h
  split at h
  ·rename_i vs hvs
   have hx:=S.ev x
   rw[hvs] at hx
   obtain⟨ar,har,hr⟩:=hx
   obtain⟨u,h1,h2⟩:=hr.get h
   refine⟨u,.inl ?_,h2⟩
   simp only[Array.getElem?_toList] at h1
   simp only[execOp,har,Instr.extract,h1,Sem.run_bind,Sem.run_pure,Result.andThen_ok]
  ·cases h
 ·rename_i t x f
  obtain⟨u,h1,h2⟩:=MW h (S.ev x)
  exact⟨u,.inl (by simp only[execOp,Sem.run_bind,h1,Result.andThen_ok,Sem.run_pure]),h2⟩
 ·rename_i t x i
  obtain⟨u,h1,h2⟩:=ac0 h (S.ev x) (S.ev i)
  exact⟨u,.inl (by simp only[execOp,Sem.run_bind,h1,Result.andThen_ok,Sem.run_pure]),h2⟩
 ·rename_i t x i
  obtain⟨u,h1,h2⟩:=acY h (S.ev x) (S.ev i)
  exact⟨u,.inl (by simp only[execOp,Sem.run_bind,h1,Result.andThen_ok,Sem.run_pure]),h2⟩
 ·rename_i t x f
  obtain⟨u,h1,h2⟩:=acZ h (S.ev x)
  exact⟨u,.inl (by simp only[execOp,Sem.run_bind,h1,Result.andThen_ok,Sem.run_pure]),h2⟩
 ·rename_i x
  have hx:=S.ev x
  split at h
  ·rename_i b o hb
   simp only[Option.some.injEq] at h;subst h
   rw[hb] at hx
   obtain⟨g,h1,h2⟩:=hx
   exact⟨_,.inl (by simp only[execOp,h2];rfl),g,h1,rfl⟩
  ·rename_i t k xs i o hb
   simp only[Option.some.injEq] at h;subst h
   rw[hb] at hx
   have hx':=hx
   obtain⟨g,o',cells,h2,_⟩:=hx
   exact⟨_,.inl (by simp only[execOp,h2];rfl),h2 ▸ hx'⟩
  ·rename_i f fs cs hb
   simp only[Option.some.injEq] at h;subst h
   rw[hb] at hx
   have hx':=hx
   obtain⟨a1,b1,h2,_⟩:=hx
   exact⟨_,.inl (by simp only[execOp,h2];rfl),h2 ▸ hx'⟩
  ·cases h
 ·rename_i f fs cs
  simp only[Option.some.injEq] at h;subst h
  exact⟨_,.inl rfl,_,_,rfl,by simpa using evs S fs.toList,by simpa using evs S cs.toList⟩
 ·rename_i t parts
  obtain⟨u,h1,h2⟩:=MX (parts:=parts) s.ev a.eval S.ev h
  exact⟨u,.inl (by simp only[execOp,Sem.run_bind,h1,Result.andThen_ok,Sem.run_pure]),h2⟩
 ·rename_i t x lo hi
  obtain⟨u,h1,h2⟩:=QB h (S.ev x) (GY S lo) (GY S hi)
  exact⟨u,.inl (by simp only[execOp,Sem.run_bind,Option.map_none,h1,Result.andThen_ok,Sem.run_pure]),h2⟩
 ·rename_i t x
  split at h
  ·rename_i tg k xs i off hx
   simp only[Option.bind_eq_some_iff] at h
   obtain⟨y,hy,cs,hcs,h⟩:=h
   have hr:=S.ev x
   rw[hx] at hr
   obtain⟨u,h1,h2⟩:=WV hr hy hcs h
   exact⟨u,.inl (by simp only[execOp,Sem.run_bind,h1,Result.andThen_ok,Sem.run_pure]),h2⟩
  ·cases h
 ·rename_i args argTypes
  split at h
  ·rename_i x t hx ht
   obtain⟨u,h1,h2⟩:=WU (ty:=type) h (S.ev x)
   have e1:args=#[x]:=by apply Array.ext';simpa using hx
   have e2:argTypes=#[t]:=by apply Array.ext';simpa using ht
   subst e1;subst e2
   refine⟨u,.inl ?_,h2⟩
   simp only[execOp,resolve,Sem.run_bind,Sem.run_pure,Result.andThen_ok,invoke,builtin,List.map_toArray,List.map_cons,List.map_nil]
   rw[h1];rfl
  ·cases h
 ·rename_i args argTypes
  split at h
  ·rename_i x hx
   obtain⟨u,h1,h2⟩:=ac3 (P:=P) h (S.ev x) argTypes type
   have e1:args=#[x]:=by apply Array.ext';simpa using hx
   subst e1
   refine⟨u,.inl ?_,h2⟩
   simp only[execOp,resolve,Sem.run_bind,Sem.run_pure,Result.andThen_ok,invoke,builtin,List.map_toArray,List.map_cons,List.map_nil]
   rw[h1];rfl
  ·cases h
 ·rename_i args argTypes
  split at h
  ·rename_i x y hx
   obtain⟨u,h1,h2⟩:=AB (P:=P) (at_:=argTypes) (ty:=type) h (S.ev x) (S.ev y)
   have e1:args=#[x,y]:=by apply Array.ext';simpa using hx
   subst e1
   refine⟨u,.inl ?_,h2⟩
   simp only[execOp,resolve,Sem.run_bind,Sem.run_pure,Result.andThen_ok,invoke,builtin,List.map_toArray,List.map_cons,List.map_nil]
   simp only[if_true] at h1
   rw[h1];rfl
  ·cases h
 ·rename_i args argTypes
  split at h
  ·rename_i x y hx
   obtain⟨u,h1,h2⟩:=AB (P:=P) (at_:=argTypes) (ty:=type) h (S.ev x) (S.ev y)
   have e1:args=#[x,y]:=by apply Array.ext';simpa using hx
   subst e1
   refine⟨u,.inl ?_,h2⟩
   simp only[execOp,resolve,Sem.run_bind,Sem.run_pure,Result.andThen_ok,invoke,builtin,List.map_toArray,List.map_cons,List.map_nil]
   simp only[Bool.false_eq_true,if_false] at h1
   rw[h1];rfl
  ·cases h
 ·rename_i t x
  obtain⟨u,h1,h2⟩:=ap2 h (S.ev x)
  exact⟨u,.inl (by simp only[execOp,Sem.run_bind,h1,Result.andThen_ok,Sem.run_pure]),h2⟩
 ·cases h
theorem Nj{src dst:TypeId}{x r:V}{ux:Value}(h:jF P s src dst x=some r)(S:Sim C s L a w)(hx:Rep L w x ux):∃u,(convert src dst ux).run P w = .ok u w∧Rep L w r u:=by
 unfold jF at h
 split at h
 ·rename_i b off
  simp only[Option.bind_eq_some_iff,Option.ite_none_right_eq_some,Option.some.injEq] at h
  obtain⟨⟨e,cs⟩,hb,h0,rfl⟩:=h
  obtain⟨g,arr,hg,ha,hr⟩:=S.box b _ hb
  have hx':=hx
  obtain⟨g',hg',rfl⟩:=hx
  rw[hg] at hg'
  simp only[Option.some.injEq] at hg'
  subst hg'
  have hl:arr.size=cs.length:=by simpa using hr.length
  have hsh:w.shape? g=some (e,arr.size):=by simp [World.shape?,ha]
  unfold Jp at h0
  split at h0
  ·rename_i t hs hd
   split at h0
   ·rename_i j hj
    simp only[Bool.and_eq_true,decide_eq_true_eq] at h0
    exact⟨_,Lib.run_to_unsafe w _ hs hd hj h0.1 hsh (by rw[hl];exact h0.2),hx'⟩
   ·cases h0
  ·rename_i u hs hd
   simp only[Bool.and_eq_true] at h0
   obtain⟨j,hj⟩:=Option.isSome_iff_exists.1 h0.1
   refine⟨_,Lib.run_from_unsafe w _ hs hd hj hsh ?_,hx'⟩
   rw[hl];exact h0.2
  ·cases h0
 ·cases h
theorem ac4{o:Oper}{r:V}(h:rv P s o.op=some r)(S:Sim C s L a w):∃u,Does P o a w u w∧Rep L w r u:=by
 obtain⟨dst,op,type,pos,after,guard⟩:=o
 simp only at h
 unfold rv at h
 split at h
 ·rename_i t x
  split at h
  ·rename_i b off hx
   have hr:=S.ev x
   rw[hx] at hr
   obtain⟨u,h1,h2⟩:=CB h S hr
   exact⟨u,.inl (by simp only[execOp,Sem.run_bind,h1,Result.andThen_ok,Sem.run_pure]),h2⟩
  ·cases h
 ·rename_i src dst' x
  obtain⟨u,h1,h2⟩:=Nj h S (S.ev x)
  exact⟨u,.inl (by simp only[execOp,Sem.run_bind,h1,Result.andThen_ok,Sem.run_pure]),h2⟩
 ·cases h
theorem QE{o:Oper}{r:V}{s':St}(h:xv P s o.op=some (r,s'))(S:Sim C s L a w):∃u w' L',Does P o a w u w'∧Sim C s' L' a w'∧Rep L' w' r u:=by
 obtain⟨dst,op,type,pos,after,guard⟩:=o
 simp only at h
 unfold xv at h
 split at h
 ·obtain⟨u,w',L',h1,h2,h3⟩:=Tn h S
  exact⟨u,w',L',.inl (by simp only[execOp,Sem.run_bind,h1,Result.andThen_ok,Sem.run_pure]),h2,h3⟩
 ·rename_i e x
  obtain⟨u,w',L',h1,h2,h3⟩:=ac1 (P:=P) (elem:=e) h S (S.ev x)
  exact⟨u,w',L',.inl (by simp only[execOp,Sem.run_bind,h1,Result.andThen_ok,Sem.run_pure]),h2,h3⟩
 ·rename_i t len parts
  obtain⟨u,w',L',h1,h2,h3⟩:=CP (parts:=parts) S h
  exact⟨u,w',L',.inl (by simp only[execOp,Sem.run_bind,h1,Result.andThen_ok,Sem.run_pure]),h2,h3⟩
 ·rename_i t x y
  have hx:=S.ev x
  split at h
  ·rename_i b off hb
   simp only[Option.map_eq_some_iff,Prod.mk.injEq] at h
   obtain⟨s1,h,rfl,rfl⟩:=h
   rw[hb] at hx
   obtain⟨w',h1,h2⟩:=Fz h S hx (S.ev y)
   exact⟨undef,w',L,.inr ⟨by simp only[execOp,Sem.run_bind,h1,Result.andThen_ok,Sem.run_pure],rfl⟩,h2,trivial⟩
  ·rename_i id e k xs i off hb
   simp only[Option.map_eq_some_iff,Prod.mk.injEq] at h
   obtain⟨s1,h,rfl,rfl⟩:=h
   rw[hb] at hx
   obtain⟨w',h1,h2⟩:=Tu h S hx (S.ev y)
   exact⟨undef,w',L,.inr ⟨by simp only[execOp,Sem.run_bind,h1,Result.andThen_ok,Sem.run_pure],rfl⟩,h2,trivial⟩
  ·cases h
 ·rename_i t l c
  obtain⟨u,w',L',h1,h2,h3⟩:=WX h S (S.ev l) (S.ev c)
  exact⟨u,w',L',.inl (by simp only[execOp,Sem.run_bind,h1,Result.andThen_ok,Sem.run_pure]),h2,h3⟩
 ·rename_i src dst' x
  simp only[Option.map_eq_some_iff,Prod.mk.injEq] at h
  obtain⟨r',h,rfl,rfl⟩:=h
  obtain⟨u,w',L',h1,h2,h3⟩:=Jj h S (S.ev x)
  exact⟨u,w',L',.inl (by simp only[execOp,Sem.run_bind,h1,Result.andThen_ok,Sem.run_pure]),h2,h3⟩
 ·rename_i args argTypes
  split at h
  ·rename_i x y t t2 hx ht
   obtain⟨u,w',L',h1,h2,h3⟩:=Na (ty:=type) h S (S.ev x) (S.ev y)
   have e1:args=#[x,y]:=by apply Array.ext';simpa using hx
   have e2:argTypes=#[t,t2]:=by apply Array.ext';simpa using ht
   subst e1;subst e2
   refine⟨u,w',L',.inl ?_,h2,h3⟩
   simp only[execOp,resolve,Sem.run_bind,Sem.run_pure,Result.andThen_ok,invoke,builtin,List.map_toArray,List.map_cons,List.map_nil]
   rw[h1];rfl
  ·cases h
 ·cases h
theorem Jq{o:Oper}{ids:List Nat}{r:V}{s':St}(h:frX P s ids o.op=some (r,s'))(S:Sim C s L a w):∃u w' L',Does P o a w u w'∧Sim C s' L' a w'∧Rep L' w' r u:=by
 unfold frX at h
 split at h
 ·cases h
 ·rename_i i l
  obtain⟨L1,S1,_⟩:=Sim.freezeAll (i::l) S
  exact QE h S1
theorem ac5{o:Oper}{r:V}{s':St}(h:zv P s o.op=some (r,s'))(S:Sim C s L a w):∃u w' L',Does P o a w u w'∧Sim C s' L' a w'∧Rep L' w' r u:=by
 obtain⟨dst,op,type,pos,after,guard⟩:=o
 simp only at h
 unfold zv at h
 split at h
 ·rename_i t x lo hi
  split at h
  ·rename_i id e k xs hb
   simp only[Option.ite_none_right_eq_some,Bool.and_eq_true] at h
   obtain⟨⟨h1,h2⟩,h⟩:=h
   have hx:=S.ev x
   rw[hb] at hx
   have isC_of:∀(o:Option Operand),(o.map s.ev).all isC=true→∀x,o=some x→∃u,s.ev x = .c u:=by
    rintro o ho x rfl
    simp only[Option.map_some,Option.all_some] at ho
    generalize s.ev x=v at ho
    cases v<;>simp only[isC,Bool.false_eq_true] at ho
    exact⟨_,rfl⟩
   obtain⟨u,L',h3,h4,h5⟩:=Ji h S hx (isC_of lo h1) (isC_of hi h2)
   exact⟨u,w,L',.inl (by simp only[execOp,Sem.run_bind,Option.map_none,h3,Result.andThen_ok,Sem.run_pure]),h4,h5⟩
  ·rename_i b off hb
   have hx:=S.ev x
   rw[hb] at hx
   obtain⟨u,L',h3,h4,h5⟩:=Jk h S hx (GY S lo) (GY S hi)
   exact⟨u,w,L',.inl (by simp only[execOp,Sem.run_bind,Option.map_none,h3,Result.andThen_ok,Sem.run_pure]),h4,h5⟩
  ·cases h
 ·rename_i src dst' x
  obtain⟨u,w',L',h1,h2,h3⟩:=Tq h S (S.ev x)
  exact⟨u,w',L',.inl (by simp only[execOp,Sem.run_bind,h1,Result.andThen_ok,Sem.run_pure]),h2,h3⟩
 ·exact Jq (o:=⟨dst,_,type,pos,after,guard⟩) h S
 ·split at h
  ·exact Jq (o:=⟨dst,_,type,pos,after,guard⟩) h S
  ·cases h
 ·rename_i args argTypes
  split at h
  ·rename_i x n pt it hx ht
   obtain⟨u,w',L',h1,h2,h3⟩:=ahr (it:=it) (ty:=type) h S (S.ev x) (S.ev n)
   have e1:args=#[x,n]:=by apply Array.ext';simpa using hx
   have e2:argTypes=#[pt,it]:=by apply Array.ext';simpa using ht
   subst e1;subst e2
   refine⟨u,w',L',.inl ?_,h2,h3⟩
   simp only[execOp,resolve,Sem.run_bind,Sem.run_pure,Result.andThen_ok,invoke,builtin,List.map_toArray,List.map_cons,List.map_nil]
   rw[h1];rfl
  ·cases h
 ·cases h
theorem jo{l l':List V}:ownFree (l++l')=(ownFree l&&ownFree l'):=by
 simp [ownFree,Jo]
theorem AL{l:List V}(h:ownFree l=true):∀v∈l,ownFree [v]=true:=by
 induction l with
 | nil=>intro v hv;cases hv
 | cons x xs ih =>
  simp only[ownFree,V.anyL,Bool.not_eq_eq_eq_not,Bool.not_true,Bool.or_eq_false_iff] at h
  intro v hv
  rcases List.mem_cons.1 hv with rfl|hv
  ·simp [ownFree,V.anyL,h.1]
  ·exact ih (by simp [ownFree,h.2]) v hv
theorem Reps.of{l:List V}{us:List Value}(h:Reps L w l us)(hf:∀v∈l,∀u,Rep L w v u→Rep L' w' v u):Reps L' w' l us:=by
 induction l generalizing us with
 | nil=>exact h
 | cons x xs ih=>obtain⟨u,r,rfl,h2,h3⟩:=h;exact⟨u,r,rfl,hf x (by simp) u h2,ih h3 (fun v hv=>hf v (by simp [hv]))⟩
theorem sD{f:FuncId}(h:zA P f=true)(args:Array Value):(callFunc f args).run P w = .ok (.enter f args) w:=by
 unfold zA at h
 split at h
 ·rename_i fn hf
  simp only[Bool.and_eq_true,Bool.not_eq_eq_eq_not,Bool.not_true] at h
  have hn:¬fn.name = "runtime.NumGoroutine" := by simpa using h.1
  have hb:¬fn.body=none:=fun e=>by rw[e] at h;simp at h
  simp [callFunc,hf,hn,hb]
 ·cases h
theorem Ff{o:Oper}{K:Kd→St→Prop}{next:Act→World→Prop}{Q:Exit→Act→World→Prop}(h:az P s o K)(hT:C.TOk P)(S:Sim C s L a w)(hd:∀t,o.dst=some t→t<C.n)
  (hn:∀κ s' L' a' w',K κ s'→Sim C s' L' a' w'→next a' w'):o.wp P a w next Q:=by
 unfold az at h
 split at h
 ·rename_i f args argTypes heq
  unfold gU at h
  split at h
  ·rename_i g fs cs hf
   rcases h with h|⟨s1,r,hz,hK⟩
   case inr =>
    have hfv:=S.ev f
    rw[hf] at hfv
    obtain⟨af,ac,hfe,hrf,hrc⟩:=hfv
    have hargs:Reps L w (fs++args.toList.map s.ev++cs) (af.toList++args.toList.map a.eval++ac.toList):=(hrf.append (evs S args.toList)).append hrc
    have e1:(af.toList++args.toList.map a.eval++ac.toList).toArray=af++args.map a.eval++ac:=by
     apply Array.ext';simp
    rcases hz C L a w _ hT S hargs with ⟨hen,hcall⟩|⟨u,w',L',hrun,S2,hr2⟩
    ·rw[e1] at hcall
     have hexec:(execOp a.eval o).run P w = .ok (.enter g (af++args.map a.eval++ac)) w:=by
      simp only[execOp,heq,resolve,hfe,Deferred.ofValue,Sem.run_bind,Sem.run_pure,Result.andThen_ok,invoke]
      exact sD hen _
     unfold Oper.wp
     rw[hexec]
     simp only[Oper.upon]
     refine hcall.mono ?_
     rintro e w' ⟨u,L2,rfl,S2,hr2⟩
     exact hn _ _ _ _ _ hK (S2.put hr2 hd)
    ·rw[e1] at hrun
     have hexec:(execOp a.eval o).run P w = .ok (.value u) w':=by
      simp only[execOp,heq,resolve,hfe,Deferred.ofValue,Sem.run_bind,Sem.run_pure,Result.andThen_ok,invoke]
      exact hrun
     unfold Oper.wp
     rw[hexec]
     simp only[Oper.upon]
     exact hn _ _ _ _ _ hK (S2.put hr2 hd)
   obtain⟨ids,r,hg,hown,href,hrr,hof,hK⟩:=h
   have hfv:=S.ev f
   rw[hf] at hfv
   obtain⟨af,ac,hfe,hrf,hrc⟩:=hfv
   obtain⟨L1,S1,hfree⟩:=S.freezeAll ids
   rw[jo,Bool.and_eq_true] at hown
   have hrf':=hrf.of (fun v hv u h=>hfree v u (AL hown.1 v hv) h)
   have hrc':=hrc.of (fun v hv u h=>hfree v u (AL hown.2 v hv) h)
   have hargs:Reps L1 w (fs++args.toList.map (s.freezeAll ids).ev++cs) (af.toList++args.toList.map a.eval++ac.toList):=(hrf'.append (evs S1 args.toList)).append hrc'
   have hof':(ownFree (fs++args.toList.map (s.freezeAll ids).ev++cs)||r.flat)=true:=by
    rw[jo,jo,hown.1,hown.2]
    simpa using hof
   have hcall:=TA hT S1 hargs hg href hrr hof'
   have hexec:(execOp a.eval o).run P w = .ok (.enter g (af++args.map a.eval++ac)) w:=by
    simp only[execOp,heq,resolve,hfe,Deferred.ofValue,Sem.run_bind,Sem.run_pure,Result.andThen_ok,invoke]
    exact sD hg.1 _
   unfold Oper.wp
   rw[hexec]
   simp only[Oper.upon]
   have e1:(af.toList++args.toList.map a.eval++ac.toList).toArray=af++args.map a.eval++ac:=by
    apply Array.ext';simp
   rw[e1] at hcall
   refine hcall.mono ?_
   rintro e w' ⟨u,L2,rfl,S2,hr2⟩
   rw[EK] at S2 hr2
   exact hn _ _ _ _ _ hK (S2.put hr2 hd)
  ·cases h
 ·rcases h with h|h|h|h
  ·unfold xI at h
   split at h
   ·rename_i r hr
    obtain⟨u,h1,h2⟩:=QD hr S
    exact h1.wp (hn _ _ _ _ _ h (S.put h2 hd))
   ·cases h
  ·unfold xJ at h
   split at h
   ·rename_i r hr
    obtain⟨u,h1,h2⟩:=ac4 hr S
    exact h1.wp (hn _ _ _ _ _ h (S.put h2 hd))
   ·cases h
  ·unfold jV at h
   split at h
   ·rename_i r s' hr
    obtain⟨u,w',L',h1,h2,h3⟩:=QE hr S
    exact h1.wp (hn _ _ _ _ _ h (h2.put h3 hd))
   ·cases h
  ·unfold jV at h
   split at h
   ·rename_i r s' hr
    obtain⟨u,w',L',h1,h2,h3⟩:=ac5 hr S
    exact h1.wp (hn _ _ _ _ _ h (h2.put h3 hd))
   ·cases h
def iR(s:St)(dsts:List (Option Nat))(j:Nat):Option V :=
 match dsts[j]? with
 | some (some d)=>some (s.env d)
 | _=>none
def wpL(P:Program)[Tb P](dsts:List (Option Nat))(K:St→Prop):List Oper→St→Prop
 | [],s=>K s
 | o::rest,s =>
  match o.guard with
  | none=>az P s o (fun _=>wpL P dsts K rest)
  | some (j,want)=>match iR s dsts j with
   | some (.c (.bool b))=>if b=want then az P s o (fun _=>wpL P dsts K rest) else wpL P dsts K rest (s.put o.dst (.c undef))
   | some (.c _)=>wpL P dsts K rest (s.put o.dst (.c undef))
   | _=>False
theorem wE{ops:Array Oper}{j:Nat}{b:Bool}(S:Sim C s L a w)(h:iR s (ops.toList.map (·.dst)) j=some (.c (.bool b))):yielded ops a.tmps j=some b:=by
 unfold iR at h
 split at h
 ·rename_i d hd
  simp only[Option.some.injEq] at h
  simp only[List.getElem?_map,Option.map_eq_some_iff] at hd
  obtain⟨o,ho,hod⟩:=hd
  simp only[Array.getElem?_toList] at ho
  have he:=S.env d
  rw[h] at he
  simp only[Rep] at he
  have:a.tmps[d]?=some (.bool b):=by
   rcases Nat.lt_or_ge d a.tmps.size with hl|hl
   ·simp only[Array.getD_eq_getD_getElem?,Array.getElem?_eq_getElem hl,Option.getD_some] at he ⊢
    rw[he]
   ·simp [Array.getD_eq_getD_getElem?,Array.getElem?_eq_none hl,undef] at he
  simp [yielded,ho,hod,this]
 ·cases h
theorem CS{ops:Array Oper}{j:Nat}{v:Value}(S:Sim C s L a w)(h:iR s (ops.toList.map (·.dst)) j=some (.c v))(hv:∀b,v ≠ .bool b):yielded ops a.tmps j=none:=by
 unfold iR at h
 split at h
 ·rename_i d hd
  simp only[Option.some.injEq] at h
  simp only[List.getElem?_map,Option.map_eq_some_iff] at hd
  obtain⟨o,ho,hod⟩:=hd
  simp only[Array.getElem?_toList] at ho
  have he:=S.env d
  rw[h] at he
  simp only[Rep] at he
  simp only[yielded,ho,hod,Option.bind_some]
  rcases Nat.lt_or_ge d a.tmps.size with hl|hl
  ·simp only[Array.getD_eq_getD_getElem?,Array.getElem?_eq_getElem hl,Option.getD_some] at he
   simp only[Array.getElem?_eq_getElem hl,he]
   cases v<;>first|rfl|exact absurd rfl (hv _)
  ·simp [Array.getElem?_eq_none hl]
 ·cases h
theorem TB(hT:C.TOk P){ops:Array Oper}{K:St→Prop}{Q:Exit→Act→World→Prop}(hK:∀s' L' a' w',K s'→Sim C s' L' a' w'→Q .normal a' w')(l:List Oper)(hl:∀o∈l,∀t,o.dst=some t→t<C.n) :
  ∀{s:St} {L:Lay} {a:Act} {w:World},wpL P (ops.toList.map (·.dst)) K l s→Sim C s L a w→wpList P ops Q l a w:=by
 induction l with
 | nil=>intro s L a w h S;exact hK s L a w h S
 | cons o rest ih =>
  intro s L a w h S
  have hd:=hl o (by simp)
  have ih':=@ih (fun o ho=>hl o (by simp [ho]))
  unfold wpList
  unfold wpL at h
  split at h
  ·rename_i hg
   rw[if_pos (by simp [Region.wanted,hg])]
   exact .inl (Ff h hT S hd (fun _ s' L' a' w' h' S'=>ih' h' S'))
  ·rename_i j want hg
   split at h
   ·rename_i b hb
    have hy:=wE S hb
    split at h
    ·rename_i hbw
     rw[if_pos (by simp [Region.wanted,hg,hy,hbw])]
     exact .inl (Ff h hT S hd (fun _ s' L' a' w' h' S'=>ih' h' S'))
    ·rename_i hbw
     rw[if_neg (by simp [Region.wanted,hg,hy,hbw])]
     exact ih' h (S.put (v := .c undef) rfl hd)
   ·rename_i v hnb hb
    rw[if_neg (by simp [Region.wanted,hg,CS S hb (fun b e=>hnb b (by rw[e]))])]
    exact ih' h (S.put (v := .c undef) rfl hd)
   ·cases h
end
end Go.Pg
end
section
namespace Go.Pg
open Go
def Nk(n:Nat)(ops:List Oper):Bool:=ops.all fun o=>match o.dst with|some d=>decide (d<n)|none=>true
def xK(n:Nat):Code→Bool
 | .region _ ops _=>Nk n ops.toList
 | .seq x y=>xK n x&&xK n y
 | .cond _ x y=>xK n x&&xK n y
 | .block _ x=>xK n x
 | .loop x=>xK n x
 | .rangeFunc ..=>false
 | .scope _=>false
 | .refuse _=>true
 | _=>true
def Weak(s s':St):Prop:=∀(C:Cx) (L:Lay) (a:Act) (w:World),Sim C s L a w→∃L',Sim C s' L' a w
def uB(k:St→Prop)(Q:Exit→St→Prop):Exit→St→Prop
 | .normal,s=>k s
 | e,s=>Q e s
def inB(id:Nat)(Q:Exit→St→Prop):Exit→St→Prop
 | .exit id',s=>if id'=id then Q .normal s else Q (.exit id') s
 | e,s=>Q e s
def FD(v:V)(x y:Prop):Prop :=
 match v with
 | .c (.bool b)=>if b=true then x else y
 | _=>False
def agZ(body:(Exit→St→Prop)→St→Prop)(Q:Exit→St→Prop)(s:St):Prop :=
 ∃(I:Nat→St→Prop) (n:Nat),(∃s0,Weak s s0∧I n s0)∧∀n s1,I n s1→body (uB (fun s2=>∃m s3,m<n∧Weak s2 s3∧I m s3) Q) s1
structure Dw where
 d:(P:Program)→[Tb P]→Array Oper→(St→Prop)→St→Prop
 cuts:List Nat
def kC:Code→Option Nat
 | .region id _ _=>some id
 | .seq x _=>kC x
 | .block _ x=>kC x
 | .loop x=>kC x
 | _=>none
def nP(cuts:List Nat)(r:Option Nat):Bool:=match r with|some n=>cuts.contains n|none=>false
def ahs(k:St→Prop)(s:St):Prop:=∃s',Weak s s'∧k s'
def wpS(D:Dw)(P:Program)[Tb P]:Code→(Exit→St→Prop)→St→Prop
 | .skip,Q,s=>Q .normal s
 | .region _ ops draw,Q,s=>if draw=true then D.d P ops (Q .normal) s else wpL P (ops.toList.map (·.dst)) (Q .normal) ops.toList s
 | .seq x y,Q,s=>wpS D P x (uB (bif nP D.cuts (kC y) then ahs (fun s'=>wpS D P y Q s') else fun s'=>wpS D P y Q s') Q) s
 | .cond c x y,Q,s=>FD (s.ev c) (wpS D P x Q s) (wpS D P y Q s)
 | .block id x,Q,s=>wpS D P x (inB id Q) s
 | .loop x,Q,s=>agZ (fun Q s=>wpS D P x Q s) Q s
 | .exit id,Q,s=>Q (.exit id) s
 | .label _,Q,s=>Q .normal s
 | .goto l,Q,s=>Q (.goto l) s
 | .ret,Q,s=>Q .ret s
 | _,_,_=>False
def aht(C:Cx)(Q:Exit→St→Prop):Exit→Act→World→Prop:=fun e a w=>∃s L,Q e s∧Sim C s L a w
def mZ(P:Program)[Tb P](D:Dw):Prop :=
 ∀(id:Nat) (C:Cx) (ops:Array Oper) (K:St→Prop) (Q:Exit→St→Prop) (s:St) (L:Lay) (a:Act) (w:World),C.TOk P→Nk C.n ops.toList=true→Q .normal=K→D.d P ops K s→Sim C s L a w→(Code.region id ops true).wp P (aht C Q) a w
theorem pI{n:Nat}{ops:List Oper}(h:Nk n ops=true):∀o∈ops,∀t,o.dst=some t→t<n:=by
 intro o ho t ht
 have:=List.all_eq_true.1 h o ho
 rw[ht] at this
 simpa using this
section
variable {P:Program} [Tb P] {D:Dw} {C:Cx}
theorem FH(hD:mZ P D)(hT:C.TOk P)(c:Code):∀{Q:Exit→St→Prop} {s:St} {L:Lay} {a:Act} {w:World},wpS D P c Q s→xK C.n c=true→Sim C s L a w→c.wp P (aht C Q) a w:=by
 induction c with
 | skip=>intro Q s L a w h _ S;exact wp_skip ⟨s,L,h,S⟩
 | region id ops draw =>
  intro Q s L a w h hf S
  simp only[wpS] at h
  cases draw with
  | true=>exact hD id C ops (Q .normal) Q s L a w hT hf rfl h S
  | false =>
   simp only[Bool.false_eq_true,if_false] at h
   exact wp_region_list (TB hT (K:=Q .normal) (fun s' L' a' w' h' S'=>⟨s',L',h',S'⟩) ops.toList (pI hf) h S)
 | seq x y ihx ihy =>
  intro Q s L a w h hf S
  simp only[xK,Bool.and_eq_true] at hf
  refine wp_seq (Code.wp_mono ?_ (ihx h hf.1 S))
  rintro e a' w' ⟨s',L',h',S'⟩
  cases e with
  | normal =>
   simp only[uB] at h'
   cases hc:nP D.cuts (kC y) with
   | true =>
    rw[hc] at h'
    obtain⟨s2,hw,h2⟩:=h'
    obtain⟨L2,S2⟩:=hw C L' a' w' S'
    exact ihy h2 hf.2 S2
   | false=>rw[hc] at h';exact ihy h' hf.2 S'
  | _=>exact⟨s',L',h',S'⟩
 | cond c x y ihx ihy =>
  intro Q s L a w h hf S
  simp only[xK,Bool.and_eq_true] at hf
  simp only[wpS,FD] at h
  split at h
  ·rename_i b hb
   have hc:=S.ev c
   rw[hb] at hc
   simp only[Rep] at hc
   refine wp_cond hc ?_
   cases b with
   | true=>exact ihx (by simpa using h) hf.1 S
   | false=>exact ihy (by simpa using h) hf.2 S
  ·cases h
 | block id x ih =>
  intro Q s L a w h hf S
  refine wp_block (Code.wp_mono ?_ (ih h hf S))
  rintro e a' w' ⟨s',L',h',S'⟩
  cases e with
  | exit id' =>
   simp only[inB] at h'
   simp only[Exit.inBlock]
   split at h'
   ·rename_i hi;rw[if_pos hi];exact⟨s',L',h',S'⟩
   ·rename_i hi;rw[if_neg hi];exact⟨s',L',h',S'⟩
  | _=>exact⟨s',L',h',S'⟩
 | loop x ih =>
  intro Q s L a w h hf S
  obtain⟨I,n,⟨s0,hw0,h0⟩,hround⟩:=h
  obtain⟨L0,S0⟩:=hw0 C L a w S
  have key:∀n s L a w,I n s→Sim C s L a w→∀(b:Frame) (k:List Item) (cs:List Frame),
    ∃e a' w',aht C Q e a' w'∧Arrives P (lone (b.at a (.code x :: .inLoop x::k)) cs w) b k cs e a' w':=by
   intro n
   induction n using Nat.strongRecOn with
   | _ n ihn =>
    intro s L a w hI S b k cs
    obtain⟨e,a₁,w₁,⟨s1,L1,hq,S1⟩,harr⟩:=ih (hround n s hI) hf S b (.inLoop x::k) cs
    cases e with
    | normal =>
     obtain⟨m,s3,hlt,hw,hI3⟩:=hq
     obtain⟨L3,S3⟩:=hw C L1 a₁ w₁ S1
     obtain⟨e₂,a₂,w₂,hq₂,harr₂⟩:=ihn m hlt s3 L3 a₁ w₁ hI3 S3 b k cs
     exact⟨e₂,a₂,w₂,hq₂,.of_steps (Steps.trans harr (.one step_inLoop)) harr₂⟩
    | exit id=>exact⟨_,a₁,w₁,⟨s1,L1,hq,S1⟩,.pass (x := .inLoop x) rfl (fun _ _ => .inl (by simp)) harr⟩
    | goto l=>exact⟨_,a₁,w₁,⟨s1,L1,hq,S1⟩,.pass (x := .inLoop x) rfl (fun _ _ => .inl (by simp)) harr⟩
    | ret=>exact⟨_,a₁,w₁,⟨s1,L1,hq,S1⟩,.pass (x := .inLoop x) rfl (fun _ _ => .inl (by simp)) harr⟩
    | panic ch=>exact⟨_,a₁,w₁,⟨s1,L1,hq,S1⟩,.pass (x := .inLoop x) rfl (fun _ _ => .inl (by simp)) harr⟩
    | outgrown=>exact⟨_,a₁,w₁,⟨s1,L1,hq,S1⟩,.pass (x := .inLoop x) rfl (fun _ _ => .inl (by simp)) harr⟩
  intro b k cs
  obtain⟨e,a',w',hq,harr⟩:=key n s0 L0 a w h0 S0 b k cs
  exact⟨e,a',w',hq,.of_steps (.one step_loop) harr⟩
 | exit id=>intro Q s L a w h _ S;exact wp_exit ⟨s,L,h,S⟩
 | label l=>intro Q s L a w h _ S;exact wp_label ⟨s,L,h,S⟩
 | goto l=>intro Q s L a w h _ S;exact wp_goto ⟨s,L,h,S⟩
 | ret=>intro Q s L a w h _ S;exact wp_ret ⟨s,L,h,S⟩
 | rangeFunc=>intro Q s L a w h;exact h.elim
 | scope=>intro Q s L a w h;exact h.elim
 | refuse=>intro Q s L a w h;exact h.elim
def Fg:List V→Nat→Nat→V
 | [],_=>fun _ => .top
 | x::xs,k=>upd (Fg xs (k+1)) k x
def Jr(args:List V):St:={ env:=Fg args 0,bx:=fun _=>none,nid:=0 }
def qP(P:Program)(s:St):ResultVar→Option V
 | .tmp t=>some (s.env t)
 | .cell a t=>match s.env a with | .ref b off=>nN P s t b off|_=>none
def pJ(P:Program)(s:St)(rs:List ResultVar):Option V :=
 match rs with
 | [r]=>qP P s r
 | rs=>(rs.mapM (qP P s)).map .tup
def Tag.notIn(l:List Nat):Tag→Bool
 | .fz=>false
 | .nn=>false
 | .own id _ => !l.contains id
def sF(l:List Nat):Tag→Tag
 | .fz => .fz
 | .nn => .nn
 | .own id e => .own (l.idxOf id) e
def ac6(P:Program)(rs:List ResultVar)(r:V):Exit→St→Prop:=fun e s =>
 match e with
 | .normal | .ret=>∃r0 l,pJ P s rs=some r0∧List.Nodup l∧r0.any (Tag.notIn l) (fun _=>true) false=false∧r0.map (sF l) id=r
 | _=>False
theorem FI{L:Lay}{w:World}:∀(args:List V) (us:List Value) (k:Nat) (rest:List Value),Reps L w args us→∀(pre:List Value),pre.length=k→∀t,Rep L w (Fg args k t) ((pre++us++rest).toArray.getD t undef):=by
 intro args
 induction args with
 | nil=>intro us k rest _ pre _ t;trivial
 | cons x xs ih =>
  rintro us k rest ⟨u,r,rfl,h2,h3⟩ pre hk t
  simp only[Fg,upd]
  split
  ·rename_i ht
   subst ht
   have:(pre++(u::r)++rest).toArray.getD t undef=u:=by
    simp [Array.getD_eq_getD_getElem?,←hk]
   rw[this];exact h2
  ·have:=ih r (k+1) rest h3 (pre++[u]) (by simp [hk]) t
   simpa using this
def Xa(a:Act):ResultVar→Sem Value
 | .tmp t=>pure (a.tmps.getD t undef)
 | .cell b t=>do loadVar t (←asAddr (a.tmps.getD b undef))
theorem AO{fn:Func}{s:St}{L:Lay}{a:Act}{w:World}{rs:List ResultVar}{r:V}(hrs:fn.results=rs.toArray)(h:pJ P s rs=some r)(S:Sim C s L a w) :
  ∃u,(results fn a.tmps).run P w = .ok u w∧Rep L w r u:=by
 have one:∀x v,qP P s x=some v→∃u,(Xa a x).run P w = .ok u w∧Rep L w v u:=by
  intro x v hx
  cases x with
  | tmp t =>
   simp only[qP,Option.some.injEq] at hx
   subst hx
   exact⟨_,rfl,S.env t⟩
  | cell b t =>
   simp only[qP] at hx
   split at hx
   ·rename_i b' off hb
    have hr:=S.env b
    rw[hb] at hr
    obtain⟨u,h1,h2⟩:=CB hx S hr
    obtain⟨g,h3,h4⟩:=hr
    refine⟨u, ?_,h2⟩
    rw[h4] at h1
    simp only[Xa,h4]
    simpa [Instr.loadAt,Instr.sureAddr,asAddr] using h1
   ·cases hx
 have many:∀(l:List ResultVar) (vs:List V),l.mapM (qP P s)=some vs→∃us,(l.mapM (Xa a)).run P w = .ok us w∧Reps L w vs us:=by
  intro l
  induction l with
  | nil=>intro vs h;simp at h;subst h;exact⟨[],rfl,rfl⟩
  | cons x xs ih =>
   intro vs h
   simp only[List.mapM_cons,Option.bind_eq_bind,Option.bind_eq_some_iff,Option.pure_def,Option.some.injEq] at h
   obtain⟨v,hv,vs',hvs,rfl⟩:=h
   obtain⟨u,h1,h2⟩:=one x v hv
   obtain⟨us,h3,h4⟩:=ih vs' hvs
   refine⟨u::us, ?_,u,us,rfl,h2,h4⟩
   rw[List.mapM_cons,Sem.run_bind,h1]
   simp only[Result.andThen_ok,Sem.run_bind,h3,Sem.run_pure]
 have hres:∀(us:List Value),(rs.mapM (Xa a)).run P w = .ok us w →
   (results fn a.tmps).run P w = .ok (if h:us.toArray.size=1 then us.toArray[0] else .tuple us.toArray) w:=by
  intro us hus
  have e:results fn a.tmps=(do let vs ←rs.toArray.mapM (Xa a);pure (if h:vs.size=1 then vs[0] else .tuple vs)):=by
   unfold results
   rw[hrs]
   rfl
  rw[e,Array.mapM_eq_mapM_toList,Sem.run_bind,Sem.run_map,hus]
  rfl
 unfold pJ at h
 split at h
 ·rename_i x
  obtain⟨u,h1,h2⟩:=one x r h
  refine⟨u, ?_,h2⟩
  rw[hres [u] (by rw[List.mapM_cons,Sem.run_bind,h1];rfl)]
  rfl
 ·rename_i hne
  simp only[Option.map_eq_some_iff] at h
  obtain⟨vs,hvs,rfl⟩:=h
  obtain⟨us,h1,h2⟩:=many rs vs hvs
  have hl:us.toArray.size≠1:=by
   have e1:=h2.length
   have e2:vs.length=rs.length:=by
    have:∀(l:List ResultVar) (vs:List V),l.mapM (qP P s)=some vs→vs.length=l.length:=by
     intro l
     induction l with
     | nil=>intro vs h;simp at h;simp [h]
     | cons x xs ih =>
      intro vs h
      simp only[List.mapM_cons,Option.bind_eq_bind,Option.bind_eq_some_iff,Option.pure_def,Option.some.injEq] at h
      obtain⟨v,hv,vs',hvs,rfl⟩:=h
      simp [ih vs' hvs]
    exact this rs vs hvs
   simp only[List.size_toArray]
   intro h1
   rw[e1,e2] at h1
   match rs,h1,hne with
   | [x],_,hne=>exact hne x rfl
  refine⟨.tuple us.toArray, ?_,us.toArray,rfl,by simpa using h2⟩
  rw[hres us h1,dif_neg hl]
theorem zC(l:List Nat)(i:Nat)(h:i∈l):l[l.idxOf i]?=some i:=by
 induction l with
 | nil=>cases h
 | cons x xs ih =>
  by_cases hx:x=i
  ·subst hx;simp
  ·have:i∈xs:=by simpa [Ne.symm hx] using h
   rw[List.idxOf_cons]
   have hb:(x == i)=false:=by simpa using hx
   rw[hb]
   simpa using ih this
theorem dE(hD:mZ P D){f:FuncId}{fn:Func}{c:Code}{rs:List ResultVar}{args:List V}{r:V}(hf:P.funcs[f]?=some fn)(hb:fn.body=some c)(hrs:fn.results=rs.toArray)(hn:(fn.name == "runtime.NumGoroutine")=false)
  (hfit:xK fn.ntmps c=true) (hlen:args.length≤fn.ntmps) (h:wpS D P c (ac6 P rs r) (Jr args)):Good P f args r:=by
 refine⟨by simp [zA,hf,hb,hn],fun A w cargs hT hA hargs => ?_⟩
 let C:Cx:={ n:=fn.ntmps,A0:=A,Wr:=fun _=>False,w0:=w }
 have hl:=hargs.length
 have S:Sim C (Jr args) ⟨A,fun _=>none,fun _=>none⟩ { tmps:=cargs.toArray++Array.replicate (fn.ntmps-cargs.toArray.size) undef,defers:=[] } w:=by
  refine⟨rfl,by simp [C];omega,fun t => ?_,fun _=>trivial,fun b cs h=>by simp [Jr] at h, ?_,Kp.refl _ _ _⟩
  ·have:=FI args cargs 0 (List.replicate (fn.ntmps-cargs.length) undef) hargs [] rfl t
   have e:(cargs++List.replicate (fn.ntmps-cargs.length) undef).toArray=cargs.toArray++Array.replicate (fn.ntmps-cargs.toArray.size) undef:=by
    apply Array.ext';simp
   rw[List.nil_append,e] at this
   exact this
  ·exact {
    nidO:=fun _ _ h=>by cases h
    nidB:=fun _ _ h=>by cases h
    own:=fun _ _ h=>by cases h
    boxW:=fun _ _ h=>by cases h
    injO:=fun _ _ _ h=>by cases h
    injB:=fun _ _ _ h=>by cases h
    dis:=fun _ _ _ h=>by cases h
    old:=hA
    frz:=fun g h => .inl h }
 refine calls_of_wp hf hb (Code.wp_mono ?_ (FH (C:=C) hD (fun w' hk=>Tb.keep w w' hT hk) c h hfit S))
 rintro e a' w' ⟨s',L',hq,S'⟩
 have fin:(∃r0 l,pJ P s' rs=some r0∧List.Nodup l∧r0.any (Tag.notIn l) (fun _=>true) false=false∧r0.map (sF l) id=r)→a'.defers=[]∧∃v,(results fn a'.tmps).run P w' = .ok v w'∧∃u L,Ending.returned v = .returned u∧Rep L w' r u∧Kp (fun _=>False) w.heap.size w w'∧ResLay A w w' L:=by
  rintro⟨r0,l,h1,hnd,h2,rfl⟩
  obtain⟨u,h3,h4⟩:=AO hrs h1 S'
  let L2:Lay:={ A:=L'.A,own:=fun j=>(l[j]?).bind L'.own,box:=fun _=>none }
  have K:Trans (Tag.notIn l) (fun _=>true) (sF l) id L' L2 w' w':=by
   refine⟨rfl,fun g h=>⟨h,.of rfl⟩,fun i e hi g h=>⟨⟨rfl, ?_⟩,rfl⟩,fun b hb=>by simp at hb⟩
   have hm:i∈l:=by simpa [Tag.notIn] using hi
   simp only[L2,zC l i hm,Option.bind_some,h]
  refine⟨S'.defers,u,h3,u,L2,rfl,h4.trans rfl K h2,S'.kp, ?_, ?_, ?_⟩
  ·intro g hg
   rcases S'.wf.frz g hg with h|h|h
   ·exact .inl h
   ·exact .inr ⟨h,S'.wf.old g hg⟩
   ·exact h.elim
  ·intro j g hg
   simp only[L2,Option.bind_eq_some_iff] at hg
   obtain⟨i,hi,hg⟩:=hg
   obtain⟨h5,h6,h7⟩:=S'.wf.own i g hg
   exact⟨h6.elim id (fun h=>h.elim),h5,h7⟩
  ·intro i j g hi hj
   simp only[L2,Option.bind_eq_some_iff] at hi hj
   obtain⟨i',hi',hi⟩:=hi
   obtain⟨j',hj',hj⟩:=hj
   have:=S'.wf.injO i' j' g hi hj
   subst this
   have hil:=(List.getElem?_eq_some_iff.1 hi').1
   exact (List.getElem?_inj hil hnd).1 (hi'.trans hj'.symm)
 cases e with
 | normal=>exact fin hq
 | ret=>exact fin hq
 | _=>exact hq.elim
end
end Go.Pg
end
namespace Go.Pg
open Go
def zD(m:List Nat)(b:Nat):Bool := !m.contains b
def wkF:List V→List V→Prop
 | [],[]=>True
 | a::xs,b::ys=>(a=b∨(a = .c (.slice none 0 0)∧∃k',b = .sl .fz k' []))∧wkF xs ys
 | _,_=>False
theorem agn{L:Lay}{w:World}:∀{xs ys:List V} {us:List Value},wkF xs ys→Reps L w xs us→Reps L w ys us
 | [],[],_,_,hr=>hr
 | _::_,_::_,_,h,⟨u,r,h1,h2,h3⟩=>by
  refine⟨u,r,h1, ?_,agn h.2 h3⟩
  rcases h.1 with rfl|⟨rfl,k',rfl⟩
  ·exact h2
  ·simp only[Rep] at h2
   subst h2
   exact⟨none,0,[],rfl,rfl,by simp,.inl rfl⟩
theorem ajV(p:Tag→Bool)(hp:p .fz=false)(q:Nat→Bool)(tp:Bool):∀{xs ys:List V},wkF xs ys→V.anyL p q tp xs=false→V.anyL p q tp ys=false
 | [],[],_,h=>h
 | _::_,_::_,h,ha=>by
  simp only[V.anyL,Bool.or_eq_false_iff] at ha ⊢
  refine⟨?_,ajV p hp q tp h.2 ha.2⟩
  rcases h.1 with rfl|⟨rfl,k',rfl⟩
  ·exact ha.1
  ·simp [V.any,hp]
def elE(k:Nat):List V→List V→Prop
 | [],[]=>True
 | x::xs,y::ys=>(x=y∨(k=1∧x = .c (.slice none 0 0)∧∃k',y = .sl .fz k' [])∨∃cs ds,x = .agg cs∧y = .agg ds∧wkF cs ds)∧elE k xs ys
 | _,_=>False
theorem Js{k:Nat}{x y:V}(h:x=y∨(k=1∧x = .c (.slice none 0 0)∧∃k',y = .sl .fz k' [])∨∃cs ds,x = .agg cs∧y = .agg ds∧wkF cs ds):∀xs:List V,elE k (xs++[x]) (xs++[y])
 | []=>⟨h,trivial⟩
 | _::xs=>⟨.inl rfl,Js h xs⟩
theorem QF{k:Nat}:∀{xs ys:List V},elE k xs ys→xs.length=ys.length
 | [],[],_=>rfl
 | _::_,_::_,h=>by simp [QF h.2]
 | [],_::_,h=>h.elim
 | _::_,[],h=>h.elim
theorem Xb{L:Lay}{w:World}{k:Nat}:∀{xs ys:List V} {us:List Value},elE k xs ys→RepE L w k xs us→RepE L w k ys us:=by
 intro xs
 induction xs with
 | nil=>intro ys us h hr;cases ys with
  | nil=>exact hr
  | cons _ _=>exact h.elim
 | cons x xs ih =>
  intro ys us h hr
  cases ys with
  | nil=>exact h.elim
  | cons y ys =>
   obtain⟨u,r,h1,h2,h3,h4,h5⟩:=hr
   refine⟨u,r,h1,h2, ?_, ?_,ih h.2 h5⟩
   ·rcases h.1 with rfl|⟨_,rfl,k',rfl⟩|⟨cs,ds,rfl,rfl,hw⟩
    ·exact h3
    ·exact⟨rfl,h3.2⟩
    ·refine⟨?_,h3.2⟩
     have h6:=h3.1
     simp only[V.free,V.any,Bool.not_eq_true'] at h6 ⊢
     exact ajV _ rfl _ _ hw h6
   ·rcases h.1 with rfl|⟨_,rfl,k',rfl⟩|⟨cs,ds,rfl,rfl,hw⟩
    ·exact h4
    ·simp only[Rep] at h4
     subst h4
     exact⟨none,0,[],rfl,rfl,by simp,.inl rfl⟩
    ·obtain⟨a,h6,h7⟩:=h4
     exact⟨a,h6,agn hw h7⟩
def Gen(l m:List Nat)(v0 v:V):Prop :=
 v = .top∨(v0.any (Tag.notIn l) (zD m) false=false∧v=v0.map (sF l) (fun b=>m.idxOf b))∨(v0 = .c (.slice none 0 0)∧∃t k,t.notNN=true∧v = .sl t k [])∨∃t k xs ys,v0 = .sl t k xs∧t.notIn l=false∧v = .sl (sF l t) k ys∧elE k xs ys
def GenL(l m:List Nat):List V→List V→Prop
 | [],[]=>True
 | x::xs,y::ys=>Gen l m x y∧GenL l m xs ys
 | _,_=>False
structure Keep (l m:List Nat) (s s':St):Prop where
 env:∀t,Gen l m (s.env t) (s'.env t)
 hd:∀t,Gen l m (s.hd t) (s'.hd t)
 bx:∀b cs,s'.bx b=some cs→∃b0 cs0,m[b]?=some b0∧s.bx b0=some (cs.1,cs0)∧GenL l m cs0 cs.2
 ndl:l.Nodup
 ndm:m.Nodup
 nidl:l.length≤s'.nid
 nidm:m.length≤s'.nid
theorem Keep.weakR{l m:List Nat}{s s':St}(H:Keep l m s s')(C:Cx)(L:Lay)(a:Act)(w:World)(S:Sim C s L a w):∃L',Sim C s' L' a w∧∀v u,v.any (Tag.notIn l) (zD m) false=false→Rep L w v u→Rep L' w (v.map (sF l) (fun b=>m.idxOf b)) u:=by
 let L':Lay:={ A:=L.A,own:=fun j=>(l[j]?).bind L.own,box:=fun j=>(m[j]?).bind L.box }
 have K:Trans (Tag.notIn l) (zD m) (sF l) (fun b=>m.idxOf b) L L' w w:=by
  refine⟨rfl,fun g h=>⟨h,.of rfl⟩,fun i e hi g h=>⟨⟨rfl, ?_⟩,rfl⟩,fun b hb g h => ?_⟩
  ·have hm:i∈l:=by simpa [Tag.notIn] using hi
   simp only[L',zC l i hm,Option.bind_some,h]
  ·have hm:b∈m:=by simpa [zD] using hb
   simp only[L',zC m b hm,Option.bind_some,h]
 have gen:∀v0 v u,Gen l m v0 v→Rep L w v0 u→Rep L' w v u:=by
  rintro v0 v u (rfl|⟨h1,rfl⟩|⟨rfl,t,k,hnn,rfl⟩|⟨t,k,xs,ys,rfl,h1,rfl,h2⟩) h
  ·trivial
  ·exact h.trans rfl K h1
  ·simp only[Rep] at h
   subst h
   cases t with
   | fz=>exact⟨none,0,[],rfl,rfl,by simp,.inl rfl⟩
   | nn=>cases hnn
   | own id e=>exact⟨none,0,[],rfl,rfl,.inl ⟨rfl,rfl,rfl⟩⟩
  ·obtain⟨a,cap,cells,rfl,h3,h4⟩:=h.trans rfl K (show V.any _ _ _ (.sl t k xs)=false from h1)
   have hl:=QF h2
   exact⟨a,cap,cells,by rw[hl],Xb h2 h3,by rw[←hl];exact h4⟩
 have genL:∀l0 l1 us,GenL l m l0 l1→Reps L w l0 us→Reps L' w l1 us:=by
  intro l0
  induction l0 with
  | nil=>intro l1 us h hr;cases l1 with|nil=>exact hr|cons=>exact h.elim
  | cons x xs ih =>
   intro l1 us h hr
   cases l1 with
   | nil=>exact h.elim
   | cons y ys=>obtain⟨u,r,rfl,h2,h3⟩:=hr;exact⟨u,r,rfl,gen _ _ _ h.1 h2,ih ys r h.2 h3⟩
 have W:=S.wf
 refine⟨L',⟨S.defers,S.size,fun t=>gen _ _ _ (H.env t) (S.env t),fun t=>gen _ _ _ (H.hd t) (S.hid t), ?_, ?_,S.kp⟩,fun v u hv h=>h.trans rfl K hv⟩
 ·intro b cs h
  obtain⟨b0,cs0,h1,h2,h3⟩:=H.bx b cs h
  obtain⟨g,arr,h4,h5,h6⟩:=S.box b0 _ h2
  exact⟨g,arr,by simp only[L',h1,Option.bind_some,h4],h5,genL _ _ _ h3 h6⟩
 ·have lt:∀(x:List Nat) (f:Nat→Option Nat) j g,(x[j]?).bind f=some g→j<x.length∧∃i,x[j]?=some i∧f i=some g:=by
   intro x f j g h
   simp only[Option.bind_eq_some_iff] at h
   obtain⟨i,h1,h2⟩:=h
   exact⟨(List.getElem?_eq_some_iff.1 h1).1,i,h1,h2⟩
  exact {
   nidO:=fun j g h=>by have:=(lt l L.own j g h).1;have:=H.nidl;omega
   nidB:=fun j g h=>by have:=(lt m L.box j g h).1;have:=H.nidm;omega
   own:=fun j g h=>by obtain⟨_,i,_,h2⟩:=lt l L.own j g h;exact W.own i g h2
   boxW:=fun j g h=>by obtain⟨_,i,_,h2⟩:=lt m L.box j g h;exact W.boxW i g h2
   injO:=fun i j g hi hj=>by
    obtain⟨h0,i',h1,h2⟩:=lt l L.own i g hi
    obtain⟨_,j',h3,h4⟩:=lt l L.own j g hj
    have:=W.injO i' j' g h2 h4
    subst this
    exact (List.getElem?_inj h0 H.ndl).1 (h1.trans h3.symm)
   injB:=fun i j g hi hj=>by
    obtain⟨h0,i',h1,h2⟩:=lt m L.box i g hi
    obtain⟨_,j',h3,h4⟩:=lt m L.box j g hj
    have:=W.injB i' j' g h2 h4
    subst this
    exact (List.getElem?_inj h0 H.ndm).1 (h1.trans h3.symm)
   dis:=fun i j g hi hj=>by
    obtain⟨_,i',_,h2⟩:=lt l L.own i g hi
    obtain⟨_,j',_,h4⟩:=lt m L.box j g hj
    exact W.dis i' j' g h2 h4
   old:=W.old
   frz:=W.frz }
theorem Keep.weak{l m:List Nat}{s s':St}(H:Keep l m s s'):Weak s s':=fun C L a w S=>by
 obtain⟨L',h,_⟩:=H.weakR C L a w S
 exact⟨L',h⟩
end Go.Pg
