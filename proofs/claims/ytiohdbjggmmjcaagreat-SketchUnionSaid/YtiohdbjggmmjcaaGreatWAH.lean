/-
  Merged texts.
-/
import Derived.WideLaws
import Derived.Test.YtiohdbjggmmjcaaGreatWAF
import Derived.Test.YtiohdbjggmmjcaaGreatWAG
set_option linter.unusedVariables false
set_option linter.unusedSimpArgs false
set_option linter.unusedSectionVars false
set_option linter.defProp false
set_option maxRecDepth 100000
set_option maxHeartbeats 8000000
section
namespace Go.Pg
open Go
def exV(x:V)(i:Nat):Option V:=match x with | .tup vs=>vs[i]?|_=>none
def qI(P:Program)(t:TypeId):Bool:=match P.underlying t with|some (.interface _)=>true|_=>false
def uF(P:Program)(op:BinOp)(t:TypeId)(x:V):Option V :=
 match op,x with
 | .eql,.c .nilIface=>if qI P t then some (.c (.bool true)) else none
 | .neq,.c .nilIface=>if qI P t then some (.c (.bool false)) else none
 | .eql,.c (.iface _ _)=>if qI P t then some (.c (.bool false)) else none
 | .neq,.c (.iface _ _)=>if qI P t then some (.c (.bool true)) else none
 | .eql,.nif=>if qI P t then some (.c (.bool false)) else none
 | .neq,.nif=>if qI P t then some (.c (.bool true)) else none
 | _,_=>none
def acT(P:Program)(t:TypeId):Bool:=match P.underlying t with|some (.interface _)=>false|some _=>true|none=>false
def miV(P:Program)(t:TypeId)(x:V):Option V:=match x with | .c v=>if acT P t then some (.c (.iface t v)) else none|_=>none
theorem ZF{P:Program}{L:Lay}{w:World}{t:TypeId}{x r:V}{u:Value}(h:miV P t x=some r)(hx:Rep L w x u):∃v,(Instr.makeInterface t u).run P w = .ok v w∧Rep L w r v:=by
 unfold miV at h
 split at h
 ·rename_i v
  simp only[Rep] at hx;subst hx
  simp only[Option.ite_none_right_eq_some,Option.some.injEq] at h
  obtain⟨h0,rfl⟩:=h
  refine⟨_, ?_,rfl⟩
  unfold acT at h0
  split at h0
  ·cases h0
  ·rename_i d hd hu
   simp only[Instr.makeInterface,Sem.run_bind,run_underlying hu,Result.andThen_ok]
   cases d<;>first|rfl|exact absurd hu (hd _)
  ·cases h0
 ·cases h
def xm(P:Program)(op:BinOp)(t:TypeId)(x y:V)(oy:Operand):Option V :=
 match oy with
 | .const .nilIface=>uF P op t x
 | _=>eX P op t x y
theorem mJ{P:Program}{t:TypeId}(h:qI P t=true):P.underlying t=some (.interface (P.methodsAt t)):=by
 unfold qI at h
 split at h
 ·rename_i ms hm;simp [Program.methodsAt,hm]
 ·cases h
theorem Ur{P:Program}{L:Lay}{w:World}{op:BinOp}{t:TypeId}{x y r:V}{ux uy:Value}{ox oy:Operand}(h:xm P op t x y oy=some r)(rx:Rep L w x ux)(ry:Rep L w y uy)(hc:∀v,oy = .const v→uy=v) :
  ∃u,(do eqGuard op t ox oy ux uy;Go.binOp op t ux uy:Sem Value).run P w = .ok u w∧Rep L w r u:=by
 unfold xm at h
 split at h
 ·have:=hc _ rfl
  subst this
  unfold uF at h
  split at h
  ·simp only[Rep] at rx;subst rx
   simp only[Option.ite_none_right_eq_some,Option.some.injEq] at h
   obtain⟨h0,rfl⟩:=h
   exact⟨.bool true,by rw[eqGuard_nil_constR];exact run_eql_nil_nil w t (mJ h0),rfl⟩
  ·simp only[Rep] at rx;subst rx
   simp only[Option.ite_none_right_eq_some,Option.some.injEq] at h
   obtain⟨h0,rfl⟩:=h
   exact⟨.bool false,by rw[eqGuard_nil_constR];exact run_neq_nil_nil w t (mJ h0),rfl⟩
  ·simp only[Rep] at rx;subst rx
   simp only[Option.ite_none_right_eq_some,Option.some.injEq] at h
   obtain⟨h0,rfl⟩:=h
   exact⟨.bool false,by rw[Sem.run_bind,eF _ _ _ _ _ _ (by simp) (by simp)];exact run_eql_held_nil w t _ _ (mJ h0),rfl⟩
  ·simp only[Rep] at rx;subst rx
   simp only[Option.ite_none_right_eq_some,Option.some.injEq] at h
   obtain⟨h0,rfl⟩:=h
   exact⟨.bool true,by rw[Sem.run_bind,eF _ _ _ _ _ _ (by simp) (by simp)];exact run_neq_held_nil w t _ _ (mJ h0),rfl⟩
  ·obtain⟨a,v,rfl⟩:=rx
   simp only[Option.ite_none_right_eq_some,Option.some.injEq] at h
   obtain⟨h0,rfl⟩:=h
   exact⟨.bool false,by rw[Sem.run_bind,eF _ _ _ _ _ _ (by simp) (by simp)];exact run_eql_held_nil w t _ _ (mJ h0),rfl⟩
  ·obtain⟨a,v,rfl⟩:=rx
   simp only[Option.ite_none_right_eq_some,Option.some.injEq] at h
   obtain⟨h0,rfl⟩:=h
   exact⟨.bool true,by rw[Sem.run_bind,eF _ _ _ _ _ _ (by simp) (by simp)];exact run_neq_held_nil w t _ _ (mJ h0),rfl⟩
  ·cases h
 ·exact Ud h rx ry _ _
def qv(P:Program)(s:St)(op:Op):Option V :=
 match op with
 | .move x=>some (s.ev x)
 | .assign x=>some (s.ev x)
 | .pick c x y=>match s.ev c with | .c (.bool b)=>some (qH b (s.ev x) (s.ev y))|_=>none
 | .binOp op t x y _=>xm P op t (s.ev x) (s.ev y) y
 | .unOp op _ x=>unV op (s.ev x)
 | .convert src dst x=>kW P src dst (s.ev x)
 | .extract x i=>exV (s.ev x) i
 | .field t x f=>wZ P t (s.ev x) f
 | .index t x i=>ixV P t (s.ev x) (s.ev i)
 | .indexAddr t x i=>iaV P t (s.ev x) (s.ev i)
 | .fieldAddr t x f=>faV P t (s.ev x) f
 | .nilCheck x=>match s.ev x with | .ref b o=>some (.ref b o) | .el t k xs i o=>some (.el t k xs i o) | .fn f fs cs=>some (.fn f fs cs)|_=>none
 | .makeFunc (.func f) fs cs=>some (.fn f (fs.toList.map s.ev) (cs.toList.map s.ev))
 | .build t parts=>uA P t (parts.toList.map fun p=>(p.1,s.ev p.2))
 | .slice t x lo hi none=>slV P t (s.ev x) (lo.map s.ev) (hi.map s.ev)
 | .load t x=>match s.ev x with | .el _ _ xs i off=>(xs[i]?).bind fun y=>y.cs.bind fun cs=>dY P t cs off|_=>none
 | .call { callee := .builtin .len,args,argTypes }=>match args.toList,argTypes.toList with|[x],[t]=>Ej P t (s.ev x)|_,_=>none
 | .call { callee := .builtin .unsafeSliceData,args,.. }=>match args.toList with|[x]=>sdV (s.ev x)|_=>none
 | .call { callee := .builtin .max,args,.. }=>match args.toList with|[x,y]=>nR true (s.ev x) (s.ev y)|_=>none
 | .call { callee := .builtin .min,args,.. }=>match args.toList with|[x,y]=>nR false (s.ev x) (s.ev y)|_=>none
 | .call { callee := .builtin .complex,args,.. }=>match args.toList with|[x,y]=>cxV (s.ev x) (s.ev y)|_=>none
 | .call { callee := .builtin .real,args,.. }=>match args.toList with|[x]=>reV (s.ev x)|_=>none
 | .call { callee := .builtin .imag,args,.. }=>match args.toList with|[x]=>imV (s.ev x)|_=>none
 | .makeInterface t x=>miV P t (s.ev x)
 | .lookup t x i ok=>lkV P t (s.ev x) (s.ev i) ok
 | _=>none
def isC:V→Bool
 | .c _=>true
 | _=>false
def Us(P:Program)(src dst e:TypeId)(n off:Nat):Bool :=
 match P.underlying src,P.underlying dst with
 | some (.pointer t),some .unsafePointer=>(match P.info? t with|some j=>decide (j.size≠0)&&decide (off<n)|none=>false)
 | some .unsafePointer,some (.pointer u)=>(P.info? u).isSome&&liesAt P P.depth e (n / P.cellsOf e) off u 1
 | _,_=>false
def jg(P:Program)(s:St)(src dst:TypeId)(x:V):Option V :=
 match x with
 | .ref b off=>(s.bx b).bind fun y=>if Us P src dst y.1 y.2.length off=true then some (.ref b off) else none
 | _=>none
def xv(P:Program)(s:St)(op:Op):Option (V × St) :=
 match op with
 | .alloc e=>qZ P s e
 | .box e x=>J7 s e (s.ev x)
 | .buildSlice t len parts=>eP P s t len (parts.toList.map fun p=>(p.1,s.ev p.2))
 | .store t x y=>match s.ev x with
  | .ref b off=>(jB P s t b off (s.ev y)).map fun s'=>(.top,s')
  | .el (.own id _) k xs i off=>(lq P s t id k xs i off (s.ev y)).map fun s'=>(.top,s')
  | _=>none
 | .makeSlice t l c=>vJ P s t (s.ev l) (s.ev c)
 | .makeMap t none=>uD P s t
 | .mapUpdate t m k x=>Kt P s t (s.ev m) (s.ev k) (s.ev x)
 | .convert src dst x=>(jG P src dst (s.ev x)).map fun r=>(r,s)
 | .call { callee := .builtin .append,args,argTypes }=>match args.toList,argTypes.toList with|[x,y],[t,t2]=>jP P s t t2 (s.ev x) (s.ev y)|_,_=>none
 | _=>none
mutual
def V.ids:V→List Nat
 | .c _=>[]
 | .sl (.own id _) _ _=>[id]
 | .sl .fz _ _=>[]
 | .sl .nn _ _=>[]
 | .agg cs=>V.idsL cs
 | .tup cs=>V.idsL cs
 | .ref _ _=>[]
 | .el (.own id _) _ _ _ _=>[id]
 | .el .fz _ _ _ _=>[]
 | .el .nn _ _ _ _=>[]
 | .fn _ fs cs=>V.idsL fs++V.idsL cs
 | .top=>[]
 | .nif=>[]
 | .mp (.own id _) _=>[id]
 | .mp .fz _=>[]
 | .mp .nn _=>[]
 | .bs _ _ _ _ _=>[]
def V.idsL:List V→List Nat
 | []=>[]
 | x::xs=>V.ids x++V.idsL xs
end
def frX(P:Program)(s:St)(ids:List Nat)(op:Op):Option (V × St) :=
 match ids with
 | []=>none
 | i::l=>xv P (s.freezeAll (i::l)) op
def zv(P:Program)[Tb P](s:St)(op:Op):Option (V × St) :=
 match op with
 | .slice t x lo hi none=>match s.ev x with
  | .sl (.own id _) k xs=>if (lo.map s.ev).all isC&&(hi.map s.ev).all isC then lI P s t id k xs (lo.map s.ev) (hi.map s.ev) else none
  | .ref b off=>vK P s t b off (lo.map s.ev) (hi.map s.ev)
  | _=>none
 | .convert src dst x=>mZ P s src dst (s.ev x)
 | .buildSlice t len parts=>match Hr P t with
  | true=>DT P s t len (parts.toList.map fun p=>(p.1,s.ev p.2))
  | false=>frX P s (V.idsL (parts.toList.map fun p=>s.ev p.2)) (.buildSlice t len parts)
 | .store t x y=>match s.ev x with
  | .el (.own id e) k xs i off=>(match Tb.nest P e with
   | true=>(tV P s t id e k xs i off (s.ev y)).map fun s'=>(.top,s')
   | false=>frX P s (s.ev y).ids (.store t x y))
  | _=>none
 | .call { callee := .builtin .append,args,argTypes }=>match args.toList,argTypes.toList with|[x,y],[t,t2]=>(match N8 (s.ev x) (s.ev y) with|true=>kD P s t t2 (s.ev x) (s.ev y)|false=>none)|_,_=>none
 | .call { callee := .builtin .unsafeString,args,argTypes }=>match args.toList,argTypes.toList with|[x,n],[pt,_]=>usV P s pt (s.ev x) (s.ev n)|_,_=>none
 | _=>none
def rv(P:Program)(s:St)(op:Op):Option V :=
 match op with
 | .load t x=>match s.ev x with | .ref b off=>lH P s t b off|_=>none
 | .convert src dst x=>jg P s src dst (s.ev x)
 | _=>none
def iq(x:Option (V × St))(d:Option Nat)(k:Kd)(K:Kd→St→Prop):Prop :=
 match x with
 | some (r,s')=>K k (s'.put d r)
 | none=>False
def kz(x:Option V)(s:St)(d:Option Nat)(l:List V)(K:Kd→St→Prop):Prop :=
 match x with
 | some r=>K (kq l r) (s.put d r)
 | none=>False
def xn(f:List V→V→Kd)(x:Option V)(s:St)(d:Option Nat)(l:List V)(K:Kd→St→Prop):Prop :=
 match x with
 | some r=>K (f l r) (s.put d r)
 | none=>False
def kqo(op:Op):List V→V→Kd :=
 match op with
 | .move _=>ka
 | .assign _=>ka
 | .indexAddr _ _ _=>ka
 | .fieldAddr _ _ _=>ka
 | _=>kq
def xq:V→Kd
 | .c (.slice none 0 0) => .n
 | .sl (.own id _) _ _ => .g id
 | .sl .nn _ [] => .n
 | _ => .x
def kx(s:St)(op:Op):Kd :=
 match op with
 | .store _ x _=>(match s.ev x with | .el (.own id _) k _ _ _ => .w id k|_ => .x)
 | .buildSlice _ _ _ => .n
 | .makeSlice _ _ _ => .n
 | .call { callee := .value _,.. } => .n
 | .call { callee := .builtin .append,args:=⟨[x,_]⟩,.. }=>xq (s.ev x)
 | _ => .x
theorem dA(x:Option V)(s:St)(d:Option Nat)(l:List V)(K:Kd→St→Prop):xn kq x s d l K=kz x s d l K:=rfl
def xu(x:Option V)(s:St)(d:Option Nat)(K:Kd→St→Prop):Prop :=
 match x with
 | some r=>K (kr r) (s.put d r)
 | none=>False
def aA(P:Program)[Tb P](s:St)(o:Oper)(K:Kd→St→Prop):Prop :=
 match o.op with
 | .call { callee := .value f,args,.. }=>bU P (s.ev f) args.toList o.dst s K
 | op=>xn (kqo op) (qv P s op) s o.dst (op.operands.toList.map s.ev) K∨xu (rv P s op) s o.dst K∨iq (xv P s op) o.dst (kx s op) K∨iq (zv P s op) o.dst .z K
section
variable {P:Program} [Tb P] {C:Cx} {s:St} {L L':Lay} {a:Act} {w w':World}
def Does(P:Program)(o:Oper)(a:Act)(w:World)(u:Value)(w':World):Prop :=
 (execOp a.eval o).run P w = .ok (.value u) w'∨((execOp a.eval o).run P w = .ok .skip w'∧u=undef)
theorem Does.wp{o:Oper}{u:Value}{next:Act→World→Prop}{Q:Exit→Act→World→Prop}(h:Does P o a w u w')(hn:next (a.put o.dst u) w'):o.wp P a w next Q:=by
 unfold Oper.wp
 rcases h with h|⟨h,rfl⟩<;>rw[h]<;>exact hn
theorem evs(S:Sim C s L a w)(l:List Operand):Reps L w (l.map s.ev) (l.map a.eval):=by
 induction l with
 | nil=>rfl
 | cons x xs ih=>exact⟨_,_,rfl,S.ev x,ih⟩
theorem Ew(S:Sim C s L a w)(o:Option Operand):o.map s.ev=none∧o.map a.eval=none∨∃v u,o.map s.ev=some v∧o.map a.eval=some u∧Rep L w v u:=by
 cases o with
 | none=>exact .inl ⟨rfl,rfl⟩
 | some x=>exact .inr ⟨_,_,rfl,rfl,S.ev x⟩
theorem N9{o:Oper}{r:V}(h:qv P s o.op=some r)(S:Sim C s L a w):∃u,Does P o a w u w∧Rep L w r u:=by
 obtain⟨dst,op,type,pos,after,guard⟩:=o
 simp only at h
 unfold qv at h
 split at h
 ·simp only[Option.some.injEq] at h;subst h
  exact⟨_,.inl rfl,S.ev _⟩
 ·simp only[Option.some.injEq] at h;subst h
  exact⟨_,.inl rfl,S.ev _⟩
 ·rename_i c x y
  split at h
  ·rename_i b hb
   simp only[Option.some.injEq] at h;subst h
   have hc:=S.ev c
   rw[hb] at hc
   simp only[Rep] at hc
   refine⟨if b then a.eval x else a.eval y,.inl ?_,PL (S.ev x) (S.ev y)⟩
   simp only[execOp,hc,asBool,Sem.run_bind,Sem.run_pure,Result.andThen_ok]
  ·cases h
 ·rename_i op t x y yt
  obtain⟨u,h1,h2⟩:=Ur (ox:=x) h (S.ev x) (S.ev y) (fun v hv=>by subst hv;rfl)
  exact⟨u,.inl (by simp only[execOp];rw[Sem.run_bind];rw[h1];rfl),h2⟩
 ·rename_i op t x
  obtain⟨u,h1,h2⟩:=Zr (P:=P) h (S.ev x)
  exact⟨u,.inl (by simp only[execOp,Sem.run_bind,h1,Result.andThen_ok,Sem.run_pure]),h2⟩
 ·rename_i src dst' x
  obtain⟨u,h1,h2⟩:=PK h (S.ev x)
  exact⟨u,.inl (by simp only[execOp,Sem.run_bind,h1,Result.andThen_ok,Sem.run_pure]),h2⟩
 ·rename_i x i
  unfold exV at h
  split at h
  ·rename_i vs hvs
   have hx:=S.ev x
   rw[hvs] at hx
   obtain⟨ar,har,hr⟩:=hx
   obtain⟨u,h1,h2⟩:=hr.get h
   refine⟨u,.inl ?_,h2⟩
   simp only[Array.getElem?_toList] at h1
   simp only[execOp,har,Instr.extract,h1,Sem.run_bind,Sem.run_pure,Result.andThen_ok]
  ·cases h
 ·rename_i t x f
  obtain⟨u,h1,h2⟩:=J5 h (S.ev x)
  exact⟨u,.inl (by simp only[execOp,Sem.run_bind,h1,Result.andThen_ok,Sem.run_pure]),h2⟩
 ·rename_i t x i
  obtain⟨u,h1,h2⟩:=Zy h (S.ev x) (S.ev i)
  exact⟨u,.inl (by simp only[execOp,Sem.run_bind,h1,Result.andThen_ok,Sem.run_pure]),h2⟩
 ·rename_i t x i
  obtain⟨u,h1,h2⟩:=Zw h (S.ev x) (S.ev i)
  exact⟨u,.inl (by simp only[execOp,Sem.run_bind,h1,Result.andThen_ok,Sem.run_pure]),h2⟩
 ·rename_i t x f
  obtain⟨u,h1,h2⟩:=Zx h (S.ev x)
  exact⟨u,.inl (by simp only[execOp,Sem.run_bind,h1,Result.andThen_ok,Sem.run_pure]),h2⟩
 ·rename_i x
  have hx:=S.ev x
  split at h
  ·rename_i b o hb
   simp only[Option.some.injEq] at h;subst h
   rw[hb] at hx
   obtain⟨g,h1,h2⟩:=hx
   exact⟨_,.inl (by simp only[execOp,h2];rfl),g,h1,rfl⟩
  ·rename_i t k xs i o hb
   simp only[Option.some.injEq] at h;subst h
   rw[hb] at hx
   have hx':=hx
   obtain⟨g,o',cells,h2,_⟩:=hx
   exact⟨_,.inl (by simp only[execOp,h2];rfl),h2 ▸ hx'⟩
  ·rename_i f fs cs hb
   simp only[Option.some.injEq] at h;subst h
   rw[hb] at hx
   have hx':=hx
   obtain⟨a1,b1,h2,_⟩:=hx
   exact⟨_,.inl (by simp only[execOp,h2];rfl),h2 ▸ hx'⟩
  ·cases h
 ·rename_i f fs cs
  simp only[Option.some.injEq] at h;subst h
  exact⟨_,.inl rfl,_,_,rfl,by simpa using evs S fs.toList,by simpa using evs S cs.toList⟩
 ·rename_i t parts
  obtain⟨u,h1,h2⟩:=J6 (parts:=parts) s.ev a.eval S.ev h
  exact⟨u,.inl (by simp only[execOp,Sem.run_bind,h1,Result.andThen_ok,Sem.run_pure]),h2⟩
 ·rename_i t x lo hi
  obtain⟨u,h1,h2⟩:=NY h (S.ev x) (Ew S lo) (Ew S hi)
  exact⟨u,.inl (by simp only[execOp,Sem.run_bind,Option.map_none,h1,Result.andThen_ok,Sem.run_pure]),h2⟩
 ·rename_i t x
  split at h
  ·rename_i tg k xs i off hx
   simp only[Option.bind_eq_some_iff] at h
   obtain⟨y,hy,cs,hcs,h⟩:=h
   have hr:=S.ev x
   rw[hx] at hr
   obtain⟨u,h1,h2⟩:=Uh hr hy hcs h
   exact⟨u,.inl (by simp only[execOp,Sem.run_bind,h1,Result.andThen_ok,Sem.run_pure]),h2⟩
  ·cases h
 ·rename_i args argTypes
  split at h
  ·rename_i x t hx ht
   obtain⟨u,h1,h2⟩:=Ug (ty:=type) h (S.ev x)
   have e1:args=#[x]:=by apply Array.ext';simpa using hx
   have e2:argTypes=#[t]:=by apply Array.ext';simpa using ht
   subst e1;subst e2
   refine⟨u,.inl ?_,h2⟩
   simp only[execOp,resolve,Sem.run_bind,Sem.run_pure,Result.andThen_ok,invoke,builtin,List.map_toArray,List.map_cons,List.map_nil]
   rw[h1];rfl
  ·cases h
 ·rename_i args argTypes
  split at h
  ·rename_i x hx
   obtain⟨u,h1,h2⟩:=ZB (P:=P) h (S.ev x) argTypes type
   have e1:args=#[x]:=by apply Array.ext';simpa using hx
   subst e1
   refine⟨u,.inl ?_,h2⟩
   simp only[execOp,resolve,Sem.run_bind,Sem.run_pure,Result.andThen_ok,invoke,builtin,List.map_toArray,List.map_cons,List.map_nil]
   rw[h1];rfl
  ·cases h
 ·rename_i args argTypes
  split at h
  ·rename_i x y hx
   obtain⟨u,h1,h2⟩:=yG (P:=P) (at_:=argTypes) (ty:=type) h (S.ev x) (S.ev y)
   have e1:args=#[x,y]:=by apply Array.ext';simpa using hx
   subst e1
   refine⟨u,.inl ?_,h2⟩
   simp only[execOp,resolve,Sem.run_bind,Sem.run_pure,Result.andThen_ok,invoke,builtin,List.map_toArray,List.map_cons,List.map_nil]
   simp only[if_true] at h1
   rw[h1];rfl
  ·cases h
 ·rename_i args argTypes
  split at h
  ·rename_i x y hx
   obtain⟨u,h1,h2⟩:=yG (P:=P) (at_:=argTypes) (ty:=type) h (S.ev x) (S.ev y)
   have e1:args=#[x,y]:=by apply Array.ext';simpa using hx
   subst e1
   refine⟨u,.inl ?_,h2⟩
   simp only[execOp,resolve,Sem.run_bind,Sem.run_pure,Result.andThen_ok,invoke,builtin,List.map_toArray,List.map_cons,List.map_nil]
   simp only[Bool.false_eq_true,if_false] at h1
   rw[h1];rfl
  ·cases h
 ·rename_i args argTypes
  split at h
  ·rename_i x y hx
   obtain⟨u,h1,h2⟩:=Zt (P:=P) (at_:=argTypes) (ty:=type) h (S.ev x) (S.ev y)
   have e1:args=#[x,y]:=by apply Array.ext';simpa using hx
   subst e1
   refine⟨u,.inl ?_,h2⟩
   simp only[execOp,resolve,Sem.run_bind,Sem.run_pure,Result.andThen_ok,invoke,builtin,List.map_toArray,List.map_cons,List.map_nil]
   rw[h1];rfl
  ·cases h
 ·rename_i args argTypes
  split at h
  ·rename_i x hx
   obtain⟨u,h1,h2⟩:=Zu (P:=P) (at_:=argTypes) (ty:=type) h (S.ev x)
   have e1:args=#[x]:=by apply Array.ext';simpa using hx
   subst e1
   refine⟨u,.inl ?_,h2⟩
   simp only[execOp,resolve,Sem.run_bind,Sem.run_pure,Result.andThen_ok,invoke,builtin,List.map_toArray,List.map_cons,List.map_nil]
   rw[h1];rfl
  ·cases h
 ·rename_i args argTypes
  split at h
  ·rename_i x hx
   obtain⟨u,h1,h2⟩:=Zv (P:=P) (at_:=argTypes) (ty:=type) h (S.ev x)
   have e1:args=#[x]:=by apply Array.ext';simpa using hx
   subst e1
   refine⟨u,.inl ?_,h2⟩
   simp only[execOp,resolve,Sem.run_bind,Sem.run_pure,Result.andThen_ok,invoke,builtin,List.map_toArray,List.map_cons,List.map_nil]
   rw[h1];rfl
  ·cases h
 ·rename_i t x
  obtain⟨u,h1,h2⟩:=ZF h (S.ev x)
  exact⟨u,.inl (by simp only[execOp,Sem.run_bind,h1,Result.andThen_ok,Sem.run_pure]),h2⟩
 ·rename_i t x i ok
  obtain⟨u,h1,h2⟩:=ZC h (S.ev x) (S.ev i)
  exact⟨u,.inl (by simp only[execOp,Sem.run_bind,h1,Result.andThen_ok,Sem.run_pure]),h2⟩
 ·cases h
theorem Kv{oQ:TypeId→Bool}{d e c c' off n:Nat}(hc:c≤c')(h:rowAt P oQ d e c off n=true):rowAt P oQ d e c' off n=true:=by
 cases d with
 | zero=>exact h
 | succ d =>
  simp only[rowAt] at h ⊢
  split at h
  ·cases h
  ·rename_i hs
   rw[if_neg hs]
   simp only[Bool.or_eq_true,Bool.and_eq_true,decide_eq_true_eq] at h ⊢
   rcases h with ⟨⟨h1,h2⟩,h3⟩|⟨h1,h2⟩
   ·exact .inl ⟨⟨h1,by omega⟩,h3⟩
   ·exact .inr ⟨by omega,h2⟩
theorem Ht{d:Nat}:∀{e c c' off u n:Nat},c≤c'→liesAt P d e c off u n=true→liesAt P d e c' off u n=true:=by
 induction d with
 | zero=>intro e c c' off u n _ h;exact h
 | succ d ih =>
  intro e c c' off u n hc h
  simp only[liesAt,Bool.or_eq_true] at h ⊢
  rcases h with h|h
  ·exact .inl (Kv hc h)
  ·refine .inr ?_
   split at h
   ·exact ih hc h
   ·cases h
theorem Kw{src dst:TypeId}{x r:V}{ux:Value}(h:jg P s src dst x=some r)(S:Sim C s L a w)(hx:Rep L w x ux):∃u,(convert src dst ux).run P w = .ok u w∧Rep L w r u:=by
 unfold jg at h
 split at h
 ·rename_i b off
  simp only[Option.bind_eq_some_iff,Option.ite_none_right_eq_some,Option.some.injEq] at h
  obtain⟨⟨e,cs⟩,hb,h0,rfl⟩:=h
  obtain⟨g,arr,hg,ha,hr⟩:=S.box b _ hb
  have hx':=hx
  obtain⟨g',hg',rfl⟩:=hx
  rw[hg] at hg'
  simp only[Option.some.injEq] at hg'
  subst hg'
  have hl:cs.length≤arr.size:=by have h0:=hr.length;simp at h0;omega
  have hsh:w.shape? g=some (e,arr.size):=by simp [World.shape?,ha]
  unfold Us at h0
  split at h0
  ·rename_i t hs hd
   split at h0
   ·rename_i j hj
    simp only[Bool.and_eq_true,decide_eq_true_eq] at h0
    exact⟨_,Lib.run_to_unsafe w _ hs hd hj h0.1 hsh (Nat.lt_of_lt_of_le h0.2 hl),hx'⟩
   ·cases h0
  ·rename_i u hs hd
   simp only[Bool.and_eq_true] at h0
   obtain⟨j,hj⟩:=Option.isSome_iff_exists.1 h0.1
   refine⟨_,Lib.run_from_unsafe w _ hs hd hj hsh ?_,hx'⟩
   exact Ht (Nat.div_le_div_right hl) h0.2
  ·cases h0
 ·cases h
theorem ZG{o:Oper}{r:V}(h:rv P s o.op=some r)(S:Sim C s L a w):∃u,Does P o a w u w∧Rep L w r u:=by
 obtain⟨dst,op,type,pos,after,guard⟩:=o
 simp only at h
 unfold rv at h
 split at h
 ·rename_i t x
  split at h
  ·rename_i b off hx
   have hr:=S.ev x
   rw[hx] at hr
   obtain⟨u,h1,h2⟩:=Ar h S hr
   exact⟨u,.inl (by simp only[execOp,Sem.run_bind,h1,Result.andThen_ok,Sem.run_pure]),h2⟩
  ·cases h
 ·rename_i src dst' x
  obtain⟨u,h1,h2⟩:=Kw h S (S.ev x)
  exact⟨u,.inl (by simp only[execOp,Sem.run_bind,h1,Result.andThen_ok,Sem.run_pure]),h2⟩
 ·cases h
theorem Oa{o:Oper}{r:V}{s':St}(h:xv P s o.op=some (r,s'))(S:Sim C s L a w):∃u w' L',Does P o a w u w'∧Sim C s' L' a w'∧Rep L' w' r u:=by
 obtain⟨dst,op,type,pos,after,guard⟩:=o
 simp only at h
 unfold xv at h
 split at h
 ·obtain⟨u,w',L',h1,h2,h3⟩:=PM h S
  exact⟨u,w',L',.inl (by simp only[execOp,Sem.run_bind,h1,Result.andThen_ok,Sem.run_pure]),h2,h3⟩
 ·rename_i e x
  obtain⟨u,w',L',h1,h2,h3⟩:=Zz (P:=P) (elem:=e) h S (S.ev x)
  exact⟨u,w',L',.inl (by simp only[execOp,Sem.run_bind,h1,Result.andThen_ok,Sem.run_pure]),h2,h3⟩
 ·rename_i t len parts
  obtain⟨u,w',L',h1,h2,h3⟩:=AB (parts:=parts) S h
  exact⟨u,w',L',.inl (by simp only[execOp,Sem.run_bind,h1,Result.andThen_ok,Sem.run_pure]),h2,h3⟩
 ·rename_i t x y
  have hx:=S.ev x
  split at h
  ·rename_i b off hb
   simp only[Option.map_eq_some_iff,Prod.mk.injEq] at h
   obtain⟨s1,h,rfl,rfl⟩:=h
   rw[hb] at hx
   obtain⟨w',h1,h2⟩:=xg h S hx (S.ev y)
   exact⟨undef,w',L,.inr ⟨by simp only[execOp,Sem.run_bind,h1,Result.andThen_ok,Sem.run_pure],rfl⟩,h2,trivial⟩
  ·rename_i id e k xs i off hb
   simp only[Option.map_eq_some_iff,Prod.mk.injEq] at h
   obtain⟨s1,h,rfl,rfl⟩:=h
   rw[hb] at hx
   obtain⟨w',h1,h2⟩:=PO h S hx (S.ev y)
   exact⟨undef,w',L,.inr ⟨by simp only[execOp,Sem.run_bind,h1,Result.andThen_ok,Sem.run_pure],rfl⟩,h2,trivial⟩
  ·cases h
 ·rename_i t l c
  obtain⟨u,w',L',h1,h2,h3⟩:=Uj h S (S.ev l) (S.ev c)
  exact⟨u,w',L',.inl (by simp only[execOp,Sem.run_bind,h1,Result.andThen_ok,Sem.run_pure]),h2,h3⟩
 ·rename_i t
  obtain⟨u,w',L',h1,h2,h3⟩:=PR h S
  exact⟨u,w',L',.inl (by simp only[execOp,Option.map_none,Sem.run_bind,h1,Result.andThen_ok,Sem.run_pure]),h2,h3⟩
 ·rename_i t m k x
  obtain⟨rfl,w',h1,h2⟩:=ZE h S (S.ev m) (S.ev k) (S.ev x)
  exact⟨undef,w',L,.inr ⟨by simp only[execOp,Sem.run_bind,h1,Result.andThen_ok,Sem.run_pure],rfl⟩,h2,trivial⟩
 ·rename_i src dst' x
  simp only[Option.map_eq_some_iff,Prod.mk.injEq] at h
  obtain⟨r',h,rfl,rfl⟩:=h
  obtain⟨u,w',L',h1,h2,h3⟩:=G8 h S (S.ev x)
  exact⟨u,w',L',.inl (by simp only[execOp,Sem.run_bind,h1,Result.andThen_ok,Sem.run_pure]),h2,h3⟩
 ·rename_i args argTypes
  split at h
  ·rename_i x y t t2 hx ht
   obtain⟨u,w',L',h1,h2,h3⟩:=J8 (ty:=type) h S (S.ev x) (S.ev y)
   have e1:args=#[x,y]:=by apply Array.ext';simpa using hx
   have e2:argTypes=#[t,t2]:=by apply Array.ext';simpa using ht
   subst e1;subst e2
   refine⟨u,w',L',.inl ?_,h2,h3⟩
   simp only[execOp,resolve,Sem.run_bind,Sem.run_pure,Result.andThen_ok,invoke,builtin,List.map_toArray,List.map_cons,List.map_nil]
   rw[h1];rfl
  ·cases h
 ·cases h
theorem Hu{o:Oper}{ids:List Nat}{r:V}{s':St}(h:frX P s ids o.op=some (r,s'))(S:Sim C s L a w):∃u w' L',Does P o a w u w'∧Sim C s' L' a w'∧Rep L' w' r u:=by
 unfold frX at h
 split at h
 ·cases h
 ·rename_i i l
  obtain⟨L1,S1,_⟩:=Sim.freezeAll (i::l) S
  exact Oa h S1
theorem ZH{o:Oper}{r:V}{s':St}(h:zv P s o.op=some (r,s'))(S:Sim C s L a w):∃u w' L',Does P o a w u w'∧Sim C s' L' a w'∧Rep L' w' r u:=by
 obtain⟨dst,op,type,pos,after,guard⟩:=o
 simp only at h
 unfold zv at h
 split at h
 ·rename_i t x lo hi
  split at h
  ·rename_i id e k xs hb
   simp only[Option.ite_none_right_eq_some,Bool.and_eq_true] at h
   obtain⟨⟨h1,h2⟩,h⟩:=h
   have hx:=S.ev x
   rw[hb] at hx
   have isC_of:∀(o:Option Operand),(o.map s.ev).all isC=true→∀x,o=some x→∃u,s.ev x = .c u:=by
    rintro o ho x rfl
    simp only[Option.map_some,Option.all_some] at ho
    generalize s.ev x=v at ho
    cases v<;>simp only[isC,Bool.false_eq_true] at ho
    exact⟨_,rfl⟩
   obtain⟨u,L',h3,h4,h5⟩:=G7 h S hx (isC_of lo h1) (isC_of hi h2)
   exact⟨u,w,L',.inl (by simp only[execOp,Sem.run_bind,Option.map_none,h3,Result.andThen_ok,Sem.run_pure]),h4,h5⟩
  ·rename_i b off hb
   have hx:=S.ev x
   rw[hb] at hx
   obtain⟨u,L',h3,h4,h5⟩:=G9 h S hx (Ew S lo) (Ew S hi)
   exact⟨u,w,L',.inl (by simp only[execOp,Sem.run_bind,Option.map_none,h3,Result.andThen_ok,Sem.run_pure]),h4,h5⟩
  ·cases h
 ·rename_i src dst' x
  obtain⟨u,w',L',h1,h2,h3⟩:=PN h S (S.ev x)
  exact⟨u,w',L',.inl (by simp only[execOp,Sem.run_bind,h1,Result.andThen_ok,Sem.run_pure]),h2,h3⟩
 ·split at h
  ·obtain⟨u,w',L',h1,h2,h3⟩:=Uo S h
   exact⟨u,w',L',.inl (by simp only[execOp,Sem.run_bind,h1,Result.andThen_ok,Sem.run_pure]),h2,h3⟩
  ·exact Hu (o:=⟨dst,_,type,pos,after,guard⟩) h S
 ·rename_i t x y
  split at h
  ·rename_i id e k xs i off hx
   split at h
   ·simp only[Option.map_eq_some_iff,Prod.mk.injEq] at h
    obtain⟨s1,h,rfl,rfl⟩:=h
    have hr:=S.ev x
    rw[hx] at hr
    obtain⟨w',L',h1,h2⟩:=Ku h S hr (S.ev y)
    exact⟨undef,w',L',.inr ⟨by simp only[execOp,Sem.run_bind,h1,Result.andThen_ok,Sem.run_pure],rfl⟩,h2,trivial⟩
   ·exact Hu (o:=⟨dst,_,type,pos,after,guard⟩) h S
  ·cases h
 ·rename_i args argTypes
  split at h
  ·rename_i x y t t2 hx ht
   split at h
   ·obtain⟨u,w',L',h1,h2,h3⟩:=Hq (ty:=type) h S (S.ev x) (S.ev y)
    have e1:args=#[x,y]:=by apply Array.ext';simpa using hx
    have e2:argTypes=#[t,t2]:=by apply Array.ext';simpa using ht
    subst e1;subst e2
    refine⟨u,w',L',.inl ?_,h2,h3⟩
    simp only[execOp,resolve,Sem.run_bind,Sem.run_pure,Result.andThen_ok,invoke,builtin,List.map_toArray,List.map_cons,List.map_nil]
    rw[h1];rfl
   ·cases h
  ·cases h
 ·rename_i args argTypes
  split at h
  ·rename_i x n pt it hx ht
   obtain⟨u,w',L',h1,h2,h3⟩:=adi (it:=it) (ty:=type) h S (S.ev x) (S.ev n)
   have e1:args=#[x,n]:=by apply Array.ext';simpa using hx
   have e2:argTypes=#[pt,it]:=by apply Array.ext';simpa using ht
   subst e1;subst e2
   refine⟨u,w',L',.inl ?_,h2,h3⟩
   simp only[execOp,resolve,Sem.run_bind,Sem.run_pure,Result.andThen_ok,invoke,builtin,List.map_toArray,List.map_cons,List.map_nil]
   rw[h1];rfl
  ·cases h
 ·cases h
theorem iM{l l':List V}:ownFree (l++l')=(ownFree l&&ownFree l'):=by
 simp [ownFree,Hl]
theorem yJ{l:List V}(h:ownFree l=true):∀v∈l,ownFree [v]=true:=by
 induction l with
 | nil=>intro v hv;cases hv
 | cons x xs ih =>
  simp only[ownFree,V.anyL,Bool.not_eq_eq_eq_not,Bool.not_true,Bool.or_eq_false_iff] at h
  intro v hv
  rcases List.mem_cons.1 hv with rfl|hv
  ·simp [ownFree,V.anyL,h.1]
  ·exact ih (by simp [ownFree,h.2]) v hv
theorem Reps.of{l:List V}{us:List Value}(h:Reps L w l us)(hf:∀v∈l,∀u,Rep L w v u→Rep L' w' v u):Reps L' w' l us:=by
 induction l generalizing us with
 | nil=>exact h
 | cons x xs ih=>obtain⟨u,r,rfl,h2,h3⟩:=h;exact⟨u,r,rfl,hf x (by simp) u h2,ih h3 (fun v hv=>hf v (by simp [hv]))⟩
theorem ni{f:FuncId}(h:jD P f=true)(args:Array Value):(callFunc f args).run P w = .ok (.enter f args) w:=by
 unfold jD at h
 split at h
 ·rename_i fn hf
  simp only[Bool.and_eq_true,Bool.not_eq_eq_eq_not,Bool.not_true] at h
  have hn:¬fn.name = "runtime.NumGoroutine" := by simpa using h.1
  have hb:¬fn.body=none:=fun e=>by rw[e] at h;simp at h
  simp [callFunc,hf,hn,hb]
 ·cases h
theorem lJ{o:Oper}{K:Kd→St→Prop}{next:Act→World→Prop}{Q:Exit→Act→World→Prop}(h:aA P s o K)(hT:C.TOk P)(S:Sim C s L a w)(hd:∀t,o.dst=some t→t<C.n)
  (hn:∀κ s' L' a' w',K κ s'→Sim C s' L' a' w'→next a' w'):o.wp P a w next Q:=by
 unfold aA at h
 split at h
 ·rename_i f args argTypes heq
  unfold bU at h
  split at h
  ·rename_i g fs cs hf
   rcases h with h|⟨s1,r,hz,hK⟩
   case inr =>
    have hfv:=S.ev f
    rw[hf] at hfv
    obtain⟨af,ac,hfe,hrf,hrc⟩:=hfv
    have hargs:Reps L w (fs++args.toList.map s.ev++cs) (af.toList++args.toList.map a.eval++ac.toList):=(hrf.append (evs S args.toList)).append hrc
    have e1:(af.toList++args.toList.map a.eval++ac.toList).toArray=af++args.map a.eval++ac:=by
     apply Array.ext';simp
    rcases hz C L a w _ hT S hargs with ⟨hen,hcall⟩|⟨u,w',L',hrun,S2,hr2⟩
    ·rw[e1] at hcall
     have hexec:(execOp a.eval o).run P w = .ok (.enter g (af++args.map a.eval++ac)) w:=by
      simp only[execOp,heq,resolve,hfe,Deferred.ofValue,Sem.run_bind,Sem.run_pure,Result.andThen_ok,invoke]
      exact ni hen _
     unfold Oper.wp
     rw[hexec]
     simp only[Oper.upon]
     refine hcall.mono ?_
     rintro e w' ⟨u,L2,rfl,S2,hr2⟩
     exact hn _ _ _ _ _ hK (S2.put hr2 hd)
    ·rw[e1] at hrun
     have hexec:(execOp a.eval o).run P w = .ok (.value u) w':=by
      simp only[execOp,heq,resolve,hfe,Deferred.ofValue,Sem.run_bind,Sem.run_pure,Result.andThen_ok,invoke]
      exact hrun
     unfold Oper.wp
     rw[hexec]
     simp only[Oper.upon]
     exact hn _ _ _ _ _ hK (S2.put hr2 hd)
   obtain⟨ids,r,hg,hown,href,hrr,hof,hK⟩:=h
   have hfv:=S.ev f
   rw[hf] at hfv
   obtain⟨af,ac,hfe,hrf,hrc⟩:=hfv
   obtain⟨L1,S1,hfree⟩:=S.freezeAll ids
   rw[iM,Bool.and_eq_true] at hown
   have hrf':=hrf.of (fun v hv u h=>hfree v u (yJ hown.1 v hv) h)
   have hrc':=hrc.of (fun v hv u h=>hfree v u (yJ hown.2 v hv) h)
   have hargs:Reps L1 w (fs++args.toList.map (s.freezeAll ids).ev++cs) (af.toList++args.toList.map a.eval++ac.toList):=(hrf'.append (evs S1 args.toList)).append hrc'
   have hof':(ownFree (fs++args.toList.map (s.freezeAll ids).ev++cs)||r.flat)=true:=by
    rw[iM,iM,hown.1,hown.2]
    simpa using hof
   have hcall:=PT hT S1 hargs hg href hrr hof'
   have hexec:(execOp a.eval o).run P w = .ok (.enter g (af++args.map a.eval++ac)) w:=by
    simp only[execOp,heq,resolve,hfe,Deferred.ofValue,Sem.run_bind,Sem.run_pure,Result.andThen_ok,invoke]
    exact ni hg.1 _
   unfold Oper.wp
   rw[hexec]
   simp only[Oper.upon]
   have e1:(af.toList++args.toList.map a.eval++ac.toList).toArray=af++args.map a.eval++ac:=by
    apply Array.ext';simp
   rw[e1] at hcall
   refine hcall.mono ?_
   rintro e w' ⟨u,L2,rfl,S2,hr2⟩
   rw[CX] at S2 hr2
   exact hn _ _ _ _ _ hK (S2.put hr2 hd)
  ·cases h
 ·rcases h with h|h|h|h
  ·unfold xn at h
   split at h
   ·rename_i r hr
    obtain⟨u,h1,h2⟩:=N9 hr S
    exact h1.wp (hn _ _ _ _ _ h (S.put h2 hd))
   ·cases h
  ·unfold xu at h
   split at h
   ·rename_i r hr
    obtain⟨u,h1,h2⟩:=ZG hr S
    exact h1.wp (hn _ _ _ _ _ h (S.put h2 hd))
   ·cases h
  ·unfold iq at h
   split at h
   ·rename_i r s' hr
    obtain⟨u,w',L',h1,h2,h3⟩:=Oa hr S
    exact h1.wp (hn _ _ _ _ _ h (h2.put h3 hd))
   ·cases h
  ·unfold iq at h
   split at h
   ·rename_i r s' hr
    obtain⟨u,w',L',h1,h2,h3⟩:=ZH hr S
    exact h1.wp (hn _ _ _ _ _ h (h2.put h3 hd))
   ·cases h
def gq(s:St)(dsts:List (Option Nat))(j:Nat):Option V :=
 match dsts[j]? with
 | some (some d)=>some (s.env d)
 | _=>none
def wpL(P:Program)[Tb P](dsts:List (Option Nat))(K:St→Prop):List Oper→St→Prop
 | [],s=>K s
 | o::rest,s =>
  match o.guard with
  | none=>aA P s o (fun _=>wpL P dsts K rest)
  | some (j,want)=>match gq s dsts j with
   | some (.c (.bool b))=>if b=want then aA P s o (fun _=>wpL P dsts K rest) else wpL P dsts K rest (s.put o.dst (.c undef))
   | some (.c _)=>wpL P dsts K rest (s.put o.dst (.c undef))
   | _=>False
def Weak(s s':St):Prop:=∀(C:Cx) (L:Lay) (a:Act) (w:World),Sim C s L a w→∃L',Sim C s' L' a w
def Ky(k:St→Prop)(s:St):Prop:=∃s',Weak s s'∧k s'
def acU(P:Program)[Tb P](f:Operand)(args:List Operand)(d:Option Nat)(s:St)(K:St→Prop):Prop :=
 ∃s1,Weak s s1∧match s1.ev f with
 | .fn g fs cs=>∃φ,GoodE P g (fs++args.map s1.ev++cs) s1 φ∧∀s' r,φ s' r→K (s'.put d r)
 | _=>False
def fM(P:Program)[Tb P](s:St)(o:Oper)(K:St→Prop):Prop :=
 match o.op with
 | .call { callee := .value f,args,.. }=>bU P (s.ev f) args.toList o.dst s (fun _=>K)∨acU P f args.toList o.dst s K
 | _=>aA P s o (fun _=>K)
def CY(P:Program)[Tb P](dsts:List (Option Nat))(K:St→Prop):List Oper→St→Prop
 | [],s=>K s∨Ky K s
 | o::rest,s =>
  match o.guard with
  | none=>fM P s o (CY P dsts K rest)
  | some (j,want)=>match gq s dsts j with
   | some (.c (.bool b))=>if b=want then fM P s o (CY P dsts K rest) else CY P dsts K rest (s.put o.dst (.c undef))
   | some (.c _)=>CY P dsts K rest (s.put o.dst (.c undef))
   | _=>False
theorem yK{o:Oper}{K:St→Prop}{next:Act→World→Prop}{Q:Exit→Act→World→Prop}(h:fM P s o K)(hT:C.TOk P)(S:Sim C s L a w)(hd:∀t,o.dst=some t→t<C.n)
  (hn:∀s' L' a' w',K s'→Sim C s' L' a' w'→next a' w'):o.wp P a w next Q:=by
 have yY:aA P s o (fun _=>K)→o.wp P a w next Q:=fun h=>lJ h hT S hd (fun _ s' L' a' w' h' S'=>hn s' L' a' w' h' S')
 unfold fM at h
 split at h
 ·rename_i f args ts heq
  rcases h with h|⟨s1,hw,h⟩
  ·refine yY ?_
   unfold aA
   rw[heq]
   exact h
  ·obtain⟨L1,S1⟩:=hw C L a w S
   split at h
   ·rename_i g fs cs hf
    obtain⟨φ,hg,hK⟩:=h
    have hfv:=S1.ev f
    rw[hf] at hfv
    obtain⟨af,ac,hfe,hrf,hrc⟩:=hfv
    have hargs:Reps L1 w (fs++args.toList.map s1.ev++cs) (af.toList++args.toList.map a.eval++ac.toList):=(hrf.append (evs S1 args.toList)).append hrc
    have e1:(af.toList++args.toList.map a.eval++ac.toList).toArray=af++args.map a.eval++ac:=by
     apply Array.ext';simp
    obtain⟨hen,hcall⟩:=hg C L1 a w _ hT S1 hargs
    rw[e1] at hcall
    have hexec:(execOp a.eval o).run P w = .ok (.enter g (af++args.map a.eval++ac)) w:=by
     simp only[execOp,heq,resolve,hfe,Deferred.ofValue,Sem.run_bind,Sem.run_pure,Result.andThen_ok,invoke]
     exact ni hen _
    unfold Oper.wp
    rw[hexec]
    simp only[Oper.upon]
    refine hcall.mono ?_
    rintro e w' ⟨u,L2,s',r,hφ,rfl,S2,hr2⟩
    exact hn _ _ _ _ (hK _ _ hφ) (S2.put hr2 hd)
   ·cases h
 ·exact yY h
theorem oP{ops:Array Oper}{j:Nat}{b:Bool}(S:Sim C s L a w)(h:gq s (ops.toList.map (·.dst)) j=some (.c (.bool b))):yielded ops a.tmps j=some b:=by
 unfold gq at h
 split at h
 ·rename_i d hd
  simp only[Option.some.injEq] at h
  simp only[List.getElem?_map,Option.map_eq_some_iff] at hd
  obtain⟨o,ho,hod⟩:=hd
  simp only[Array.getElem?_toList] at ho
  have he:=S.env d
  rw[h] at he
  simp only[Rep] at he
  have:a.tmps[d]?=some (.bool b):=by
   rcases Nat.lt_or_ge d a.tmps.size with hl|hl
   ·simp only[Array.getD_eq_getD_getElem?,Array.getElem?_eq_getElem hl,Option.getD_some] at he ⊢
    rw[he]
   ·simp [Array.getD_eq_getD_getElem?,Array.getElem?_eq_none hl,undef] at he
  simp [yielded,ho,hod,this]
 ·cases h
theorem uG{ops:Array Oper}{j:Nat}{v:Value}(S:Sim C s L a w)(h:gq s (ops.toList.map (·.dst)) j=some (.c v))(hv:∀b,v ≠ .bool b):yielded ops a.tmps j=none:=by
 unfold gq at h
 split at h
 ·rename_i d hd
  simp only[Option.some.injEq] at h
  simp only[List.getElem?_map,Option.map_eq_some_iff] at hd
  obtain⟨o,ho,hod⟩:=hd
  simp only[Array.getElem?_toList] at ho
  have he:=S.env d
  rw[h] at he
  simp only[Rep] at he
  simp only[yielded,ho,hod,Option.bind_some]
  rcases Nat.lt_or_ge d a.tmps.size with hl|hl
  ·simp only[Array.getD_eq_getD_getElem?,Array.getElem?_eq_getElem hl,Option.getD_some] at he
   simp only[Array.getElem?_eq_getElem hl,he]
   cases v<;>first|rfl|exact absurd rfl (hv _)
  ·simp [Array.getElem?_eq_none hl]
 ·cases h
theorem PW(hT:C.TOk P){ops:Array Oper}{K:St→Prop}{Q:Exit→Act→World→Prop}(hK:∀s' L' a' w',K s'→Sim C s' L' a' w'→Q .normal a' w')(l:List Oper)(hl:∀o∈l,∀t,o.dst=some t→t<C.n) :
  ∀{s:St} {L:Lay} {a:Act} {w:World},wpL P (ops.toList.map (·.dst)) K l s→Sim C s L a w→wpList P ops Q l a w:=by
 induction l with
 | nil=>intro s L a w h S;exact hK s L a w h S
 | cons o rest ih =>
  intro s L a w h S
  have hd:=hl o (by simp)
  have ih':=@ih (fun o ho=>hl o (by simp [ho]))
  unfold wpList
  unfold wpL at h
  split at h
  ·rename_i hg
   rw[if_pos (by simp [Region.wanted,hg])]
   exact .inl (lJ h hT S hd (fun _ s' L' a' w' h' S'=>ih' h' S'))
  ·rename_i j want hg
   split at h
   ·rename_i b hb
    have hy:=oP S hb
    split at h
    ·rename_i hbw
     rw[if_pos (by simp [Region.wanted,hg,hy,hbw])]
     exact .inl (lJ h hT S hd (fun _ s' L' a' w' h' S'=>ih' h' S'))
    ·rename_i hbw
     rw[if_neg (by simp [Region.wanted,hg,hy,hbw])]
     exact ih' h (S.put (v := .c undef) rfl hd)
   ·rename_i v hnb hb
    rw[if_neg (by simp [Region.wanted,hg,uG S hb (fun b e=>hnb b (by rw[e]))])]
    exact ih' h (S.put (v := .c undef) rfl hd)
   ·cases h
theorem Kz(hT:C.TOk P){ops:Array Oper}{K:St→Prop}{Q:Exit→Act→World→Prop}(hK:∀s' L' a' w',K s'→Sim C s' L' a' w'→Q .normal a' w')(l:List Oper)(hl:∀o∈l,∀t,o.dst=some t→t<C.n) :
  ∀{s:St} {L:Lay} {a:Act} {w:World},CY P (ops.toList.map (·.dst)) K l s→Sim C s L a w→wpList P ops Q l a w:=by
 induction l with
 | nil =>
  intro s L a w h S
  rcases h with h|⟨s1,hw,h⟩
  ·exact hK s L a w h S
  ·obtain⟨L1,S1⟩:=hw C L a w S
   exact hK s1 L1 a w h S1
 | cons o rest ih =>
  intro s L a w h S
  have hd:=hl o (by simp)
  have ih':=@ih (fun o ho=>hl o (by simp [ho]))
  unfold wpList
  unfold CY at h
  split at h
  ·rename_i hg
   rw[if_pos (by simp [Region.wanted,hg])]
   exact .inl (yK h hT S hd (fun s' L' a' w' h' S'=>ih' h' S'))
  ·rename_i j want hg
   split at h
   ·rename_i b hb
    have hy:=oP S hb
    split at h
    ·rename_i hbw
     rw[if_pos (by simp [Region.wanted,hg,hy,hbw])]
     exact .inl (yK h hT S hd (fun s' L' a' w' h' S'=>ih' h' S'))
    ·rename_i hbw
     rw[if_neg (by simp [Region.wanted,hg,hy,hbw])]
     exact ih' h (S.put (v := .c undef) rfl hd)
   ·rename_i v hnb hb
    rw[if_neg (by simp [Region.wanted,hg,uG S hb (fun b e=>hnb b (by rw[e]))])]
    exact ih' h (S.put (v := .c undef) rfl hd)
   ·cases h
end
end Go.Pg
end
