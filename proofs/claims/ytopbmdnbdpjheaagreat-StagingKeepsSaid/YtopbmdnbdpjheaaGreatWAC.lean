/-
  Merged texts.
-/
import Derived.WideLaws
import Derived.Test.YtopbmdnbdpjheaaGreatWAB
set_option linter.all false
set_option linter.unusedVariables false
set_option linter.unusedSimpArgs false
set_option linter.unusedSectionVars false
set_option linter.defProp false
set_option maxRecDepth 100000
set_option maxHeartbeats 8000000
section
namespace Go.Pg
open Go
def exV(x:V)(i:Nat):Option V:=match x with | .tup vs=>vs[i]?|_=>none
def tq(P:Program)(t:TypeId):Bool:=match P.underlying t with|some (.interface _)=>true|_=>false
def Di(P:Program)(op:BinOp)(t:TypeId)(x:V):Option V :=
 match op,x with
 | .eql,.c .nilIface=>if tq P t then some (.c (.bool true))else none
 | .neq,.c .nilIface=>if tq P t then some (.c (.bool false))else none
 | .eql,.c (.iface _ _)=>if tq P t then some (.c (.bool false))else none
 | .neq,.c (.iface _ _)=>if tq P t then some (.c (.bool true))else none
 | .eql,.nif=>if tq P t then some (.c (.bool false))else none
 | .neq,.nif=>if tq P t then some (.c (.bool true))else none
 |_,_=>none
def VL(P:Program)(t:TypeId):Bool:=match P.underlying t with|some (.interface _)=>false|some _=>true|none=>false
def miV(P:Program)(t:TypeId)(x:V):Option V:=match x with | .c v=>if VL P t then some (.c (.iface t v))else none|_=>none
def amh{P:Program}{L:Lay}{w:World}{t:TypeId}{x r:V}{u:Value}(h:miV P t x=some r)(hx:Rep L w x u):∃v,(Instr.makeInterface t u).run P w = .ok v w/\Rep L w r v:=by
 unfold miV at h;split at h
 .subst hx;simp at h;obtain⟨a,rfl⟩:=h;refine⟨_,?_,rfl⟩;unfold VL at a;split at a
  .cases a
  .rename_i d hd b;simp only[Instr.makeInterface,Sem.run_bind,run_underlying b];simp_all
  .cases a
 .cases h
def qQ(P:Program)(op:BinOp)(t:TypeId)(x y:V)(a:Operand):Option V :=
 match a with
 | .const .nilIface=>Di P op t x
 |_=>bU P op t x y
def EP{P:Program}{t:TypeId}(h:tq P t=true):P.underlying t=some (.interface (P.methodsAt t)):=by
 unfold tq at h;split at h
 .rename_i m hm;simp[Program.methodsAt,hm]
 .cases h
def aco{P:Program}{L:Lay}{w:World}{op:BinOp}{t:TypeId}{x y r:V}{g d:Value}{ox f:Operand}(h:qQ P op t x y f=some r)(c:Rep L w x g)(j:Rep L w y d)(i:∀v,f = .const v->d=v) :
  ∃u,(do eqGuard op t ox f g d;Go.binOp op t g d:Sem Value).run P w = .ok u w/\Rep L w r u:=by
 unfold qQ at h
 split at h
 .have:=i _ rfl;subst this;unfold Di at h;split at h
  .subst c;simp at h;obtain⟨b,rfl⟩:=h;exact⟨.bool true,by rw[eqGuard_nil_constR];exact run_eql_nil_nil w t (EP b),rfl⟩
  .subst c;simp at h;obtain⟨b,rfl⟩:=h;exact⟨.bool false,by rw[eqGuard_nil_constR];exact run_neq_nil_nil w t (EP b),rfl⟩
  .subst c;simp at h;obtain⟨b,rfl⟩:=h;exact⟨.bool false,by rw[];exact run_eql_held_nil w t _ _ (EP b),rfl⟩
  .subst c;simp at h;obtain⟨b,rfl⟩:=h;exact⟨.bool true,by rw[];exact run_neq_held_nil w t _ _ (EP b),rfl⟩
  .obtain⟨a,v,rfl⟩:=c;simp at h;obtain⟨b,rfl⟩:=h;exact⟨.bool false,by rw[];exact run_eql_held_nil w t _ _ (EP b),rfl⟩
  .obtain⟨a,v,rfl⟩:=c;simp at h;obtain⟨b,rfl⟩:=h;exact⟨.bool true,by rw[];exact run_neq_held_nil w t _ _ (EP b),rfl⟩
  .cases h
 .exact acJ h c j _ _
def qv(P:Program)(s:St)(op:Op):Option V :=
 match op with
 | .move x=>some (s.ev x)
 | .assign x=>some (s.ev x)
 | .pick c x y=>match s.ev c with | .c (.bool b)=>some (tV b (s.ev x) (s.ev y))|_=>none
 | .binOp op t x y _=>qQ P op t (s.ev x) (s.ev y) y
 | .unOp op _ x=>unV op (s.ev x)
 | .convert src d x=>lZ P src d (s.ev x)
 | .extract x i=>exV (s.ev x) i
 | .field t x f=>EC P t (s.ev x) f
 | .index t x i=>ixV P t (s.ev x) (s.ev i)
 | .indexAddr t x i=>iaV P t (s.ev x) (s.ev i)
 | .fieldAddr t x f=>faV P t (s.ev x) f
 | .nilCheck x=>match s.ev x with | .ref b o=>some (.ref b o) | .el t k xs i o=>some (.el t k xs i o) | .fn f fs cs=>some (.fn f fs cs)|_=>none
 | .makeFunc (.func f) fs cs=>some (.fn f (fs.toList.map s.ev) (cs.toList.map s.ev))
 | .build t parts=>BR P t (parts.toList.map fun p=>(p.1,s.ev p.2))
 | .slice t x lo hi none=>slV P t (s.ev x) (lo.map s.ev) (hi.map s.ev)
 | .load t x=>match s.ev x with | .el _ _ xs i off=>(xs[i]?).bind fun y=>y.cs.bind fun cs=>jI P t cs off|_=>none
 | .call {callee:=.builtin .len,args,argTypes}=>match args.toList,argTypes.toList with|[x],[t]=>rC P t (s.ev x)|_,_=>none
 | .call {callee:=.builtin .unsafeSliceData,args,..}=>match args.toList with|[x]=>sdV (s.ev x)|_=>none
 | .call {callee:=.builtin .max,args,..}=>match args.toList with|[x,y]=>AC true (s.ev x) (s.ev y)|_=>none
 | .call {callee:=.builtin .min,args,..}=>match args.toList with|[x,y]=>AC false (s.ev x) (s.ev y)|_=>none
 | .call {callee:=.builtin .complex,args,..}=>match args.toList with|[x,y]=>cxV (s.ev x) (s.ev y)|_=>none
 | .call {callee:=.builtin .real,args,..}=>match args.toList with|[x]=>reV (s.ev x)|_=>none
 | .call {callee:=.builtin .imag,args,..}=>match args.toList with|[x]=>imV (s.ev x)|_=>none
 | .makeInterface t x=>miV P t (s.ev x)
 |_=>none
def isC:V->Bool
 | .c _=>true
 |_=>false
def PX(P:Program)(src d e:TypeId)(n off:Nat):Bool :=
 match P.underlying src,P.underlying d with
 |some (.pointer t),some .unsafePointer=>(match P.info? t with|some j=>decide (j.size≠0)&&decide (off<n)|none=>false)
 |some .unsafePointer,some (.pointer u)=>(P.info? u).isSome&&liesAt P P.depth e (n / P.cellsOf e) off u 1
 |_,_=>false
def pY(P:Program)(s:St)(src d:TypeId)(x:V):Option V :=
 match x with
 | .ref b off=>(s.bx b).bind fun y=>if PX P src d y.1 y.2.length off=true then some (.ref b off)else none
 |_=>none
def xv(P:Program)(s:St)(op:Op):Option (V×St) :=
 match op with
 | .alloc e=>BN P s e
 | .box e x=>BP s e (s.ev x)
 | .buildSlice t len parts=>qp P s t len (parts.toList.map fun p=>(p.1,s.ev p.2))
 | .store t x y=>match s.ev x with
  | .ref b off=>(oZ P s t b off (s.ev y)).map fun s'=>(.top,s')
  | .el (.own id _) k xs i off=>(rV P s t id k xs i off (s.ev y)).map fun s'=>(.top,s')
  |_=>none
 | .makeSlice t l c=>yO P s t (s.ev l) (s.ev c)
 | .makeMap t none=>C9 P s t
 | .mapUpdate t m k x=>match s.ev m with | .mh false b=>(rH P s t b (s.ev k) (s.ev x)).map fun s'=>(.top,s')|_=>none
 | .call {callee:=.builtin .delete,args,argTypes}=>match args.toList,argTypes.toList with|[x,k],[t,_]=>(match s.ev x with | .mh false b=>(yc P s t b (s.ev k)).map fun s'=>(.tup [],s')|_=>none)|_,_=>none
 | .convert src d x=>(vP P src d (s.ev x)).map fun r=>(r,s)
 | .call {callee:=.builtin .append,args,argTypes}=>match args.toList,argTypes.toList with|[x,y],[t,t2]=>uG P s t t2 (s.ev x) (s.ev y)|_,_=>none
 |_=>none
mutual
def V.ids:V->List Nat
 | .c _=>[]
 | .sl (.own id _) _ _=>[id]
 | .sl .fz _ _=>[]
 | .sl .nn _ _=>[]
 | .agg cs=>V.idsL cs
 | .tup cs=>V.idsL cs
 | .ref _ _=>[]
 | .el (.own id _) _ _ _ _=>[id]
 | .el .fz _ _ _ _=>[]
 | .el .nn _ _ _ _=>[]
 | .fn _ fs cs=>V.idsL fs++V.idsL cs
 | .top=>[]
 | .nif=>[]
 | .mh _ _=>[]
 | .bs _ _ _ _ _=>[]
def V.idsL:List V->List Nat
 | []=>[]
 | x::xs=>V.ids x++V.idsL xs
end
def frX(P:Program)(s:St)(ids:List Nat)(op:Op):Option (V×St) :=
 match ids with
 |[]=>none
 |i::l=>xv P (s.freezeAll (i::l)) op
def zv(P:Program)[Tb P](s:St)(op:Op):Option (V×St) :=
 match op with
 | .slice t x lo hi none=>match s.ev x with
  | .sl (.own id _) k xs=>if(lo.map s.ev).all isC&&(hi.map s.ev).all isC then zf P s t id k xs (lo.map s.ev) (hi.map s.ev)else none
  | .ref b off=>Lh P s t b off (lo.map s.ev) (hi.map s.ev)
  |_=>none
 | .convert src d x=>rP P s src d (s.ev x)
 | .buildSlice t len parts=>match BO P t with
  |true=>EU P s t len (parts.toList.map fun p=>(p.1,s.ev p.2))
  |false=>frX P s (V.idsL (parts.toList.map fun p=>s.ev p.2)) (.buildSlice t len parts)
 | .store t x y=>match s.ev x with
  | .el (.own id e) k xs i off=>(match Tb.nest P e with
   |true=>(FU P s t id e k xs i off (s.ev y)).map fun s'=>(.top,s')
   |false=>frX P s (s.ev y).ids (.store t x y))
  |_=>none
 | .call {callee:=.builtin .append,args,argTypes}=>match args.toList,argTypes.toList with|[x,y],[t,t2]=>(match JS (s.ev x) (s.ev y)with|true=>zK P s t t2 (s.ev x) (s.ev y)|false=>none)|_,_=>none
 | .call {callee:=.builtin .unsafeString,args,argTypes}=>match args.toList,argTypes.toList with|[x,n],[a,_]=>usV P s a (s.ev x) (s.ev n)|_,_=>none
 |_=>none
def rv(P:Program)(s:St)(op:Op):Option V :=
 match op with
 | .load t x=>match s.ev x with | .ref b off=>nV P s t b off|_=>none
 | .convert src d x=>pY P s src d (s.ev x)
 | .lookup t x i ok=>match s.ev x with | .mh false b=>lkB P s t b (s.ev i) ok|_=>none
 | .call {callee:=.builtin .len,args,argTypes}=>match args.toList,argTypes.toList with|[x],[t]=>(match s.ev x with | .mh false b=>lnB P s t b|_=>none)|_,_=>none
 |_=>none
def dN(x:Option (V×St))(d:Option Nat)(k:Kd)(K:Kd->St->Prop):Prop :=
 match x with
 |some (r,s')=>K k (s'.put d r)
 |none=>False
def iP(x:Option V)(s:St)(d:Option Nat)(l:List V)(K:Kd->St->Prop):Prop :=
 match x with
 |some r=>K (kq l r) (s.put d r)
 |none=>False
def rO(f:List V->V->Kd)(x:Option V)(s:St)(d:Option Nat)(l:List V)(K:Kd->St->Prop):Prop :=
 match x with
 |some r=>K (f l r) (s.put d r)
 |none=>False
def kqo(op:Op):List V->V->Kd :=
 match op with
 | .move _=>ka
 | .assign _=>ka
 | .indexAddr _ _ _=>ka
 | .fieldAddr _ _ _=>ka
 |_=>kq
def qO:V->Kd
 | .c (.slice none 0 0)=>.n
 | .sl (.own id _) _ _=>.g id
 | .sl .nn _ []=>.n
 |_=>.x
def kx(s:St)(op:Op):Kd :=
 match op with
 | .store _ x _=>(match s.ev x with | .el (.own id _) k _ _ _=>.w id k|_=>.x)
 | .buildSlice _ _ _=>.n
 | .makeSlice _ _ _=>.n
 | .call {callee:=.value _,..}=>.n
 | .call {callee:=.builtin .append,args:=⟨[x,_]⟩,..}=>qO (s.ev x)
 |_=>.x
theorem jr(x:Option V)(s:St)(d:Option Nat)(l:List V)(K:Kd->St->Prop):rO kq x s d l K=iP x s d l K:=rfl
def mi(x:Option V)(s:St)(d:Option Nat)(K:Kd->St->Prop):Prop :=
 match x with
 |some r=>K (kr r) (s.put d r)
 |none=>False
def aB(P:Program)[Tb P](s:St)(o:Oper)(K:Kd->St->Prop):Prop :=
 match o.op with
 | .call {callee:=.value f,args,..}=>eX P (s.ev f) args.toList o.dst s K
 |op=>rO (kqo op) (qv P s op) s o.dst (op.operands.toList.map s.ev) K\/mi (rv P s op) s o.dst K\/dN (xv P s op) o.dst (kx s op) K\/dN (zv P s op) o.dst .z K
section
variable {P:Program} [Tb P] {C:Cx} {s:St} {L L':Lay} {a:Act} {w w':World}
def Does(P:Program)(o:Oper)(a:Act)(w:World)(u:Value)(w':World):Prop :=
 (execOp a.eval o).run P w = .ok (.value u) w'\/((execOp a.eval o).run P w = .ok .skip w'/\u=undef)
theorem Does.wp{o:Oper}{u:Value}{next:Act->World->Prop}{Q:Exit->Act->World->Prop}(h:Does P o a w u w')(b:next (a.put o.dst u) w'):o.wp P a w next Q:=by unfold Oper.wp;rcases h with h|⟨h,rfl⟩<;>rw[h]<;>exact b
theorem evs(S:Sim C s L a w)(l:List Operand):Reps L w (l.map s.ev) (l.map a.eval):=by
 induction l with
 |nil=>rfl
 |cons x xs i=>exact⟨_,_,rfl,S.ev x,i⟩
theorem Kz(S:Sim C s L a w)(o:Option Operand):o.map s.ev=none/\o.map a.eval=none\/∃v u,o.map s.ev=some v/\o.map a.eval=some u/\Rep L w v u:=by
 cases o with
 |none=>exact .inl ⟨rfl,rfl⟩
 |some x=>exact .inr ⟨_,_,rfl,rfl,S.ev x⟩
theorem Yr{o:Oper}{r:V}(h:qv P s o.op=some r)(S:Sim C s L a w):∃u,Does P o a w u w/\Rep L w r u:=by
 obtain⟨H,op,d,pos,n,p⟩:=o;simp only at h;unfold qv at h;split at h
 .simp only[aO]at h;subst h;exact⟨_,.inl rfl,S.ev _⟩
 .simp only[aO]at h;subst h;exact⟨_,.inl rfl,S.ev _⟩
 .rename_i c x y;split at h
  .rename_i b hb;simp only[aO]at h;subst h;have A:=S.ev c;rw[hb]at A;simp only[Rep]at A;refine⟨if b then a.eval x else a.eval y,.inl ?_,ape (S.ev x) (S.ev y)⟩;simp only[execOp,A,asBool,Sem.run_bind,Sem.run_pure,Result.andThen_ok]
  .cases h
 .rename_i op t x y T;obtain⟨u,h1,h2⟩:=aco (ox:=x) h (S.ev x) (S.ev y) (fun v hv=>by subst hv;rfl);exact⟨u,.inl (by simp only[execOp];rw[Sem.run_bind];rw[h1];rfl),h2⟩
 .rename_i op t x;obtain⟨u,h1,h2⟩:=auP (P:=P) h (S.ev x);exact⟨u,.inl (by simp only[execOp,Sem.run_bind,h1,Result.andThen_ok,Sem.run_pure]),h2⟩
 .rename_i src G x;obtain⟨u,h1,h2⟩:=adX h (S.ev x);exact⟨u,.inl (by simp only[execOp,Sem.run_bind,h1,Result.andThen_ok,Sem.run_pure]),h2⟩
 .rename_i x i;unfold exV at h;split at h
  .rename_i vs F;have hx:=S.ev x;rw[F]at hx;obtain⟨ar,q,m⟩:=hx;obtain⟨u,h1,h2⟩:=m.get h;refine⟨u,.inl ?_,h2⟩;simp only[Array.getElem?_toList]at h1;simp only[execOp,q,Instr.extract,h1,Sem.run_bind,Sem.run_pure,Result.andThen_ok]
  .cases h
 .rename_i t x f;obtain⟨u,h1,h2⟩:=afT h (S.ev x);exact⟨u,.inl (by simp only[execOp,Sem.run_bind,h1,Result.andThen_ok,Sem.run_pure]),h2⟩
 .rename_i t x i;obtain⟨u,h1,h2⟩:=akI h (S.ev x) (S.ev i);exact⟨u,.inl (by simp only[execOp,Sem.run_bind,h1,Result.andThen_ok,Sem.run_pure]),h2⟩
 .rename_i t x i;obtain⟨u,h1,h2⟩:=ai2 h (S.ev x) (S.ev i);exact⟨u,.inl (by simp only[execOp,Sem.run_bind,h1,Result.andThen_ok,Sem.run_pure]),h2⟩
 .rename_i t x f;obtain⟨u,h1,h2⟩:=afR h (S.ev x);exact⟨u,.inl (by simp only[execOp,Sem.run_bind,h1,Result.andThen_ok,Sem.run_pure]),h2⟩
 .rename_i x;have hx:=S.ev x;split at h
  .rename_i b o hb;simp only[aO]at h;subst h;rw[hb]at hx;obtain⟨g,h1,h2⟩:=hx;exact⟨_,.inl (by simp only[execOp,h2];rfl),g,h1,rfl⟩
  .rename_i t k xs i o hb;simp only[aO]at h;subst h;rw[hb]at hx;have l:=hx;obtain⟨g,Q,cells,h2,_⟩:=hx;exact⟨_,.inl (by simp only[execOp,h2];rfl),h2▸l⟩
  .rename_i f fs cs hb;simp only[aO]at h;subst h;rw[hb]at hx;have l:=hx;obtain⟨M,N,h2,_⟩:=hx;exact⟨_,.inl (by simp only[execOp,h2];rfl),h2▸l⟩
  .cases h
 .rename_i f fs cs;simp only[aO]at h;subst h;exact⟨_,.inl rfl,_,_,rfl,by simpa using evs S fs.toList,by simpa using evs S cs.toList⟩
 .rename_i t parts;obtain⟨u,h1,h2⟩:=ado (parts:=parts) s.ev a.eval S.ev h;exact⟨u,.inl (by simp only[execOp,Sem.run_bind,h1,Result.andThen_ok,Sem.run_pure]),h2⟩
 .rename_i t x lo hi;obtain⟨u,h1,h2⟩:=Y1 h (S.ev x) (Kz S lo) (Kz S hi);exact⟨u,.inl (by simp only[execOp,Sem.run_bind,IX,h1,Result.andThen_ok,Sem.run_pure]),h2⟩
 .rename_i t x;split at h
  .rename_i R k xs i off hx;simp only[bg]at h;obtain⟨y,K,cs,E,h⟩:=h;have m:=S.ev x;rw[hx]at m;obtain⟨u,h1,h2⟩:=ak5 m K E h;exact⟨u,.inl (by simp only[execOp,Sem.run_bind,h1,Result.andThen_ok,Sem.run_pure]),h2⟩
  .cases h
 .rename_i args argTypes;split at h
  .rename_i x t hx J;obtain⟨u,h1,h2⟩:=alg (ty:=d) h (S.ev x);have j:args=#[x]:=by apply iE;simpa using hx
   have I:argTypes=#[t]:=by apply iE;simpa using J
   subst j;subst I;refine⟨u,.inl ?_,h2⟩;simp only[execOp,resolve,Sem.run_bind,Sem.run_pure,Result.andThen_ok,invoke,builtin,uw,dm,dS];rw[h1];rfl
  .cases h
 .rename_i args argTypes;split at h
  .rename_i x hx;obtain⟨u,h1,h2⟩:=aq1 (P:=P) h (S.ev x) argTypes d;have j:args=#[x]:=by apply iE;simpa using hx
   subst j;refine⟨u,.inl ?_,h2⟩;simp only[execOp,resolve,Sem.run_bind,Sem.run_pure,Result.andThen_ok,invoke,builtin,uw,dm,dS];rw[h1];rfl
  .cases h
 .rename_i args argTypes;split at h
  .rename_i x y hx;obtain⟨u,h1,h2⟩:=WU (P:=P) (at_:=argTypes) (ty:=d) h (S.ev x) (S.ev y);have j:args=#[x,y]:=by apply iE;simpa using hx
   subst j;refine⟨u,.inl ?_,h2⟩;simp only[execOp,resolve,Sem.run_bind,Sem.run_pure,Result.andThen_ok,invoke,builtin,uw,dm,dS];simp only[if_true]at h1;rw[h1];rfl
  .cases h
 .rename_i args argTypes;split at h
  .rename_i x y hx;obtain⟨u,h1,h2⟩:=WU (P:=P) (at_:=argTypes) (ty:=d) h (S.ev x) (S.ev y);have j:args=#[x,y]:=by apply iE;simpa using hx
   subst j;refine⟨u,.inl ?_,h2⟩;simp only[execOp,resolve,Sem.run_bind,Sem.run_pure,Result.andThen_ok,invoke,builtin,uw,dm,dS];simp only[oq,if_false]at h1;rw[h1];rfl
  .cases h
 .rename_i args argTypes;split at h
  .rename_i x y hx;obtain⟨u,h1,h2⟩:=aeq (P:=P) (at_:=argTypes) (ty:=d) h (S.ev x) (S.ev y);have j:args=#[x,y]:=by apply iE;simpa using hx
   subst j;refine⟨u,.inl ?_,h2⟩;simp only[execOp,resolve,Sem.run_bind,Sem.run_pure,Result.andThen_ok,invoke,builtin,uw,dm,dS];rw[h1];rfl
  .cases h
 .rename_i args argTypes;split at h
  .rename_i x hx;obtain⟨u,h1,h2⟩:=apM (P:=P) (at_:=argTypes) (ty:=d) h (S.ev x);have j:args=#[x]:=by apply iE;simpa using hx
   subst j;refine⟨u,.inl ?_,h2⟩;simp only[execOp,resolve,Sem.run_bind,Sem.run_pure,Result.andThen_ok,invoke,builtin,uw,dm,dS];rw[h1];rfl
  .cases h
 .rename_i args argTypes;split at h
  .rename_i x hx;obtain⟨u,h1,h2⟩:=ajv (P:=P) (at_:=argTypes) (ty:=d) h (S.ev x);have j:args=#[x]:=by apply iE;simpa using hx
   subst j;refine⟨u,.inl ?_,h2⟩;simp only[execOp,resolve,Sem.run_bind,Sem.run_pure,Result.andThen_ok,invoke,builtin,uw,dm,dS];rw[h1];rfl
  .cases h
 .rename_i t x;obtain⟨u,h1,h2⟩:=amh h (S.ev x);exact⟨u,.inl (by simp only[execOp,Sem.run_bind,h1,Result.andThen_ok,Sem.run_pure]),h2⟩
 .cases h
theorem aqn{mf:TypeId->Bool}{d e c a off n:Nat}(b:c<=a)(h:rowAt P mf d e c off n=true):rowAt P mf d e a off n=true:=by
 cases d with
 |zero=>exact h
 |succ d =>
  simp only[rowAt]at h⊢;split at h
  .cases h
  .grind
theorem alk{d:Nat}:∀{e c a off u n:Nat},c<=a->liesAt P d e c off u n=true->liesAt P d e a off u n=true:=by
 induction d with
 |zero=>intro e c a off u n _ h;exact h
 |succ d i =>intro e c a off u n b h;simp[liesAt]at h⊢;grind[aqn]
theorem auR{src d:TypeId}{x r:V}{l:Value}(h:pY P s src d x=some r)(S:Sim C s L a w)(hx:Rep L w x l):∃u,(convert src d l).run P w = .ok u w/\Rep L w r u:=by
 unfold pY at h;split at h
 .rename_i b off;simp only[bg,dh,aO]at h;obtain⟨⟨e,cs⟩,hb,c,rfl⟩:=h;have i:=hx;obtain⟨g,⟨hg,m⟩,rfl⟩:=hx;obtain⟨arr,ha,n⟩:=(S.box b _ hb).cells hg m;have hl:cs.length<=arr.size:=by have c:=n.length;simp at c;omega
  have f:w.shape? g=some (e,arr.size):=by simp[World.shape?,ha]
  unfold PX at c;split at c
  .rename_i t k hd;split at c
   .rename_i j hj;simp at c;exact⟨_,Lib.run_to_unsafe w _ k hd hj c.1 f (sF c.2 hl),i⟩
   .cases c
  .rename_i u k hd;simp at c;obtain⟨j,hj⟩:=pF.1 c.1;refine⟨_,Lib.run_from_unsafe w _ k hd hj f ?_,i⟩;exact alk (Nat.div_le_div_right hl) c.2
  .cases c
 .cases h
theorem aqS{o:Oper}{r:V}(h:rv P s o.op=some r)(S:Sim C s L a w):∃u,Does P o a w u w/\Rep L w r u:=by
 obtain⟨l,op,c,pos,d,g⟩:=o;simp only at h;unfold rv at h;split at h
 .rename_i t x;split at h
  .rename_i b off hx;have k:=S.ev x;rw[hx]at k;obtain⟨u,h1,h2⟩:=OV h S k;exact⟨u,.inl (by simp[execOp,Sem.run_bind,h1,Result.andThen_ok,Sem.run_pure]),h2⟩
  .cases h
 .rename_i src j x;obtain⟨u,h1,h2⟩:=auR h S (S.ev x);exact⟨u,.inl (by simp[execOp,Sem.run_bind,h1,Result.andThen_ok,Sem.run_pure]),h2⟩
 .rename_i t x i ok;split at h
  .rename_i b hb;have hx:=S.ev x;rw[hb]at hx;obtain⟨u,h1,h2⟩:=Wu h S hx (S.ev i);exact⟨u,.inl (by simp[execOp,Sem.run_bind,h1,Result.andThen_ok,Sem.run_pure]),h2⟩
  .cases h
 .rename_i args argTypes;split at h
  .rename_i x t hxs f;split at h
   .rename_i b hb;have hx:=S.ev x;rw[hb]at hx;obtain⟨u,h1,h2⟩:=alu (ty:=c) h S hx;have m:args=#[x]:=by apply iE;simpa using hxs
    have n:argTypes=#[t]:=by apply iE;simpa using f
    subst m;subst n;refine⟨u,.inl ?_,h2⟩;simp[execOp,resolve,Sem.run_bind,Sem.run_pure,Result.andThen_ok,invoke,builtin,uw,dm,dS];rw[h1];rfl
   .cases h
  .cases h
 .cases h
theorem aai{o:Oper}{r:V}{s':St}(h:xv P s o.op=some (r,s'))(S:Sim C s L a w):∃u w' L',Does P o a w u w'/\Sim C s' L' a w'/\Rep L' w' r u:=by
 obtain⟨v,op,d,pos,f,n⟩:=o;simp only at h;unfold xv at h;split at h
 .obtain⟨u,w',L',h1,h2,h3⟩:=aaK h S;exact⟨u,w',L',.inl (by simp only[execOp,Sem.run_bind,h1,Result.andThen_ok,Sem.run_pure]),h2,h3⟩
 .rename_i e x;obtain⟨u,w',L',h1,h2,h3⟩:=ada (P:=P) (elem:=e) h S (S.ev x);exact⟨u,w',L',.inl (by simp only[execOp,Sem.run_bind,h1,Result.andThen_ok,Sem.run_pure]),h2,h3⟩
 .rename_i t len parts;obtain⟨u,w',L',h1,h2,h3⟩:=adn (parts:=parts) S h;exact⟨u,w',L',.inl (by simp only[execOp,Sem.run_bind,h1,Result.andThen_ok,Sem.run_pure]),h2,h3⟩
 .rename_i t x y;have hx:=S.ev x;split at h
  .rename_i b off hb;simp only[bF,dR]at h;obtain⟨s1,h,rfl,rfl⟩:=h;rw[hb]at hx;obtain⟨w',h1,h2⟩:=QI h S hx (S.ev y);exact⟨undef,w',L,.inr ⟨by simp only[execOp,Sem.run_bind,h1,Result.andThen_ok,Sem.run_pure],rfl⟩,h2,trivial⟩
  .rename_i id e k xs i off hb;simp only[bF,dR]at h;obtain⟨s1,h,rfl,rfl⟩:=h;rw[hb]at hx;obtain⟨w',h1,h2⟩:=atY h S hx (S.ev y);exact⟨undef,w',L,.inr ⟨by simp only[execOp,Sem.run_bind,h1,Result.andThen_ok,Sem.run_pure],rfl⟩,h2,trivial⟩
  .cases h
 .rename_i t l c;obtain⟨u,w',L',h1,h2,h3⟩:=alM h S (S.ev l) (S.ev c);exact⟨u,w',L',.inl (by simp only[execOp,Sem.run_bind,h1,Result.andThen_ok,Sem.run_pure]),h2,h3⟩
 .rename_i t;obtain⟨u,w',L',h1,h2,h3⟩:=amn h S;exact⟨u,w',L',.inl (by simp only[execOp,IX,Sem.run_bind,h1,Result.andThen_ok,Sem.run_pure]),h2,h3⟩
 .rename_i t m k x;split at h
  .rename_i b hb;simp only[bF,dR]at h;obtain⟨s1,h,rfl,rfl⟩:=h;have hm:=S.ev m;rw[hb]at hm;obtain⟨w',h1,h2⟩:=Xb h S hm (S.ev k) (S.ev x);exact⟨undef,w',L,.inr ⟨by simp only[execOp,Sem.run_bind,h1,Result.andThen_ok,Sem.run_pure],rfl⟩,h2,trivial⟩
  .cases h
 .rename_i args argTypes;split at h
  .rename_i x k t tk hxs p;split at h
   .rename_i b hb;simp only[bF,dR]at h;obtain⟨s1,h,rfl,rfl⟩:=h;have hx:=S.ev x;rw[hb]at hx;obtain⟨w',h1,h2⟩:=aeQ (ty:=d) (tk:=tk) h S hx (S.ev k);have g:args=#[x,k]:=by apply iE;simpa using hxs
    have j:argTypes=#[t,tk]:=by apply iE;simpa using p
    subst g;subst j;refine⟨.tuple #[],w',L,.inl ?_,h2,⟨_,rfl,rfl⟩⟩;simp only[execOp,resolve,Sem.run_bind,Sem.run_pure,Result.andThen_ok,invoke,builtin,uw,dm,dS];rw[h1];rfl
   .cases h
  .cases h
 .rename_i src q x;simp only[bF,dR]at h;obtain⟨r',h,rfl,rfl⟩:=h;obtain⟨u,w',L',h1,h2,h3⟩:=auc h S (S.ev x);exact⟨u,w',L',.inl (by simp only[execOp,Sem.run_bind,h1,Result.andThen_ok,Sem.run_pure]),h2,h3⟩
 .rename_i args argTypes;split at h
  .rename_i x y t t2 hx A;obtain⟨u,w',L',h1,h2,h3⟩:=abL (ty:=d) h S (S.ev x) (S.ev y);have g:args=#[x,y]:=by apply iE;simpa using hx
   have j:argTypes=#[t,t2]:=by apply iE;simpa using A
   subst g;subst j;refine⟨u,w',L',.inl ?_,h2,h3⟩;simp only[execOp,resolve,Sem.run_bind,Sem.run_pure,Result.andThen_ok,invoke,builtin,uw,dm,dS];rw[h1];rfl
  .cases h
 .cases h
theorem UD{o:Oper}{ids:List Nat}{r:V}{s':St}(h:frX P s ids o.op=some (r,s'))(S:Sim C s L a w):∃u w' L',Does P o a w u w'/\Sim C s' L' a w'/\Rep L' w' r u:=by
 unfold frX at h;split at h
 .cases h
 .rename_i i l;obtain⟨c,b,_⟩:=Sim.freezeAll (i::l) S;exact aai h b
theorem axg{o:Oper}{r:V}{s':St}(h:zv P s o.op=some (r,s'))(S:Sim C s L a w):∃u w' L',Does P o a w u w'/\Sim C s' L' a w'/\Rep L' w' r u:=by
 obtain⟨j,op,d,pos,f,g⟩:=o;simp only at h;unfold zv at h;split at h
 .rename_i t x lo hi;split at h
  .rename_i id e k xs hb;simp only[dh,lL]at h;obtain⟨⟨h1,h2⟩,h⟩:=h;have hx:=S.ev x;rw[hb]at hx
   have c:∀(o:Option Operand),(o.map s.ev).all isC=true->∀x,o=some x->∃u,s.ev x = .c u:=by
    rintro o ho x rfl;simp only[mQ,Option.all_some]at ho;generalize s.ev x=v at ho;cases v<;>simp only[isC,oq]at ho
    exact⟨_,rfl⟩
   obtain⟨u,L',h3,h4,h5⟩:=ar2 h S hx (c lo h1) (c hi h2);exact⟨u,w,L',.inl (by simp only[execOp,Sem.run_bind,IX,h3,Result.andThen_ok,Sem.run_pure]),h4,h5⟩
  .rename_i b off hb;have hx:=S.ev x;rw[hb]at hx;obtain⟨u,L',h3,h4,h5⟩:=arW h S hx (Kz S lo) (Kz S hi);exact⟨u,w,L',.inl (by simp only[execOp,Sem.run_bind,IX,h3,Result.andThen_ok,Sem.run_pure]),h4,h5⟩
  .cases h
 .rename_i src q x;obtain⟨u,w',L',h1,h2,h3⟩:=aqZ h S (S.ev x);exact⟨u,w',L',.inl (by simp only[execOp,Sem.run_bind,h1,Result.andThen_ok,Sem.run_pure]),h2,h3⟩
 .split at h
  .obtain⟨u,w',L',h1,h2,h3⟩:=aln S h;exact⟨u,w',L',.inl (by simp only[execOp,Sem.run_bind,h1,Result.andThen_ok,Sem.run_pure]),h2,h3⟩
  .exact UD (o:=⟨j,_,d,pos,f,g⟩) h S
 .rename_i t x y;split at h
  .rename_i id e k xs i off hx;split at h
   .simp only[bF,dR]at h;obtain⟨s1,h,rfl,rfl⟩:=h;have A:=S.ev x;rw[hx]at A;obtain⟨w',L',h1,h2⟩:=at7 h S A (S.ev y);exact⟨undef,w',L',.inr ⟨by simp only[execOp,Sem.run_bind,h1,Result.andThen_ok,Sem.run_pure],rfl⟩,h2,trivial⟩
   .exact UD (o:=⟨j,_,d,pos,f,g⟩) h S
  .cases h
 .rename_i args argTypes;split at h
  .rename_i x y t t2 hx p;split at h
   .obtain⟨u,w',L',h1,h2,h3⟩:=abJ (ty:=d) h S (S.ev x) (S.ev y);have l:args=#[x,y]:=by apply iE;simpa using hx
    have m:argTypes=#[t,t2]:=by apply iE;simpa using p
    subst l;subst m;refine⟨u,w',L',.inl ?_,h2,h3⟩;simp only[execOp,resolve,Sem.run_bind,Sem.run_pure,Result.andThen_ok,invoke,builtin,uw,dm,dS];rw[h1];rfl
   .cases h
  .cases h
 .rename_i args argTypes;split at h
  .rename_i x n E it hx p;obtain⟨u,w',L',h1,h2,h3⟩:=auW (it:=it) (ty:=d) h S (S.ev x) (S.ev n);have l:args=#[x,n]:=by apply iE;simpa using hx
   have m:argTypes=#[E,it]:=by apply iE;simpa using p
   subst l;subst m;refine⟨u,w',L',.inl ?_,h2,h3⟩;simp only[execOp,resolve,Sem.run_bind,Sem.run_pure,Result.andThen_ok,invoke,builtin,uw,dm,dS];rw[h1];rfl
  .cases h
 .cases h
theorem Pn{l a:List V}:ownFree (l++a)=(ownFree l&&ownFree a):=by simp[ownFree,aaZ]
theorem Xw{l:List V}(h:ownFree l=true):∀v∈l,ownFree [v]=true:=by induction l<;>grind[ownFree,V.anyL]
theorem Reps.of{l:List V}{us:List Value}(h:Reps L w l us)(hf:∀v∈l,∀u,Rep L w v u->Rep L' w' v u):Reps L' w' l us:=by
 induction l generalizing us with
 |nil=>exact h
 |cons x xs i=>obtain⟨u,r,rfl,h2,h3⟩:=h;exact⟨u,r,rfl,hf x Aa u h2,i h3 (fun v hv=>hf v (by simp[hv]))⟩
theorem Ez{f:FuncId}(h:oI P f=true)(args:Array Value):(callFunc f args).run P w = .ok (.enter f args) w:=by
 unfold oI at h;split at h
 .rename_i fn hf;simp at h;have a:¬fn.name = "runtime.NumGoroutine" := by simpa using h.1
  have hb:¬fn.body=none:=fun e=>by rw[e]at h;simp at h
  simp[callFunc,hf,a,hb]
 .cases h
theorem IC{o:Oper}{K:Kd->St->Prop}{next:Act->World->Prop}{Q:Exit->Act->World->Prop}(h:aB P s o K)(Y:C.TOk P)(S:Sim C s L a w)(hd:∀t,o.dst=some t->t<C.n)
  (y:∀κ s' L' X w',K κ s'->Sim C s' L' X w'->next X w'):o.wp P a w next Q:=by
 unfold aB at h
 split at h
 .rename_i f args argTypes x;unfold eX at h;split at h
  .rename_i g fs cs hf;rcases h with h|h
   case inr =>
    obtain⟨s1,r,N,κ0,hK⟩:∃s1 r,GoodZ P g (fs++args.toList.map s.ev++cs) s s1 r/\∃κ,K κ (s1.put o.dst r):=by
     rcases h with⟨s1,r,N,hK⟩|⟨r,N,hK⟩
     .exact⟨s1,r,N,_,hK⟩
     .exact⟨s,r,N s.env s.nid s.hd,_,hK⟩
    have k:=S.ev f
    rw[hf]at k
    obtain⟨n,m,p,F,E⟩:=k
    have d:Reps L w (fs++args.toList.map s.ev++cs) (n.toList++args.toList.map a.eval++m.toList):=(F.append (evs S args.toList)).append E
    have R:(n.toList++args.toList.map a.eval++m.toList).toArray=n++args.map a.eval++m:=by grind
    rcases N C L a w _ Y S d with⟨T,b⟩|⟨u,w',L',q,G,i⟩
    .rw[R]at b
     have c:(execOp a.eval o).run P w = .ok (.enter g (n++args.map a.eval++m)) w:=by
      simp only[execOp,x,resolve,p,Deferred.ofValue,Sem.run_bind,Sem.run_pure,Result.andThen_ok,invoke]
      exact Ez T _
     unfold Oper.wp
     rw[c]
     simp only[Oper.upon]
     refine b.mono ?_
     rintro e w' ⟨u,L2,rfl,G,i⟩
     exact y _ _ _ _ _ hK (G.put i hd)
    .rw[R]at q
     have c:(execOp a.eval o).run P w = .ok (.value u) w':=by
      simp only[execOp,x,resolve,p,Deferred.ofValue,Sem.run_bind,Sem.run_pure,Result.andThen_ok,invoke]
      exact q
     unfold Oper.wp
     rw[c]
     simp only[Oper.upon]
     exact y _ _ _ _ _ hK (G.put i hd)
   obtain⟨ids,r,hg,l,J,U,hof,hK⟩:=h;have k:=S.ev f;rw[hf]at k;obtain⟨n,m,p,F,E⟩:=k;obtain⟨Z,W,j⟩:=S.freezeAll ids;rw[Pn,lL]at l;have M:=F.of (fun v hv u h=>j v u (Xw l.1 v hv) h);have I:=E.of (fun v hv u h=>j v u (Xw l.2 v hv) h);have d:Reps Z w (fs++args.toList.map (s.freezeAll ids).ev++cs) (n.toList++args.toList.map a.eval++m.toList):=(M.append (evs W args.toList)).append I;have H:(ownFree (fs++args.toList.map (s.freezeAll ids).ev++cs)||r.flat)=true:=by grind[Pn]
   have b:=adu Y W d hg J U H;have c:(execOp a.eval o).run P w = .ok (.enter g (n++args.map a.eval++m)) w:=by simp only[execOp,x,resolve,p,Deferred.ofValue,Sem.run_bind,Sem.run_pure,Result.andThen_ok,invoke];exact Ez hg.1 _
   unfold Oper.wp;rw[c];simp only[Oper.upon];have R:(n.toList++args.toList.map a.eval++m.toList).toArray=n++args.map a.eval++m:=by grind
   rw[R]at b;refine b.mono ?_;rintro e w' ⟨u,L2,rfl,G,i⟩;rw[agx]at G i;exact y _ _ _ _ _ hK (G.put i hd)
  .cases h
 .rcases h with h|h|h|h
  .unfold rO at h;split at h
   .rename_i r A;obtain⟨u,h1,h2⟩:=Yr A S;exact h1.wp (y _ _ _ _ _ h (S.put h2 hd))
   .cases h
  .unfold mi at h;split at h
   .rename_i r A;obtain⟨u,h1,h2⟩:=aqS A S;exact h1.wp (y _ _ _ _ _ h (S.put h2 hd))
   .cases h
  .unfold dN at h;split at h
   .rename_i r s' A;obtain⟨u,w',L',h1,h2,h3⟩:=aai A S;exact h1.wp (y _ _ _ _ _ h (h2.put h3 hd))
   .cases h
  .unfold dN at h;split at h
   .rename_i r s' A;obtain⟨u,w',L',h1,h2,h3⟩:=axg A S;exact h1.wp (y _ _ _ _ _ h (h2.put h3 hd))
   .cases h
def jT(s:St)(a:List (Option Nat))(j:Nat):Option V :=
 match a[j]? with
 |some (some d)=>some (s.env d)
 |_=>none
def wpL(P:Program)[Tb P](d:List (Option Nat))(K:St->Prop):List Oper->St->Prop
 |[],s=>K s
 |o::r,s =>
  match o.guard with
  |none=>aB P s o (fun _=>wpL P d K r)
  |some (j,a)=>match jT s d j with
   |some (.c (.bool b))=>if b=a then aB P s o (fun _=>wpL P d K r)else wpL P d K r (s.put o.dst (.c undef))
   |some (.c _)=>wpL P d K r (s.put o.dst (.c undef))
   |_=>False
def Weak(s s':St):Prop:=∀(C:Cx) (L:Lay) (a:Act) (w:World),Sim C s L a w->∃L',Sim C s' L' a w
def Q4(k:St->Prop)(s:St):Prop:=∃s',Weak s s'/\k s'
def SS(P:Program)[Tb P](f:Operand)(args:List Operand)(d:Option Nat)(s:St)(K:St->Prop):Prop :=
 ∃s1,Weak s s1/\match s1.ev f with
 | .fn g fs cs=>∃φ,GoodE P g (fs++args.map s1.ev++cs) s1 φ/\∀s' r,φ s' r->K (s'.put d r)
 |_=>False
def eQ(P:Program)[Tb P](s:St)(o:Oper)(K:St->Prop):Prop :=
 match o.op with
 | .call {callee:=.value f,args,..}=>eX P (s.ev f) args.toList o.dst s (fun _=>K)\/SS P f args.toList o.dst s K
 |_=>aB P s o (fun _=>K)
def BA(P:Program)[Tb P](d:List (Option Nat))(K:St->Prop):List Oper->St->Prop
 |[],s=>K s\/Q4 K s
 |o::r,s =>
  match o.guard with
  |none=>eQ P s o (BA P d K r)
  |some (j,a)=>match jT s d j with
   |some (.c (.bool b))=>if b=a then eQ P s o (BA P d K r)else BA P d K r (s.put o.dst (.c undef))
   |some (.c _)=>BA P d K r (s.put o.dst (.c undef))
   |_=>False
theorem QG{o:Oper}{K:St->Prop}{next:Act->World->Prop}{Q:Exit->Act->World->Prop}(h:eQ P s o K)(E:C.TOk P)(S:Sim C s L a w)(hd:∀t,o.dst=some t->t<C.n)
  (F:∀s' L' j w',K s'->Sim C s' L' j w'->next j w'):o.wp P a w next Q:=by
 have Ik:aB P s o (fun _=>K)->o.wp P a w next Q:=fun h=>IC h E S hd (fun _ s' L' j w' J G=>F s' L' j w' J G)
 unfold eQ at h
 split at h
 .rename_i f args ts p;rcases h with h|⟨s1,M,h⟩
  .simp_all[aB]
  .obtain⟨A,m⟩:=M C L a w S;split at h
   .rename_i g fs cs hf;obtain⟨φ,hg,hK⟩:=h;have i:=m.ev f;rw[hf]at i;obtain⟨l,k,q,y,x⟩:=i;have c:Reps A w (fs++args.toList.map s1.ev++cs) (l.toList++args.toList.map a.eval++k.toList):=(y.append (evs m args.toList)).append x;have I:(l.toList++args.toList.map a.eval++k.toList).toArray=l++args.map a.eval++k:=by grind
    obtain⟨n,b⟩:=hg C A a w _ E m c;rw[I]at b;have d:(execOp a.eval o).run P w = .ok (.enter g (l++args.map a.eval++k)) w:=by simp only[execOp,p,resolve,q];exact Ez n _
    unfold Oper.wp;rw[d];refine b.mono ?_;rintro e w' ⟨u,R,s',r,N,rfl,H,v⟩;exact F _ _ _ _ (hK _ _ N) (H.put v hd)
   .cases h
 .grind
theorem Ot{ops:Array Oper}{j:Nat}{b:Bool}(S:Sim C s L a w)(h:jT s (ops.toList.map (·.dst)) j=some (.c (.bool b))):yielded ops a.tmps j=some b:=by
 unfold jT at h;split at h
 .rename_i d hd;simp at h;simp only[axj,bF]at hd;obtain⟨o,ho,c⟩:=hd;simp at ho;have he:=S.env d;rw[h]at he;simp[Rep]at he
  have:a.tmps[d]?=some (.bool b):=by
   rcases au d a.tmps.size with hl|hl
   .simp_all
   .simp[Array.getElem?_eq_none hl,undef]at he
  simp[yielded,ho,c,this]
 .cases h
theorem Oq{ops:Array Oper}{j:Nat}{v:Value}(S:Sim C s L a w)(h:jT s (ops.toList.map (·.dst)) j=some (.c v))(hv:∀b,v ≠ .bool b):yielded ops a.tmps j=none:=by
 unfold jT at h;split at h
 .rename_i d hd;simp at h;have he:=S.env d;rw[h]at he;simp[Rep]at he;simp[yielded];grind
 .cases h
theorem ave(hT:C.TOk P){ops:Array Oper}{K:St->Prop}{Q:Exit->Act->World->Prop}(hK:∀s' L' a' w',K s'->Sim C s' L' a' w'->Q .normal a' w')(l:List Oper)(hl:∀o∈l,∀t,o.dst=some t->t<C.n) :
  ∀{s:St} {L:Lay} {a:Act} {w:World},wpL P (ops.toList.map (·.dst)) K l s->Sim C s L a w->wpList P ops Q l a w:=by
 induction l with
 |nil=>intro s L a w h S;exact hK s L a w h S
 |cons o rest ih =>
  intro s L a w h S;have hd:=hl o Aa;have ih':=@ih (fun o ho=>hl o (by simp[ho]));unfold wpList;unfold wpL at h;split at h
  .rename_i hg;rw[ah (by simp[Region.wanted,hg])];exact .inl (IC h hT S hd (fun _ s' L' a' w' h' S'=>ih' h' S'))
  .rename_i j want hg;split at h
   .rename_i b hb;have hy:=Ot S hb;split at h
    .rename_i hbw;rw[ah (by simp[Region.wanted,hg,hy,hbw])];exact .inl (IC h hT S hd (fun _ s' L' a' w' h' S'=>ih' h' S'))
    .rename_i hbw;rw[ag (by simp[Region.wanted,hg,hy,hbw])];exact ih' h (S.put (v:=.c undef) rfl hd)
   .rename_i v hnb hb;rw[ag (by simp[Region.wanted,hg,Oq S hb (fun b e=>hnb b (by rw[e]))])];exact ih' h (S.put (v:=.c undef) rfl hd)
   .cases h
theorem avd(hT:C.TOk P){ops:Array Oper}{K:St->Prop}{Q:Exit->Act->World->Prop}(hK:∀s' L' a' w',K s'->Sim C s' L' a' w'->Q .normal a' w')(l:List Oper)(hl:∀o∈l,∀t,o.dst=some t->t<C.n) :
  ∀{s:St} {L:Lay} {a:Act} {w:World},BA P (ops.toList.map (·.dst)) K l s->Sim C s L a w->wpList P ops Q l a w:=by
 induction l with
 |nil =>
  intro s L a w h S;rcases h with h|⟨s1,hw,h⟩
  .exact hK s L a w h S
  .obtain⟨L1,S1⟩:=hw C L a w S;exact hK s1 L1 a w h S1
 |cons o rest ih =>
  intro s L a w h S;have hd:=hl o Aa;have ih':=@ih (fun o ho=>hl o (by simp[ho]));unfold wpList;unfold BA at h;split at h
  .rename_i hg;rw[ah (by simp[Region.wanted,hg])];grind[QG]
  .rename_i j want hg;split at h
   .rename_i b hb;have hy:=Ot S hb;split at h
    .rename_i hbw;rw[ah (by simp[Region.wanted,hg,hy,hbw])];grind[QG]
    .rename_i hbw;rw[ag (by simp[Region.wanted,hg,hy,hbw])];exact ih' h (S.put (v:=.c undef) rfl hd)
   .rename_i v hnb hb;rw[ag (by simp[Region.wanted,hg,Oq S hb (fun b e=>hnb b (by rw[e]))])];exact ih' h (S.put (v:=.c undef) rfl hd)
   .cases h
end
end Go.Pg
end
section
namespace Go.Pg
open Go
def Ig(n:Nat)(ops:List Oper):Bool:=ops.all fun o=>match o.dst with|some d=>decide (d<n)|none=>true
def mf(n:Nat):Code->Bool
 | .region _ ops _=>Ig n ops.toList
 | .seq x y=>mf n x&&mf n y
 | .cond _ x y=>mf n x&&mf n y
 | .block _ x=>mf n x
 | .loop x=>mf n x
 | .rangeFunc ..=>false
 | .scope x=>mf n x
 | .refuse _=>true
 |_=>true
def nZ(k:St->Prop)(Q:Exit->St->Prop):Exit->St->Prop
 | .normal,s=>k s
 |e,s=>Q e s
def inB(id:Nat)(Q:Exit->St->Prop):Exit->St->Prop
 | .exit id',s=>if id'=id then Q .normal s else Q (.exit id') s
 |e,s=>Q e s
def Nh(v:V)(x y:Prop):Prop :=
 match v with
 | .c (.bool b)=>if b=true then x else y
 |_=>False
def RI(b:(Exit->St->Prop)->St->Prop)(Q:Exit->St->Prop)(s:St):Prop :=
 ∃(I:Nat->St->Prop) (n:Nat),(∃a,Weak s a/\I n a)/\∀n s1,I n s1->b (nZ (fun s2=>∃m c,m<n/\Weak s2 c/\I m c) Q) s1
structure Dw where
 d:(P:Program)->[Tb P]->Array Oper->(St->Prop)->St->Prop
 cuts:List Nat
 ex:List Nat:=[]
class Plain (D:Dw):Prop where
 ex:D.ex=[]
def gm:Code->Option Nat
 | .region id _ _=>some id
 | .seq x _=>gm x
 | .block _ x=>gm x
 | .loop x=>gm x
 |_=>none
def pI(cuts:List Nat)(r:Option Nat):Bool:=match r with|some n=>cuts.contains n|none=>false
def zH(C:Cx)(Q:Exit->St->Prop):Exit->Act->World->Prop:=fun e a w=>∃s L,Q e s/\Sim C s L a w
def wpS(D:Dw)(P:Program)[Tb P]:Code->(Exit->St->Prop)->St->Prop
 | .skip,Q,s=>Q .normal s
 | .region id ops d,Q,s=>if d=true then D.d P ops (Q .normal) s else bif D.ex.contains id then BA P (ops.toList.map (·.dst)) (Q .normal) ops.toList s else wpL P (ops.toList.map (·.dst)) (Q .normal) ops.toList s
 | .seq x y,Q,s=>wpS D P x (nZ (bif pI D.cuts (gm y)then Q4 (fun s'=>wpS D P y Q s')else fun s'=>wpS D P y Q s') Q) s
 | .cond c x y,Q,s=>Nh (s.ev c) (wpS D P x Q s) (wpS D P y Q s)
 | .block id x,Q,s=>wpS D P x (inB id Q) s
 | .loop x,Q,s=>RI (fun Q s=>wpS D P x Q s) Q s
 | .exit id,Q,s=>Q (.exit id) s
 | .label _,Q,s=>Q .normal s
 | .goto l,Q,s=>Q (.goto l) s
 | .ret,Q,s=>Q .ret s
 | .scope c,Q,s=>∀(C:Cx) (L:Lay) (a:Act) (w:World),C.TOk P->mf C.n c=true->Sim C s L a w->(Code.scope c).wp P (zH C Q) a w
 |_,_,_=>False
def nN(P:Program)[Tb P](D:Dw):Prop :=
 ∀(id:Nat) (C:Cx) (ops:Array Oper) (K:St->Prop) (Q:Exit->St->Prop) (s:St) (L:Lay) (a:Act) (w:World),C.TOk P->Ig C.n ops.toList=true->Q .normal=K->D.d P ops K s->Sim C s L a w->(Code.region id ops true).wp P (zH C Q) a w
theorem Dl{n:Nat}{ops:List Oper}(h:Ig n ops=true):∀o∈ops,∀t,o.dst=some t->t<n:=by intro o ho t a;have:=lM.1 h o ho;grind
section
variable {P:Program} [Tb P] {D:Dw} {C:Cx}
theorem Q8(hD:nN P D)(H:C.TOk P)(c:Code):∀{Q:Exit->St->Prop} {s:St} {L:Lay} {a:Act} {w:World},wpS D P c Q s->mf C.n c=true->Sim C s L a w->c.wp P (zH C Q) a w:=by
 induction c with
 |skip=>intro Q s L a w h _ S;exact wp_skip ⟨s,L,h,S⟩
 |region id ops E =>
  intro Q s L a w h hf S
  simp only[wpS]at h
  cases E with
  |true=>exact hD id C ops (Q .normal) Q s L a w H hf rfl h S
  |false =>
   cases hx:D.ex.contains id with
   |true =>rw[hx]at h;exact wp_region_list (avd H (K:=Q .normal) (fun s' L' i w' f g=>⟨s',L',f,g⟩) ops.toList (Dl hf) h S)
   |false =>
   rw[hx]at h
   exact wp_region_list (ave H (K:=Q .normal) (fun s' L' i w' f g=>⟨s',L',f,g⟩) ops.toList (Dl hf) h S)
 |seq x y G t =>
  intro Q s L a w h hf S
  simp[mf,lL]at hf
  refine wp_seq (Code.wp_mono ?_ (G h hf.1 S))
  rintro e i w' ⟨s',L',f,g⟩
  cases e with
  |normal =>
   cases F:pI D.cuts (gm y)with
   |true =>rw[F]at f;obtain⟨s2,R,h2⟩:=f;obtain⟨L2,S2⟩:=R C L' i w' g;exact t h2 hf.2 S2
   |false=>rw[F]at f;exact t f hf.2 g
  |_=>exact⟨s',L',f,g⟩
 |cond c x y G t =>
  intro Q s L a w h hf S;simp[mf]at hf;simp[wpS,Nh]at h;split at h
  .rename_i b hb;have F:=S.ev c;rw[hb]at F;refine wp_cond F ?_;grind
  .cases h
 |block id x U =>
  intro Q s L a w h hf S
  refine wp_block (Code.wp_mono ?_ (U h hf S))
  rintro e i w' ⟨s',L',f,g⟩
  cases e with
  |exit id' =>
   simp[inB]at f;simp[Exit.inBlock];split at f
   .rename_i hi;rw[ah hi];exact⟨s',L',f,g⟩
   .rename_i hi;rw[ag hi];exact⟨s',L',f,g⟩
  |_=>exact⟨s',L',f,g⟩
 |loop x U =>
  intro Q s L a w h hf S;obtain⟨I,n,⟨s0,T,h0⟩,j⟩:=h;obtain⟨X,Z⟩:=T C L a w S
  have key:∀n s L a w,I n s->Sim C s L a w->∀(b:Frame) (k:List Item) (cs:List Frame),
    ∃e i w',zH C Q e i w'/\Arrives P (lone (b.at a (.code x :: .inLoop x::k)) cs w) b k cs e i w':=by
   intro n
   induction n using Nat.strongRecOn with
   |_ n W =>
    intro s L a w hI S b k cs
    obtain⟨e,q,u,⟨s1,v,p,A⟩,d⟩:=U (j n s hI) hf S b (.inLoop x::k) cs
    cases e with
    |normal =>
     obtain⟨m,s3,M,R,J⟩:=p
     obtain⟨Y,S3⟩:=R C v q u A
     obtain⟨e₂,a₂,w₂,N,r⟩:=W m M s3 Y q u J S3 b k cs
     exact⟨e₂,a₂,w₂,N,.of_steps (Steps.trans d (.one step_inLoop)) r⟩
    |exit id=>exact⟨_,q,u,⟨s1,v,p,A⟩,.pass (x:=.inLoop x) rfl (fun _ _=>.inl Aa) d⟩
    |goto l=>exact⟨_,q,u,⟨s1,v,p,A⟩,.pass (x:=.inLoop x) rfl (fun _ _=>.inl Aa) d⟩
    |ret=>exact⟨_,q,u,⟨s1,v,p,A⟩,.pass (x:=.inLoop x) rfl (fun _ _=>.inl Aa) d⟩
    |panic ch=>exact⟨_,q,u,⟨s1,v,p,A⟩,.pass (x:=.inLoop x) rfl (fun _ _=>.inl Aa) d⟩
    |outgrown=>exact⟨_,q,u,⟨s1,v,p,A⟩,.pass (x:=.inLoop x) rfl (fun _ _=>.inl Aa) d⟩
  intro b k cs;obtain⟨e,i,w',p,d⟩:=key n s0 X a w h0 Z b k cs;exact⟨e,i,w',p,.of_steps (.one step_loop) d⟩
 |exit id=>intro Q s L a w h _ S;exact wp_exit ⟨s,L,h,S⟩
 |label l=>intro Q s L a w h _ S;exact wp_label ⟨s,L,h,S⟩
 |goto l=>intro Q s L a w h _ S;exact wp_goto ⟨s,L,h,S⟩
 |ret=>intro Q s L a w h _ S;exact wp_ret ⟨s,L,h,S⟩
 |rangeFunc=>intro Q s L a w h;exact h.elim
 |scope c _=>intro Q s L a w h hf S;exact h C L a w H hf S
 |refuse=>intro Q s L a w h;exact h.elim
def qw:List V->Nat->Nat->V
 |[],_=>fun _=>.top
 |x::xs,k=>upd (qw xs (k+1)) k x
def Hr(args:List V):St:={env:=qw args 0,bx:=fun _=>none,nid:=0}
def lT(P:Program)(s:St):ResultVar->Option V
 | .tmp t=>some (s.env t)
 | .cell a t=>match s.env a with | .ref b off=>nV P s t b off|_=>none
def kH(P:Program)(s:St)(a:List ResultVar):Option V :=
 match a with
 |[r]=>lT P s r
 |a=>(a.mapM (lT P s)).map .tup
def Tag.notIn(l:List Nat):Tag->Bool
 | .fz=>false
 | .nn=>false
 | .own id _ => !l.contains id
def mr(l:List Nat):Tag->Tag
 | .fz=>.fz
 | .nn=>.nn
 | .own id e=>.own (l.idxOf id) e
def KR(P:Program)(b:List ResultVar)(r:V):Exit->St->Prop:=fun e s =>
 match e with
 | .normal | .ret=>∃a l,kH P s b=some a/\List.Nodup l/\a.any (Tag.notIn l) (fun _=>true) false=false/\a.map (mr l) id=r
 |_=>False
theorem OC{L:Lay}{w:World}:∀(args:List V) (us:List Value) (k:Nat) (a:List Value),Reps L w args us->∀(pre:List Value),pre.length=k->∀t,Rep L w (qw args k t) ((pre++us++a).toArray.getD t undef):=by
 intro args
 induction args with
 |nil=>intro us k a _ pre _ t;trivial
 |cons x xs i =>
  rintro us k a ⟨u,r,rfl,h2,h3⟩ pre hk t;simp only[qw,upd];split
  .simp_all
  .have:=i r (k+1) a h3 (pre++[u]) (by simp[hk]) t;grind
def Iy(a:Act):ResultVar->Sem Value
 | .tmp t=>pure (a.tmps.getD t undef)
 | .cell b t=>do loadVar t (<-asAddr (a.tmps.getD b undef))
theorem Qj{fn:Func}{s:St}{L:Lay}{a:Act}{w:World}{f:List ResultVar}{r:V}(n:fn.results=f.toArray)(h:kH P s f=some r)(S:Sim C s L a w) :
  ∃u,(results fn a.tmps).run P w = .ok u w/\Rep L w r u:=by
 have one:∀x v,lT P s x=some v->∃u,(Iy a x).run P w = .ok u w/\Rep L w v u:=by
  intro x v hx
  cases x with
  |tmp t =>simp only[lT,aO]at hx;subst hx;exact⟨_,rfl,S.env t⟩
  |cell b t =>
   simp only[lT]at hx;split at hx
   .rename_i E off hb;have k:=S.env b;rw[hb]at k;obtain⟨u,h1,h2⟩:=OV hx S k;obtain⟨g,h3,h4⟩:=k;refine⟨u,?_,h2⟩;rw[h4]at h1;simp only[Iy,h4];assumption
   .cases hx
 have m:∀(l:List ResultVar) (vs:List V),l.mapM (lT P s)=some vs->∃us,(l.mapM (Iy a)).run P w = .ok us w/\Reps L w vs us:=by
  intro l
  induction l with
  |nil=>intro vs h;simp at h;subst h;exact⟨[],rfl,rfl⟩
  |cons x xs p =>intro vs h;simp only[Gj,Option.bind_eq_bind,bg,Option.pure_def,aO]at h;obtain⟨v,hv,j,c,rfl⟩:=h;obtain⟨u,h1,h2⟩:=one x v hv;obtain⟨us,h3,h4⟩:=p j c;refine⟨u::us,?_,u,us,rfl,h2,h4⟩;simp_all
 have d:∀(us:List Value),(f.mapM (Iy a)).run P w = .ok us w ->
   (results fn a.tmps).run P w = .ok (if h:us.toArray.size=1 then us.toArray[0]else .tuple us.toArray) w:=by
  intro us A
  have e:results fn a.tmps=(do let vs <-f.toArray.mapM (Iy a);pure (if h:vs.size=1 then vs[0]else .tuple vs)):=by
   unfold results
   rw[n]
   rfl
  simp_all
 unfold kH at h
 split at h
 .rename_i x;obtain⟨u,h1,h2⟩:=one x r h;refine⟨u,?_,h2⟩;rw[d [u] (by rw[Gj,Sem.run_bind,h1];rfl)];rfl
 .rename_i i;simp only[bF]at h;obtain⟨vs,c,rfl⟩:=h;obtain⟨us,h1,h2⟩:=m f vs c
  have hl:us.toArray.size≠1:=by
   have q:=h2.length
   have y:vs.length=f.length:=by
    have:∀(l:List ResultVar) (vs:List V),l.mapM (lT P s)=some vs->vs.length=l.length:=by
     intro l
     induction l with
     |nil=>intro vs h;simp at h;simp[h]
     |cons x xs p =>intro vs h;simp only[Gj,Option.bind_eq_bind,bg,Option.pure_def,aO]at h;obtain⟨v,hv,j,c,rfl⟩:=h;simp[p j c]
    exact this f vs c
   simp only[ou]
   intro h1
   rw[q,y]at h1
   match f,h1,i with
   |[x],_,i=>exact i x rfl
  refine⟨.tuple us.toArray,?_,us.toArray,rfl,by simpa using h2⟩;rw[d us h1,dif_neg hl]
theorem OB(l:List Nat)(i:Nat)(h:i∈l):l[l.idxOf i]?=some i:=by grind
theorem pR(N:nN P D){f:FuncId}{fn:Func}{c:Code}{G:List ResultVar}{args:List V}{r:V}(hf:P.funcs[f]?=some fn)(hb:fn.body=some c)(F:fn.results=G.toArray)(R:(fn.name == "runtime.NumGoroutine")=false)
  (p:mf fn.ntmps c=true) (I:args.length<=fn.ntmps) (h:wpS D P c (KR P G r) (Hr args)):Good P f args r:=by
 refine⟨by simp[oI,hf,hb,R],fun A w a Q hA d => ?_⟩
 let C:Cx:={n:=fn.ntmps,A0:=A,Wr:=fun _=>False,w0:=w}
 have hl:=d.length
 have S:Sim C (Hr args) ⟨A,fun _=>none,fun _=>none⟩ {tmps:=a.toArray++Array.replicate (fn.ntmps-a.toArray.size) undef,defers:=[]} w:=by
  refine⟨rfl,by simp[C];omega,fun t => ?_,fun _=>trivial,fun b cs h=>by simp[Hr]at h,?_,Kp.refl _ _ _⟩
  .have:=OC args a 0 (List.replicate (fn.ntmps-a.length) undef) d [] rfl t;have e:(a++List.replicate (fn.ntmps-a.length) undef).toArray=a.toArray++Array.replicate (fn.ntmps-a.toArray.size) undef:=by apply iE;simp
   rw[iY,e]at this;exact this
  .exact{
    nidO:=fun _ _ h=>by cases h
    nidB:=fun _ _ h=>by cases h
    own:=fun _ _ h=>by cases h
    boxW:=fun _ _ h=>by cases h
    injO:=fun _ _ _ h=>by cases h
    injB:=fun _ _ _ h=>by cases h
    dis:=fun _ _ _ h=>by cases h
    old:=hA
    frz:=fun g h=>.inl h}
 refine calls_of_wp hf hb (Code.wp_mono ?_ (Q8 (C:=C) N (fun w' hk=>Tb.keep w w' Q hk) c h p S))
 rintro e H w' ⟨s',L',E,k⟩
 have fin:(∃s l,kH P s' G=some s/\List.Nodup l/\s.any (Tag.notIn l) (fun _=>true) false=false/\s.map (mr l) id=r)->H.defers=[]/\∃v,(results fn H.tmps).run P w' = .ok v w'/\∃u L,Ending.returned v = .returned u/\Rep L w' r u/\Kp (fun _=>False) w.heap.size w w'/\ResLay A w w' L:=by
  rintro⟨s,l,h1,hnd,h2,rfl⟩;obtain⟨u,h3,h4⟩:=Qj F h1 k;let m:Lay:={A:=L'.A,own:=fun j=>(l[j]?).bind L'.own,box:=fun _=>none}
  have K:Trans (Tag.notIn l) (fun _=>true) (mr l) id L' m w' w':=by
   refine⟨rfl,fun g h=>⟨h,.of rfl⟩,fun i e hi g h=>⟨⟨rfl,?_⟩,rfl⟩,fun b hb=>by simp at hb⟩;have hm:i∈l:=by simpa[Tag.notIn]using hi
   simp only[m,OB l i hm,dZ,h]
  refine⟨k.defers,u,h3,u,m,rfl,h4.trans rfl K h2,k.kp,?_,?_,?_⟩
  .intro g hg;rcases k.wf.frz g hg with h|h|h
   .exact .inl h
   .exact .inr ⟨h,k.wf.old g hg⟩
   .exact h.elim
  .intro j g hg;simp only[m,bg]at hg;obtain⟨i,hi,hg⟩:=hg;obtain⟨h5,J,M⟩:=k.wf.own i g hg;exact⟨J.elim id (fun h=>h.elim),h5,M⟩
  .intro i j g hi hj;simp only[m,bg]at hi hj;obtain⟨T,q,hi⟩:=hi;obtain⟨U,y,hj⟩:=hj;have:=k.wf.injO T U g hi hj;subst this;have x:=(qK.1 q).1;exact(List.getElem?_inj x hnd).1 (q.trans y.symm)
 cases e with
 |normal=>exact fin E
 |ret=>exact fin E
 |_=>exact E.elim
end
end Go.Pg
end
namespace Go.Pg
open Go
def EZ(m:List Nat)(b:Nat):Bool := !m.contains b
def wkF:List V->List V->Prop
 |[],[]=>True
 |a::xs,b::ys=>(a=b\/(a = .c (.slice none 0 0)/\∃k,b = .sl .fz k []))/\wkF xs ys
 |_,_=>False
def Z4{L:Lay}{w:World}:∀{xs ys:List V} {us:List Value},wkF xs ys->Reps L w xs us->Reps L w ys us
 |[],[],_,_,a=>a
 |_::_,_::_,_,h,⟨u,r,h1,h2,h3⟩=>by
  refine⟨u,r,h1,?_,Z4 h.2 h3⟩;rcases h.1 with rfl|⟨rfl,k,rfl⟩
  .exact h2
  .simp only[Rep]at h2;subst h2;exact⟨none,0,[],rfl,rfl,by simp,.inl rfl⟩
def ZZ(p:Tag->Bool)(hp:p .fz=false)(q:Nat->Bool)(tp:Bool):∀{xs ys:List V},wkF xs ys->V.anyL p q tp xs=false->V.anyL p q tp ys=false
 |[],[],_,h=>h
 |_::_,_::_,h,ha=>by
  simp only[V.anyL,qh]at ha⊢;refine⟨?_,ZZ p hp q tp h.2 ha.2⟩;rcases h.1 with rfl|⟨rfl,k,rfl⟩
  .exact ha.1
  .simp[V.any,hp]
def elE(k:Nat):List V->List V->Prop
 |[],[]=>True
 |x::xs,y::ys=>(x=y\/(k=1/\x = .c (.slice none 0 0)/\∃a,y = .sl .fz a [])\/∃cs d,x = .agg cs/\y = .agg d/\wkF cs d)/\elE k xs ys
 |_,_=>False
def TW{k:Nat}{x y:V}(h:x=y\/(k=1/\x = .c (.slice none 0 0)/\∃a,y = .sl .fz a [])\/∃cs d,x = .agg cs/\y = .agg d/\wkF cs d):∀xs:List V,elE k (xs++[x]) (xs++[y])
 |[]=>⟨h,trivial⟩
 |_::xs=>⟨.inl rfl,TW h xs⟩
def TV{k:Nat}:∀{xs ys:List V},elE k xs ys->xs.length=ys.length
 |[],[],_=>rfl
 |_::_,_::_,h=>by simp[TV h.2]
 |[],_::_,h=>h.elim
 |_::_,[],h=>h.elim
theorem ap7{L:Lay}{w:World}{k:Nat}:∀{xs ys:List V} {us:List Value},elE k xs ys->RepE L w k xs us->RepE L w k ys us:=by
 intro xs
 induction xs with
 |nil=>intro ys us h c;cases ys with
  |nil=>exact c
  |cons _ _=>exact h.elim
 |cons x xs i =>
  intro ys us h c
  cases ys with
  |nil=>exact h.elim
  |cons y ys =>
   obtain⟨u,r,h1,h2,h3,h4,h5⟩:=c;refine⟨u,r,h1,h2,?_,?_,i h.2 h5⟩
   .rcases h.1 with rfl|⟨_,rfl,j,rfl⟩|⟨cs,f,rfl,rfl,d⟩
    .exact h3
    .exact⟨rfl,h3.2⟩
    .refine⟨?_,h3.2⟩;have b:=h3.1;simp only[V.free,V.any,Bool.not_eq_true']at b⊢;exact ZZ _ rfl _ _ d b
   .rcases h.1 with rfl|⟨_,rfl,j,rfl⟩|⟨cs,f,rfl,rfl,d⟩
    .exact h4
    .simp only[Rep]at h4;subst h4;exact⟨none,0,[],rfl,rfl,by simp,.inl rfl⟩
    .obtain⟨a,b,g⟩:=h4;exact⟨a,b,Z4 d g⟩
def Gen(l m:List Nat)(a v:V):Prop :=
 v = .top\/(a.any (Tag.notIn l) (EZ m) false=false/\v=a.map (mr l) (fun b=>m.idxOf b))\/(a = .c (.slice none 0 0)/\∃t k,t.notNN=true/\v = .sl t k [])\/(∃t k xs ys,a = .sl t k xs/\t.notIn l=false/\v = .sl (mr l t) k ys/\elE k xs ys)\/(a = .c (.slice none 0 0)/\∃b e o k,v = .bs b e o k 0)
def GenL(l m:List Nat):List V->List V->Prop
 |[],[]=>True
 |x::xs,y::ys=>Gen l m x y/\GenL l m xs ys
 |_,_=>False
structure Keep (l m:List Nat) (s s':St):Prop where
 env:∀t,Gen l m (s.env t) (s'.env t)
 hd:∀t,Gen l m (s.hd t) (s'.hd t)
 bx:∀b cs,s'.bx b=some cs->∃b0 cs0,m[b]?=some b0/\s.bx b0=some (cs.1,cs0)/\GenL l m cs0 cs.2
 ndl:l.Nodup
 ndm:m.Nodup
 nidl:l.length<=s'.nid
 nidm:m.length<=s'.nid
def aix{l m:List Nat}:∀{x y:List V},GenL l m x y->x.length=y.length:=by
 intro x
 induction x with
 |nil=>intro y h;cases y with|nil=>rfl|cons=>exact h.elim
 |cons a x i=>intro y h;cases y with|nil=>exact h.elim|cons b y=>simp[i h.2]
theorem Keep.weakR{l m:List Nat}{s s':St}(H:Keep l m s s')(C:Cx)(L:Lay)(a:Act)(w:World)(S:Sim C s L a w):∃L',Sim C s' L' a w/\∀v u,v.any (Tag.notIn l) (EZ m) false=false->Rep L w v u->Rep L' w (v.map (mr l) (fun b=>m.idxOf b)) u:=by
 let L':Lay:={A:=L.A,own:=fun j=>(l[j]?).bind L.own,box:=fun j=>(m[j]?).bind L.box}
 have K:Trans (Tag.notIn l) (EZ m) (mr l) (fun b=>m.idxOf b) L L' w w:=by
  refine⟨rfl,fun g h=>⟨h,.of rfl⟩,fun i e hi g h=>⟨⟨rfl,?_⟩,rfl⟩,fun b hb g h => ?_⟩
  .have hm:i∈l:=by simpa[Tag.notIn]using hi
   simp only[L',OB l i hm,dZ,h]
  .have hm:b∈m:=by simpa[EZ]using hb
   simp only[L',OB m b hm,dZ,h];exact⟨trivial,.of rfl⟩
 have c:∀J v u,Gen l m J v->Rep L w J u->Rep L' w v u:=by
  rintro J v u (rfl|⟨h1,rfl⟩|⟨rfl,t,k,G,rfl⟩|⟨t,k,xs,ys,rfl,h1,rfl,h2⟩|⟨rfl,b,e,o,k,rfl⟩) h
  .trivial
  .exact h.trans rfl K h1
  .simp only[Rep]at h;subst h;cases t with
   |fz=>exact⟨none,0,[],rfl,rfl,by simp,.inl rfl⟩
   |nn=>cases G
   |own id e=>exact⟨none,0,[],rfl,rfl,.inl ⟨rfl,rfl,rfl⟩⟩
  .obtain⟨a,cap,cells,rfl,h3,h4⟩:=h.trans rfl K (show V.any _ _ _ (.sl t k xs)=false from h1);have hl:=TV h2;exact⟨a,cap,cells,by rw[hl],ap7 h2 h3,by rw[<-hl];exact h4⟩
  .simp only[Rep]at h;exact .inl ⟨rfl,h⟩
 have n:∀E d us,GenL l m E d->Reps L w E us->Reps L' w d us:=by
  intro E
  induction E with
  |nil=>intro d us h I;cases d with|nil=>exact I|cons=>exact h.elim
  |cons x xs N =>
   intro d us h I
   cases d with
   |nil=>exact h.elim
   |cons y ys=>obtain⟨u,r,rfl,h2,h3⟩:=I;exact⟨u,r,rfl,c _ _ _ h.1 h2,N ys r h.2 h3⟩
 have W:=S.wf;refine⟨L',⟨S.defers,S.size,fun t=>c _ _ _ (H.env t) (S.env t),fun t=>c _ _ _ (H.hd t) (S.hid t),?_,?_,S.kp⟩,fun v u hv h=>h.trans rfl K hv⟩
 .intro b cs h;obtain⟨b0,cs0,h1,h2,h3⟩:=H.bx b cs h;exact(S.box b0 _ h2).keep rfl (aix h3).symm (fun g h4=>⟨by simp only[L',h1,dZ,h4],rfl⟩) (fun _ M=>n _ _ _ h3 M)
 .have lt:∀(x:List Nat) (f:Nat->Option Nat) j g,(x[j]?).bind f=some g->j<x.length/\∃i,x[j]?=some i/\f i=some g:=by intro x f j g h;simp only[bg]at h;obtain⟨i,h1,h2⟩:=h;exact⟨(qK.1 h1).1,i,h1,h2⟩
  exact{
   nidO:=fun j g h=>by have:=(lt l L.own j g h).1;have:=H.nidl;omega
   nidB:=fun j g h=>by have:=(lt m L.box j g h).1;have:=H.nidm;omega
   own:=fun j g h=>by obtain⟨_,i,_,h2⟩:=lt l L.own j g h;exact W.own i g h2
   boxW:=fun j g h=>by obtain⟨_,i,_,h2⟩:=lt m L.box j g h;exact W.boxW i g h2
   injO:=fun i j g hi hj=>by
    obtain⟨F,p,h1,h2⟩:=lt l L.own i g hi
    obtain⟨_,q,h3,h4⟩:=lt l L.own j g hj
    have:=W.injO p q g h2 h4
    subst this
    exact(List.getElem?_inj F H.ndl).1 (h1.trans h3.symm)
   injB:=fun i j g hi hj=>by
    obtain⟨F,p,h1,h2⟩:=lt m L.box i g hi
    obtain⟨_,q,h3,h4⟩:=lt m L.box j g hj
    have:=W.injB p q g h2 h4
    subst this
    exact(List.getElem?_inj F H.ndm).1 (h1.trans h3.symm)
   dis:=fun i j g hi hj=>by
    obtain⟨_,p,_,h2⟩:=lt l L.own i g hi
    obtain⟨_,q,_,h4⟩:=lt m L.box j g hj
    exact W.dis p q g h2 h4
   old:=W.old
   frz:=W.frz}
theorem Keep.weak{l m:List Nat}{s s':St}(H:Keep l m s s'):Weak s s':=fun C L a w S=>by obtain⟨L',h,_⟩:=H.weakR C L a w S;exact⟨L',h⟩
end Go.Pg
section
namespace Go.Pg
open Go
def iV(s:St)(o:Oper):List V:=o.op.operands.toList.map s.ev
def IZ(P:Program)[Tb P](s:St)(o:Oper)(v:V):Prop :=
 qv P s o.op=some v\/∃f args ts g fs cs,o.op = .call {callee:=.value f,args:=args,argTypes:=ts}/\s.ev f = .fn g fs cs/\Good P g ((fs++args.toList.map s.ev++cs).map V.erase) v /\
  ownFree (fs++cs)=true/\noRefs (fs++args.toList.map s.ev++cs)=true/\v.noRef=true/\(ownFree (args.toList.map s.ev)||v.flat)=true/\v.idb=0
def wu(P:Program)[Tb P](s:St)(o:Oper)(v:V)(s1:St):Prop :=
 xv P s o.op=some (v,s1)\/∃f args ts g fs cs r,o.op = .call {callee:=.value f,args:=args,argTypes:=ts}/\s.ev f = .fn g fs cs/\Good P g ((fs++args.toList.map s.ev++cs).map V.erase) r /\
  ownFree (fs++cs)=true/\noRefs (fs++args.toList.map s.ev++cs)=true/\r.noRef=true/\(ownFree (args.toList.map s.ev)||r.flat)=true/\r.idb≠0/\v=r.shift s.nid/\s1={s with nid:=s.nid+r.idb}
def YU{r:V}{n:Nat}(h:r.idb=0):r.shift n=r:=by
 have h1:=(OA 0).1 r Om
 have m:(∀v:V,v.any (Tag.ge 0) (fun _=>false) false=false->v.map (fun t=>match t with | .fz=>.fz | .nn=>.nn | .own id e=>.own (id+n) e) id=v) /\
   (∀l,V.anyL (Tag.ge 0) (fun _=>false) false l=false->V.mapL (fun t=>match t with | .fz=>.fz | .nn=>.nn | .own id e=>.own (id+n) e) id l=l):=by
  refine V.ind ?_ ?_ ?_ ?_ ?_ ?_ ?_ ?_ ?_ ?_ ?_ ?_ ?_
  .intro v _;rfl
  .intro _;rfl
  .intro t k xs _ h;cases t with
   |fz=>rfl
   |nn=>rfl
   |own id e=>simp[V.any,Tag.ge]at h
  .intro i b _;rfl
  .intro cs a h;simp[V.map,a h]
  .intro cs a h;simp[V.map,a h]
  .intro b o _;rfl
  .intro b be bo c bn _;rfl
  .intro t k xs i o _ h;cases t with
   |fz=>rfl
   |nn=>rfl
   |own id e=>simp[V.any,Tag.ge]at h
  .grind[V.any,V.map]
  .intro _;rfl
  .intro _;rfl
  .grind[V.anyL,V.mapL]
 exact m.1 r h1
section
variable {P:Program} [Tb P] {s s':St} {o:Oper}
theorem Zi{K K':Kd->St->Prop}(h:aB P s o K)(hk:∀κ s',K κ s'->K' κ s'):aB P s o K':=by
 unfold aB at *;split at h
 .unfold eX at *;split at h
  .rcases h with⟨ids,r,h1,h2,h3,h4,h5,a⟩|⟨s1,r,h1,h2⟩|⟨r,h1,h2⟩
   .exact .inl ⟨ids,r,h1,h2,h3,h4,h5,hk _ _ a⟩
   .exact .inr (.inl ⟨s1,r,h1,hk _ _ h2⟩)
   .exact .inr (.inr ⟨r,h1,hk _ _ h2⟩)
  .cases h
 .refine h.imp ?_ (Or.imp ?_ (Or.imp ?_ ?_))
  .unfold rO;split
   .exact hk _ _
   .exact id
  .unfold mi;split
   .exact hk _ _
   .exact id
  .unfold dN;split
   .exact hk _ _
   .exact id
  .unfold dN;split
   .exact hk _ _
   .exact id
theorem Lp{K:Kd->St->Prop}(h:aB P s o K):∃κ s',aB P s o (fun k s1=>k=κ/\s1=s')/\K κ s':=by
 unfold aB at *;split at h
 .unfold eX at *;split at h
  .rcases h with⟨ids,r,h1,h2,h3,h4,h5,b⟩|⟨s1,r,h1,h2⟩|⟨r,h1,h2⟩
   .exact⟨_,_,.inl ⟨ids,r,h1,h2,h3,h4,h5,rfl,rfl⟩,b⟩
   .exact⟨_,_,.inr (.inl ⟨s1,r,h1,rfl,rfl⟩),h2⟩
   .exact⟨_,_,.inr (.inr ⟨r,h1,rfl,rfl⟩),h2⟩
  .cases h
 .rcases h with h|h|h|h
  .unfold rO at h;split at h
   .rename_i r a;exact⟨_,_,.inl (by unfold rO;rw[a];exact⟨rfl,rfl⟩),h⟩
   .cases h
  .unfold mi at h;split at h
   .rename_i r a;exact⟨_,_,.inr (.inl (by unfold mi;rw[a];exact⟨rfl,rfl⟩)),h⟩
   .cases h
  .unfold dN at h;split at h
   .rename_i r s1 a;exact⟨_,_,.inr (.inr (.inl (by unfold dN;rw[a];exact⟨rfl,rfl⟩))),h⟩
   .cases h
  .unfold dN at h;split at h
   .rename_i r s1 a;exact⟨_,_,.inr (.inr (.inr (by unfold dN;rw[a];exact⟨rfl,rfl⟩))),h⟩
   .cases h
def LkV(P:Program)[Tb P](s:St)(o:Oper)(v:V):Prop :=
 ∃f args ts g fs cs,o.op = .call {callee:=.value f,args:=args,argTypes:=ts}/\s.ev f = .fn g fs cs/\∀e n h,GoodZ P g (fs++args.toList.map s.ev++cs) ⟨e,s.bx,n,h⟩ ⟨e,s.bx,n,h⟩ v
theorem als{v:V}(h:LkV P s o v):aB P s o (fun k s1=>k = .r/\s1=s.put o.dst v):=by obtain⟨f,args,ts,g,fs,cs,a,hf,b⟩:=h;unfold aB;rw[a];simp only;unfold eX;rw[hf];exact .inr (.inr ⟨v,b,rfl,rfl⟩)
theorem alr{v:V}(he:∀x∈o.op.operands.toList,s'.ev x=s.ev x)(hb:s'.bx=s.bx)(h:LkV P s o v):LkV P s' o v:=by
 obtain⟨f,args,ts,g,fs,cs,a,hf,c⟩:=h;rw[a]at he;have b:s'.ev f=s.ev f:=he f (by simp[Op.operands,Call.operands]);have ha:args.toList.map s'.ev=args.toList.map s.ev:=kN fun x hx=>he x (by simp[Op.operands,Call.operands]at hx⊢;simp[hx])
 exact⟨f,args,ts,g,fs,cs,a,by rw[b,hf],by rw[ha,hb];exact c⟩
theorem Bo{κ:Kd}(h:aB P s o (fun k s1=>k=κ/\s1=s')) :
  (∃v,IZ P s o v/\κ=kqo o.op (iV s o) v/\s'=s.put o.dst v)\/(∃v,rv P s o.op=some v/\κ=kr v/\s'=s.put o.dst v)\/(∃v s1,wu P s o v s1/\κ=kx s o.op/\s'=s1.put o.dst v)\/κ = .z\/(κ = .r/\∃v,LkV P s o v/\s'=s.put o.dst v):=by
 unfold aB at h
 split at h
 .rename_i f args ts a;unfold eX at h;split at h
  .rename_i g fs cs hf;rcases h with⟨ids,r,h1,h2,h3,h4,h5,b,d⟩|⟨s1,r,_,b,_⟩|⟨r,h1,b,d⟩;case inr.inl=>exact .inr (.inr (.inr (.inl b.symm)))
   case inr.inr=>exact .inr (.inr (.inr (.inr ⟨b.symm,r,⟨f,args,ts,g,fs,cs,a,hf,h1⟩,d.symm⟩)))
   cases ids with
   |cons i ids=>exact .inr (.inr (.inr (.inl b.symm)))
   |nil =>
    simp only[kc]at b;simp only[St.freezeAll]at h1 h3 h5 d;split at b
    .rename_i c;refine .inl ⟨r,.inr ⟨f,args,ts,g,fs,cs,a,hf,h1,h2,h3,h4,h5,c⟩,?_,?_⟩
     .rw[<-b,iV,a];simp[Op.operands,Call.operands,kqo]
     .rw[<-d,c,YU c];rfl
    .rename_i c;exact .inr (.inr (.inl ⟨_,_,.inr ⟨f,args,ts,g,fs,cs,r,a,hf,h1,h2,h3,h4,h5,c,rfl,rfl⟩,by rw[a];exact b.symm,d.symm⟩))
  .cases h
 .rcases h with h|h|h|h
  .unfold rO at h;split at h
   .rename_i r j;exact .inl ⟨r,.inl j,h.1.symm,h.2.symm⟩
   .cases h
  .unfold mi at h;split at h
   .rename_i r j;exact .inr (.inl ⟨r,j,h.1.symm,h.2.symm⟩)
   .cases h
  .unfold dN at h;split at h
   .rename_i r s1 j;exact .inr (.inr (.inl ⟨r,s1,.inl j,h.1.symm,h.2.symm⟩))
   .cases h
  .unfold dN at h;split at h
   .exact .inr (.inr (.inr (.inl h.1.symm)))
   .cases h
theorem QW{v:V}(h:IZ P s o v):aB P s o (fun k s1=>k=kqo o.op (iV s o) v/\s1=s.put o.dst v):=by
 rcases h with h|⟨f,args,ts,g,fs,cs,a,hf,h1,h2,h3,h4,h5,b⟩
 .unfold aB;split
  .grind[qv]
  .left;rw[h];exact⟨rfl,rfl⟩
 .unfold aB;rw[a];simp only;rw[hf];refine .inl ⟨[],v,h1,h2,h3,h4,h5,?_,?_⟩
  .rw[kc,ah b,iV,a];simp[Op.operands,Call.operands,hf,kqo]
  .rw[b,YU b];rfl
theorem YQ{v:V}(h:rv P s o.op=some v):aB P s o (fun k s1=>k=kr v/\s1=s.put o.dst v):=by grind[aB,rv,mi]
theorem IL{v:V}{s1:St}(h:wu P s o v s1):aB P s o (fun k s2=>k=kx s o.op/\s2=s1.put o.dst v):=by
 rcases h with h|⟨f,args,ts,g,fs,cs,r,a,hf,h1,h2,h3,h4,h5,b,rfl,rfl⟩
 .grind[aB,xv,dN]
 .unfold aB;rw[a];simp only;rw[hf];refine .inl ⟨[],r,h1,h2,h3,h4,h5,?_,rfl⟩;rw[kc,ag b];rfl
theorem Qd{op:Op}(he:∀x∈op.operands.toList,s'.ev x=s.ev x):qv P s' op=qv P s op:=by
 have hm:∀(l:List Operand),(∀x∈l,s'.ev x=s.ev x)->l.map s'.ev=l.map s.ev:=fun l h=>kN h
 have ho:∀(o:Option Operand),(∀x,o=some x->s'.ev x=s.ev x)->o.map s'.ev=o.map s.ev:=by
  intro o h;cases o with
  |none=>rfl
  |some x=>simp[h x rfl]
 unfold qv;split
 case h_14 t parts =>
  congr 1
  refine kN fun p hp => ?_
  rw[he p.2 (by simp only[Op.operands];simpa using⟨p.1,by simpa using hp⟩)]
 case h_13 f fs cs=>rw[hm fs.toList (fun x hx=>he x (by simp[Op.operands]at hx⊢;simp[hx])),hm cs.toList (fun x hx=>he x (by simp[Op.operands]at hx⊢;simp[hx]))]
 case h_15 t x lo hi =>
  rw[he x (by simp[Op.operands]),ho lo (fun y b=>he y (by simp[Op.operands,b])),ho hi (fun y b=>he y (by simp[Op.operands,b]))]
 case h_17 args ts =>
  split
  .rename_i x t hx d
   have a:args=#[x]:=by apply iE;simpa using hx
   subst a
   rw[he x (by simp[Op.operands,Call.operands])]
  .rfl
 case h_18 args ts =>
  split
  .rename_i x hx
   have a:args=#[x]:=by apply iE;simpa using hx
   subst a
   rw[he x (by simp[Op.operands,Call.operands])]
  .rfl
 case h_19 args ts =>
  split
  .rename_i x y hx
   have a:args=#[x,y]:=by apply iE;simpa using hx
   subst a
   rw[he x (by simp[Op.operands,Call.operands]),he y (by simp[Op.operands,Call.operands])]
  .rfl
 case h_20 args ts =>
  split
  .rename_i x y hx
   have a:args=#[x,y]:=by apply iE;simpa using hx
   subst a
   rw[he x (by simp[Op.operands,Call.operands]),he y (by simp[Op.operands,Call.operands])]
  .rfl
 case h_21 args ts =>
  split
  .rename_i x y hx
   have a:args=#[x,y]:=by apply iE;simpa using hx
   subst a
   rw[he x (by simp[Op.operands,Call.operands]),he y (by simp[Op.operands,Call.operands])]
  .rfl
 case h_22 args ts =>
  split
  .rename_i x hx
   have a:args=#[x]:=by apply iE;simpa using hx
   subst a
   rw[he x (by simp[Op.operands,Call.operands])]
  .rfl
 case h_23 args ts =>
  split
  .rename_i x hx
   have a:args=#[x]:=by apply iE;simpa using hx
   subst a
   rw[he x (by simp[Op.operands,Call.operands])]
  .rfl
 case h_3 c x y=>rw[he c (by simp[Op.operands]),he x (by simp[Op.operands]),he y (by simp[Op.operands])]
 all_goals first
  |rfl
  |(rename_i x;rw[he x (by simp[Op.operands])];done)
  |(rename_i x _;rw[he x (by simp[Op.operands])];done)
  |(rename_i x y;rw[he x (by simp[Op.operands]),he y (by simp[Op.operands])];done)
  |(rename_i x y _;rw[he x (by simp[Op.operands]),he y (by simp[Op.operands])];done)
theorem ZT{v:V}(he:∀x∈o.op.operands.toList,s'.ev x=s.ev x)(h:IZ P s o v):IZ P s' o v:=by
 rcases h with h|⟨f,args,ts,g,fs,cs,b,hf,h1,h2,h3,h4,h5,d⟩
 .exact .inl (by rw[Qd he];exact h)
 .rw[b]at he;have c:s'.ev f=s.ev f:=he f (by simp[Op.operands,Call.operands]);have a:args.toList.map s'.ev=args.toList.map s.ev:=kN fun x hx=>he x (by simp[Op.operands,Call.operands]at hx⊢;simp[hx])
  exact .inr ⟨f,args,ts,g,fs,cs,b,by rw[c];exact hf,by rw[a];exact h1,h2,by rw[a];exact h3,h4,by rw[a];exact h5,d⟩
theorem YP{op:Op}(he:∀x∈op.operands.toList,s'.ev x=s.ev x)(hb:s'.bx=s.bx):rv P s' op=rv P s op:=by
 unfold rv;split
 .rename_i t x;rw[he x (by simp[Op.operands])];grind[nV]
 .rename_i src d x;rw[he x (by simp[Op.operands])];simp_all[pY]
 .rename_i t x i ok;rw[he x (by simp[Op.operands]),he i (by simp[Op.operands])];grind[lkB]
 .rename_i args ts;split
  .rename_i x t hx h;have a:args=#[x]:=by apply iE;simpa using hx
   subst a;rw[he x (by simp[Op.operands,Call.operands])];grind[lnB]
  .rfl
 .rfl
theorem Jv{d:Nat}{v:V}{x:Operand}(h:x ≠ .tmp d):(s.put (some d) v).ev x=s.ev x:=by
 cases x with
 |tmp t=>simp[St.put,St.ev,upd,show t≠d from fun e=>h (by rw[e])]
 |_=>rfl
theorem apw{d a:Nat}{v b:V}(h:d≠a):(s.put (some d) v).put (some a) b=(s.put (some a) b).put (some d) v:=by simp[St.put];grind[upd]
theorem adx{v:V}(h:v.calm=true)(id:Nat):v.has id=false:=by
 have m:(∀v:V,v.any Tag.isOwn (fun _=>true) false=false->v.any (Tag.is id) (fun _=>false) false=false)/\(∀l,V.anyL Tag.isOwn (fun _=>true) false l=false->V.anyL (Tag.is id) (fun _=>false) false l=false):=by
  refine V.ind ?_ ?_ ?_ ?_ ?_ ?_ ?_ ?_ ?_ ?_ ?_ ?_ ?_
  .intro v _;rfl
  .intro _;rfl
  .intro t k xs _ h;cases t with
   |fz=>rfl
   |nn=>rfl
   |own j e=>simp[V.any,Tag.isOwn]at h
  .grind[V.any]
  .intro cs a h;exact a h
  .intro cs a h;exact a h
  .grind[V.any]
  .intro b be bo c bn h;simp[V.any]at h
  .intro t k xs i o _ h;cases t with
   |fz=>rfl
   |nn=>rfl
   |own j e=>simp[V.any,Tag.isOwn]at h
  .grind[V.any]
  .intro _;rfl
  .intro _;rfl
  .grind[V.anyL]
 exact m.1 v (by simpa[V.calm]using h)
theorem agt{v:V}(h:v.free=true):v.calm=true:=by
 have m:(∀v:V,v.any Tag.isOwn (fun _=>true) true=false->v.any Tag.isOwn (fun _=>true) false=false)/\(∀l,V.anyL Tag.isOwn (fun _=>true) true l=false->V.anyL Tag.isOwn (fun _=>true) false l=false):=by refine V.ind ?_ ?_ ?_ ?_ ?_ ?_ ?_ ?_ ?_ ?_ ?_ ?_ ?_<;>simp_all[V.any,V.anyL]
 grind[V.calm,V.free]
structure Turns (ψ:V->V):Prop where
 calm:∀v:V,v.calm=true->ψ v=v
 back:∀v:V,(ψ v).free=true->ψ v=v
theorem uq:Turns _root_.id:=⟨fun _ _=>rfl,fun _ _=>rfl⟩
theorem LD(id:Nat):Turns (aF id):=by refine⟨fun v h=>by simp[aF,adx h],fun v h => ?_⟩;grind[aF,V.free,V.any]
theorem Zx(id k i:Nat)(x:V):Turns (aY id k i x):=by
 refine⟨fun v h => ?_,fun v h => ?_⟩
 .unfold aY;split
  .trivial
  .trivial
  .exact(LD id).calm _ h
 .unfold aY at *;split
  .split
   .rename_i hj;split
    .rename_i hk;simp[hj,hk]at h;trivial
    .rename_i hk;simp[hj,hk]at h;trivial
   .rfl
  .split
   .rename_i hj;split
    .rename_i hk;simp[hj,hk]at h;trivial
    .rename_i hk;simp[hj,hk]at h;trivial
   .rfl
  .split at h
   .grind
   .grind
   .exact(LD id).back _ h
theorem WL{ψ:V->V}{d:Nat}{v:V}(h:ψ v=v):(s.put (some d) v).mapV ψ=(s.mapV ψ).put (some d) v:=by
 have e:(fun t=>ψ (upd s.env d v t))=upd (fun t=>ψ (s.env t)) d v:=by grind[upd]
 show(⟨fun t=>ψ (upd s.env d v t),_,_,_⟩:St)=⟨upd (fun t=>ψ (s.env t)) d v,_,_,_⟩;rw[e];rfl
theorem avJ{op:Op}{r:V}{s1:St}(h:xv P s op=some (r,s1)):∃ψ,Turns ψ/\∀t,s1.env t=ψ (s.env t):=by
 unfold xv at h;split at h
 .simp only[BN,bF,Df,dR]at h;grind[uq]
 .simp only[BP,bF,Df,dR]at h;grind[uq]
 .simp only[qp,bg,dh,aO,dR,uD]at h;grind[uq]
 .split at h
  .simp only[oZ,bF,bg,dh,aO,dR]at h;grind[uq]
  .simp only[rV,bF,bg,dh,aO,dR]at h;obtain⟨_,⟨_,_,_,_,_,_,_,_,_,rfl⟩,_,rfl⟩:=h;exact⟨_,Zx _ _ _ _,fun t=>rfl⟩
  .cases h
 .unfold yO at h;split at h
  .simp only[bg,dh,aO,dR,uD]at h;grind[uq]
  .cases h
 .simp only[C9,bF,dR]at h;obtain⟨_,_,_,rfl⟩:=h;exact⟨_,uq,fun t=>rfl⟩
 .split at h
  .simp only[rH,bF,bg,dR]at h;grind[uq]
  .cases h
 .split at h
  .split at h
   .simp only[yc,bF,bg,dR]at h;grind[uq]
   .cases h
  .cases h
 .simp only[bF,dR]at h;grind[uq]
 .split at h
  .simp only[uG,bg,uD]at h;obtain⟨_,_,_,_,_,_,_,h⟩:=h;split at h
   .simp only[dh,aO,dR]at h;obtain⟨_,_,rfl⟩:=h;exact⟨_,uq,fun t=>rfl⟩
   .simp only[dh,aO,dR]at h;obtain⟨_,_,rfl⟩:=h;exact⟨_,LD _,fun t=>rfl⟩
   .simp only[dh,aO,dR]at h;obtain⟨_,_,rfl⟩:=h;exact⟨_,uq,fun t=>rfl⟩
   .cases h
  .cases h
 .cases h
theorem aaj{op:Op}{d:Nat}{v:V}(hd:∀x∈op.operands.toList,x ≠ .tmp d)(h:v.calm=true) :
  xv P (s.put (some d) v) op=(xv P s op).map fun p=>(p.1,p.2.put (some d) v):=by
 have he:∀x∈op.operands.toList,(s.put (some d) v).ev x=s.ev x:=fun x hx=>Jv (hd x hx)
 unfold xv
 split
 .rename_i e;simp only[BN,xO];rfl
 .rename_i e x;rw[he x (by simp[Op.operands])];simp only[BP,xO];rfl
 .rename_i t len parts
  have:(parts.toList.map fun p=>(p.1,(s.put (some d) v).ev p.2))=parts.toList.map fun p=>(p.1,s.ev p.2):=by
   refine kN fun p hp => ?_
   rw[he p.2 (by simp only[Op.operands];simpa using⟨p.1,by simpa using hp⟩)]
  rw[this];simp only[qp];cases elemT P t with
  |none=>rfl
  |some e =>
   simp only[dZ]
   cases tapp P e with
   |none=>rfl
   |some a =>
    simp only[dZ]
    cases zelem P e with
    |none=>rfl
    |some z =>
     simp only[dZ]
     cases setAll a.1 (List.replicate len z) (parts.toList.map fun p=>(p.1,s.ev p.2))with
     |none=>rfl
     |some xs =>simp only[dZ];split<;>rfl
 .rename_i t x y;rw[he x (by simp[Op.operands]),he y (by simp[Op.operands])];split
  .rename_i b off hb;simp only[oZ,xO];have:(s.put (some d) v).bx=s.bx:=rfl;rw[this];cases s.bx b with
   |none=>rfl
   |some cs =>
    simp only[dZ]
    cases(s.ev y).cs with
    |none=>rfl
    |some l =>simp only[dZ];split<;>rfl
  .rename_i id e k xs i off hb;simp only[rV,xO];cases xs[i]? with
   |none=>rfl
   |some j =>
    simp only[dZ]
    cases j.cs with
    |none=>rfl
    |some g =>
     simp only[dZ]
     cases(s.ev y).cs with
     |none=>rfl
     |some l =>
      simp only[dZ]
      cases Be j (g.take off++l++g.drop (off+l.length))with
      |none=>rfl
      |some x1 =>
       simp only[dZ];split
       .simp only[mQ,Function.comp,WL ((Zx id k i x1).calm v h)]
       .rfl
  .rfl
 .rename_i t l c;rw[he l (by simp[Op.operands]),he c (by simp[Op.operands])];unfold yO;split
  .cases elemT P t with
   |none=>rfl
   |some e =>
    simp only[dZ]
    cases tapp P e with
    |none=>rfl
    |some a =>
     simp only[dZ]
     cases zelem P e with
     |none=>rfl
     |some z =>simp only[dZ];split<;>rfl
  .rfl
 .rename_i t;simp only[C9,xO];rfl
 .rename_i t m k x;rw[he m (by simp[Op.operands]),he k (by simp[Op.operands]),he x (by simp[Op.operands])];split
  .rw[amq,xO,xO];rfl
  .rfl
 .rename_i args ts;split
  .rename_i x k t tk hx q;have f:args=#[x,k]:=by apply iE;simpa using hx
   subst f;rw[he x (by simp[Op.operands,Call.operands]),he k (by simp[Op.operands,Call.operands])];split
   .rw[aeR,xO,xO];rfl
   .rfl
  .rfl
 .rename_i src n x;rw[he x (by simp[Op.operands])];simp only[xO];rfl
 .rename_i args ts;split
  .rename_i x y t t2 hx q;have f:args=#[x,y]:=by apply iE;simpa using hx
   subst f;rw[he x (by simp[Op.operands,Call.operands]),he y (by simp[Op.operands,Call.operands])];simp only[uG];cases elemT P t with
   |none=>rfl
   |some e =>
    simp only[dZ]
    cases tapp P e with
    |none=>rfl
    |some a =>
     simp only[dZ]
     cases rQ P t2 a.1 (s.ev y)with
     |none=>rfl
     |some ys =>
      simp only[dZ];split
      .split<;>rfl
      .rename_i id e' r xs _;split
       .simp only[mQ,WL ((LD id).calm v h)];rfl
       .rfl
      .split<;>rfl
      .rfl
  .rfl
 .rfl
theorem ZV{v:V}{s1:St}(h:wu P s o v s1):∃ψ,Turns ψ/\∀t,s1.env t=ψ (s.env t):=by
 rcases h with h|⟨f,args,ts,g,fs,cs,r,a,hf,h1,h2,h3,h4,h5,b,rfl,rfl⟩
 .exact avJ h
 .grind[uq]
theorem ZU{v x:V}{s1:St}{d:Nat}(hd:∀y∈o.op.operands.toList,y ≠ .tmp d)(k:x.calm=true) :
  wu P (s.put (some d) x) o v s1↔∃s2,wu P s o v s2/\s1=s2.put (some d) x:=by
 have he:∀y∈o.op.operands.toList,(s.put (some d) x).ev y=s.ev y:=fun y i=>Jv (hd y i)
 constructor
 .rintro(h|⟨f,args,ts,g,fs,cs,r,b,hf,h1,h2,h3,h4,h5,j,rfl,rfl⟩)
  .rw[aaj hd k]at h;simp only[bF]at h;obtain⟨⟨l,s2⟩,h,rfl,rfl⟩:=h;exact⟨s2,.inl h,rfl⟩
  .rw[b]at he;have c:=he f (by simp[Op.operands,Call.operands]);have a:args.toList.map (s.put (some d) x).ev=args.toList.map s.ev:=kN fun y i=>he y (by simp[Op.operands,Call.operands]at i⊢;simp[i])
   rw[c]at hf;rw[a]at h1 h3 h5;exact⟨{s with nid:=s.nid+r.idb},.inr ⟨f,args,ts,g,fs,cs,r,b,hf,h1,h2,h3,h4,h5,j,rfl,rfl⟩,rfl⟩
 .rintro⟨s2,h,rfl⟩;rcases h with h|⟨f,args,ts,g,fs,cs,r,b,hf,h1,h2,h3,h4,h5,j,rfl,rfl⟩
  .exact .inl (by rw[aaj hd k,h];rfl)
  .rw[b]at he;have c:=he f (by simp[Op.operands,Call.operands]);have a:args.toList.map (s.put (some d) x).ev=args.toList.map s.ev:=kN fun y i=>he y (by simp[Op.operands,Call.operands]at i⊢;simp[i])
   exact .inr ⟨f,args,ts,g,fs,cs,r,b,by rw[c];exact hf,by rw[a];exact h1,h2,by rw[a];exact h3,h4,by rw[a];exact h5,j,rfl,rfl⟩
end
end Go.Pg
end
section
namespace Go.Pg
open Go
def jk(id k:Nat)(l:List (Nat×Nat)):Bool:=l.all fun p=>p.1 != id||p.2 == k
section
variable {id k i:Nat} {x1:V}
theorem Dq{v:V}(h:(aF id v).aOk=true):aF id v=v/\v.aOk=true:=by
 unfold aF at *;split at h
 .cases h
 .grind
theorem Y5{v:V}(h:v.aOk=true)(f:jk id k v.aL=true):(aY id k i x1 v).aOk=true/\(aY id k i x1 v).aL=v.aL/\(aY id k i x1 v).free=v.free/\(aY id k i x1 v).calm=v.calm:=by
 cases v with
 |c v=>exact⟨rfl,rfl,rfl,rfl⟩
 |nif=>exact⟨rfl,rfl,rfl,rfl⟩
 |ref b o=>exact⟨rfl,rfl,rfl,rfl⟩
 |sl t d xs =>
  cases t with
  |fz=>exact⟨rfl,rfl,rfl,rfl⟩
  |nn=>exact⟨rfl,rfl,rfl,rfl⟩
  |own j e=>grind[jk,V.aL,aY,V.aOk,V.free,V.calm,V.any]
 |el t d xs a o =>
  cases t with
  |fz=>exact⟨rfl,rfl,rfl,rfl⟩
  |nn=>exact⟨rfl,rfl,rfl,rfl⟩
  |own j e=>grind[jk,V.aL,aY,V.aOk,V.free,V.calm,V.any]
 |_=>cases h
theorem ar5{v:V}(h:(aY id k i x1 v).aOk=true)(g:jk id k (aY id k i x1 v).aL=true):v.aOk=true/\jk id k v.aL=true:=by
 cases v with
 |c v=>exact⟨rfl,rfl⟩
 |nif=>exact⟨rfl,rfl⟩
 |ref b o=>exact⟨rfl,rfl⟩
 |sl t d xs =>
  cases t with
  |fz=>exact⟨rfl,rfl⟩
  |nn=>exact⟨rfl,rfl⟩
  |own j e=>grind[V.aL,aY,V.aOk]
 |el t d xs a o =>
  cases t with
  |fz=>exact⟨rfl,rfl⟩
  |nn=>exact⟨rfl,rfl⟩
  |own j e=>grind[V.aL,aY,V.aOk]
 |agg l=>exact absurd (Dq (id:=id) (v:=.agg l) h).2 gy
 |tup l=>exact absurd (Dq (id:=id) (v:=.tup l) h).2 gy
 |fn f a b=>exact absurd (Dq (id:=id) (v:=.fn f a b) h).2 gy
 |top=>exact absurd (Dq (id:=id) (v:=.top) h).2 gy
 |mh i b=>exact absurd (Dq (id:=id) (v:=.mh i b) h).2 gy
 |bs b e o k n=>exact absurd (Dq (id:=id) (v:=.bs b e o k n) h).2 gy
theorem ar7(v:Value):aY id k i x1 (jd v)=jd v:=by
 have key:∀l:List Value,V.anyL (Tag.is id) (fun _=>false) false (l.map .c)=false:=by
  intro l;induction l with
  |nil=>rfl
  |cons a l b=>simp[V.anyL,V.any,b]
 have hp:∀u:V,u.has id=false->aF id u=u:=fun u h=>by unfold aF;rw[h];rfl
 cases v<;>first|rfl|exact hp _ (by simp[jd,V.has,V.any,key])
end
section
variable {P:Program} {s s2:St} {id k i:Nat} {x1:V}
theorem ar9{t:TypeId}{x y:V}(hx:x.aOk=true)(g:jk id k x.aL=true)(A:y.aOk=true):iaV P t (aY id k i x1 x) (aY id k i x1 y)=(iaV P t x y).map (aY id k i x1):=by
 have l:∀n,aY id k i x1 y = .c n↔y = .c n:=by
  intro n
  cases y with
  |sl d f xs=>cases d<;>simp[aY,aF]<;>(repeat' split)<;>simp
  |el d f xs a o=>cases d<;>simp[aY,aF]<;>(repeat' split)<;>simp
  |c v=>simp[aY,aF,V.has,V.any]
  |nif=>simp[aY,aF,V.has,V.any]
  |ref b o=>simp[aY,aF,V.has,V.any]
  |_=>cases A
 have s:∀u,(∀n,y ≠ .c n)->iaV P t u y=none:=by simp_all[iaV]
 have r:∀u,(∀n,y ≠ .c n)->iaV P t u (aY id k i x1 y)=none:=by simp_all[aY,iaV]
 by_cases m:∃n,y = .c n
 .obtain⟨n,rfl⟩:=m;rw[(l n).2 rfl];cases x with
  |c v=>cases n<;>rfl
  |nif=>cases n<;>rfl
  |ref b o =>
   show iaV P t (.ref b o) (.c n)=_
   cases n<;>try rfl
   unfold iaV
   cases sH P t with
   |none=>rfl
   |some p =>
    simp only[dZ]
    cases tsz P p.2 with
    |none=>rfl
    |some q=>simp only[dZ];split<;>rfl
  |sl d f xs =>
   cases d with
   |fz =>show iaV P t (.sl .fz f xs) (.c n)=_;cases n<;>first|rfl|(unfold iaV;simp only;split<;>rfl)
   |nn =>show iaV P t (.sl .nn f xs) (.c n)=_;cases n<;>first|rfl|(unfold iaV;simp only;split<;>rfl)
   |own j e =>
    by_cases hj:j=id
    .have hk:f=k:=by simpa[jk,V.aL,hj]using g
     subst hj;subst hk;cases n<;>try(simp[aY,iaV];done)
    .cases n<;>try(simp[aY,hj,iaV];done)
  |el d f xs a o =>
   have h:∀d f xs a o,iaV P t (.el d f xs a o) (.c n)=none:=by intros;cases n<;>rfl
   rw[h]
   cases d with
   |fz=>exact h _ _ _ _ _
   |nn=>exact h _ _ _ _ _
   |own j e =>
    simp only[aY];split
    .split
     .grind
     .rfl
    .grind
  |_=>cases hx
 .grind
theorem faN{t:TypeId}{f:Nat}{x:V}(h1:∀b o,x ≠ .ref b o)(h2:∀c j xs a o,x ≠ .el c j xs a o):faV P t x f=none:=by simp_all[faV]
theorem ar8{t:TypeId}{f:Nat}{x:V}(hx:x.aOk=true)(m:jk id k x.aL=true):faV P t (aY id k i x1 x) f=(faV P t x f).map (aY id k i x1):=by
 cases x with
 |c v=>rw[show aY id k i x1 (.c v) = .c v from rfl,faN Aa Aa];rfl
 |nif=>rw[show aY id k i x1 .nif = .nif from rfl,faN Aa Aa];rfl
 |ref b o =>
  show faV P t (.ref b o) f=_
  unfold faV
  cases sU P t f with
  |none=>rfl
  |some p =>
   simp only[dZ]
   cases tsz P p.1 with
   |none=>rfl
   |some q=>simp only[dZ];split<;>rfl
 |sl g d xs =>
  have h:∀g d xs,faV P t (.sl g d xs) f=none:=by intros;exact faN Aa Aa
  rw[h]
  cases g with
  |fz=>exact h _ _ _
  |nn=>exact h _ _ _
  |own j e =>simp only[aY];grind[faN]
 |el g d xs a o =>
  cases g with
  |fz =>
   show faV P t (.el .fz d xs a o) f=_
   unfold faV
   cases sU P t f with
   |none=>rfl
   |some p =>
    simp only[dZ]
    cases tsz P p.1 with
    |none=>rfl
    |some q=>simp only[dZ];split<;>rfl
  |nn =>
   show faV P t (.el .nn d xs a o) f=_
   unfold faV
   cases sU P t f with
   |none=>rfl
   |some p =>
    simp only[dZ]
    cases tsz P p.1 with
    |none=>rfl
    |some q=>simp only[dZ];split<;>rfl
  |own j e =>
   have n:∀l,aY id k i x1 (.el (.own j e) d xs a l) = .el (.own j e) d (if j=id then xs.set i x1 else xs) a l:=by grind[jk,V.aL,aY]
   rw[n]
   unfold faV
   cases sU P t f with
   |none=>rfl
   |some p =>
    simp only[dZ]
    cases tsz P p.1 with
    |none=>rfl
    |some q=>grind
 |_=>cases hx
def isA:Op->Bool
 | .move _=>true
 | .assign _=>true
 | .indexAddr _ _ _=>true
 | .fieldAddr _ _ _=>true
 |_=>false
theorem akW{op:Op}{l:List V}{v:V}{m:List (Nat×Nat)}(h:kqo op l v = .a m):isA op=true/\kqo op=ka/\l.all V.aOk=true/\m=l.flatMap V.aL/\m≠[]:=by
 have a:∀l v,kq l v ≠ .a m:=by intro l v;unfold kq;(repeat' split)<;>simp
 have hk:ka l v = .a m->l.all V.aOk=true/\m=l.flatMap V.aL/\m≠[]:=by grind[ka]
 cases op<;>simp[kqo]at h<;>first|exact absurd h (a _ _)|(obtain⟨h1,h2,h3⟩:=hk h;exact⟨rfl,rfl,h1,h2,h3⟩)
theorem TD{l:List V}(h:jk id k (l.flatMap V.aL)=true){x:V}(hx:x∈l):jk id k x.aL=true:=by grind[jk]
theorem Qe{op:Op}(ha:isA op=true)(h:∀x∈op.operands.toList,(s.ev x).aOk=true/\jk id k (s.ev x).aL=true)(he:∀x∈op.operands.toList,s2.ev x=aY id k i x1 (s.ev x)):qv P s2 op=(qv P s op).map (aY id k i x1):=by
 cases op<;>simp[isA]at ha
 case move x=>simp only[qv,mQ,he x (by simp[Op.operands])]
 case assign x=>simp only[qv,mQ,he x (by simp[Op.operands])]
 case fieldAddr t x f =>
  have h1:=h x (by simp[Op.operands])
  simp only[qv,he x (by simp[Op.operands])]
  grind[ar8]
 case indexAddr t x j =>
  have h1:=h x (by simp[Op.operands])
  have h2:=h j (by simp[Op.operands])
  simp only[qv,he x (by simp[Op.operands]),he j (by simp[Op.operands])]
  grind[ar9]
end
end Go.Pg
end
