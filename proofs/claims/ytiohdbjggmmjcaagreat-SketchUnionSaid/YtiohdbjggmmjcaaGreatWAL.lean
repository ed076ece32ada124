/-
  Merged texts.
-/
import Derived.Test.YtiohdbjggmmjcaaGreatWAK
import Derived.Test.YtiohdbjggmmjcaaGreatWAI
set_option linter.unusedVariables false
set_option linter.unusedSimpArgs false
set_option linter.unusedSectionVars false
set_option linter.defProp false
set_option maxRecDepth 100000
set_option maxHeartbeats 8000000
namespace Go.Pg
open Go
def gm{α:Type}(e h:Nat→α):Nat→α:=fun t=>if t%2=0 then e (t / 2) else h (t / 2)
def unE{α:Type}(f:Nat→α):Nat→α:=fun t=>f (2*t)
def unH{α:Type}(f:Nat→α):Nat→α:=fun t=>f (2*t+1)
theorem jk{α:Type}(e h:Nat→α):unE (gm e h)=e:=by
 funext t
 simp only[unE,gm]
 rw[if_pos (by omega),show 2*t / 2=t by omega]
theorem jl{α:Type}(e h:Nat→α):unH (gm e h)=h:=by
 funext t
 simp only[unH,gm]
 rw[if_neg (by omega),show (2*t+1) / 2=t by omega]
def P5(args:List V)(s:St):St:={ env:=qJ args 0,bx:=s.bx,nid:=s.nid,hd:=gm s.env s.hd }
def ady(s:St):St:={ env:=unE s.hd,bx:=s.bx,nid:=s.nid,hd:=unH s.hd }
def afB(a b:St):Prop:=a.env=b.env∧a.hd=b.hd∧a.bx=b.bx∧a.nid≤b.nid
def Il(P:Program)(rs:List ResultVar)(s':St)(r:V)(s:St):Prop:=nO P s rs=some r∧afB (ady s) s'
def ZP(P:Program)(rs:List ResultVar)(s':St)(r:V):Exit→St→Prop:=fun e s =>
 match e with
 | .normal | .ret=>Il P rs s' r s
 | _=>False
theorem P6(P:Program)(s:St):nO P s []=some (.tup []):=rfl
theorem yT{P:Program}[Tb P]{D:Dw}(hD:jE P D){f:FuncId}{fn:Func}{c:Code}{rs:List ResultVar}{args:List V}{r:V}{s s':St}(hf:P.funcs[f]?=some fn)(hb:fn.body=some c)(hrs:fn.results=rs.toArray)(hn:(fn.name == "runtime.NumGoroutine")=false)
  (hfit:oQ fn.ntmps c=true) (hlen:args.length≤fn.ntmps) (h:wpS D P c (ZP P rs s' r) (P5 args s)):GoodZ P f args s s' r:=by
 intro C L a w cargs hT S hargs
 refine .inl ⟨by simp [jD,hf,hb,hn], ?_⟩
 let C':Cx:={ n:=fn.ntmps,A0:=C.A0,Wr:=C.Wr,w0:=C.w0,hid:=gm (fun t=>a.tmps.getD t undef) C.hid }
 have hl:=hargs.length
 have W:=S.wf
 have S1:Sim C' (P5 args s) L { tmps:=cargs.toArray++Array.replicate (fn.ntmps-cargs.toArray.size) undef,defers:=[] } w:=by
  refine⟨rfl,by simp [C'];omega,fun t => ?_,fun t => ?_,S.box,⟨W.nidO,W.nidB,W.own,W.boxW,W.injO,W.injB,W.dis,W.old,W.frz⟩,S.kp⟩
  ·have:=xw args cargs 0 (List.replicate (fn.ntmps-cargs.length) undef) hargs [] rfl t
   have e:(cargs++List.replicate (fn.ntmps-cargs.length) undef).toArray=cargs.toArray++Array.replicate (fn.ntmps-cargs.toArray.size) undef:=by
    apply Array.ext';simp
   rw[List.nil_append,e] at this
   exact this
  ·show Rep L w (gm s.env s.hd t) (gm (fun t=>a.tmps.getD t undef) C.hid t)
   unfold gm
   split
   ·exact S.env _
   ·exact S.hid _
 refine calls_of_wp hf hb (Code.wp_mono ?_ (mM (C:=C') hD hT c h hfit S1))
 rintro e a' w' ⟨s2,L2,hq,S2⟩
 have fin:Il P rs s' r s2→a'.defers=[]∧∃v,(results fn a'.tmps).run P w' = .ok v w'∧∃u L',Ending.returned v = .returned u∧Sim C s' L' a w'∧Rep L' w' r u:=by
  rintro⟨h1,k1,k2,k3,k4⟩
  obtain⟨u,h3,h4⟩:=rF hrs h1 S2
  refine⟨S2.defers,u,h3,u,L2,rfl, ?_,h4⟩
  have W2:=S2.wf
  obtain⟨e1,b1,n1,d1⟩:=s'
  simp only at k1 k2 k3 k4
  subst k1;subst k2;subst k3
  refine⟨S.defers,S.size,fun t => ?_,fun t => ?_,S2.box,⟨fun i g h=>Nat.lt_of_lt_of_le (W2.nidO i g h) k4,fun i g h=>Nat.lt_of_lt_of_le (W2.nidB i g h) k4,W2.own,W2.boxW,W2.injO,W2.injB,W2.dis,W2.old,W2.frz⟩,S2.kp⟩
  ·have h5:=S2.hid (2*t)
   have e:C'.hid (2*t)=a.tmps.getD t undef:=congrFun (jk (fun t=>a.tmps.getD t undef) C.hid) t
   rw[e] at h5
   exact h5
  ·have h5:=S2.hid (2*t+1)
   have e:C'.hid (2*t+1)=C.hid t:=congrFun (jl (fun t=>a.tmps.getD t undef) C.hid) t
   rw[e] at h5
   exact h5
 cases e with
 | normal=>exact fin hq
 | ret=>exact fin hq
 | _=>exact hq.elim
def GoodX(P:Program)(g:FuncId)(args:List V)(r:V):Prop :=
 ∀(L:Lay) (w:World) (cargs:List Value),Reps L w args cargs→∃u,(callFunc g cargs.toArray).run P w = .ok (.value u) w∧Rep L w r u
theorem GoodX.z{P:Program}[Tb P]{g:FuncId}{args:List V}{r:V}(h:GoodX P g args r)(s:St):GoodZ P g args s s r:=by
 intro C L a w cargs _ S hargs
 obtain⟨u,h1,h2⟩:=h L w cargs hargs
 exact .inr ⟨u,w,L,h1,S,h2⟩
end Go.Pg
section
namespace Go.Pg
open Go
theorem adz(s:St)(t:Nat):s.ev (.tmp t)=s.env t:=rfl
theorem UV(s:St)(v:Value):s.ev (.const v)=fJ v:=rfl
theorem ZQ(s:St)(f:FuncId):s.ev (.func f) = .fn f [] []:=rfl
theorem P7(s:St)(g:Nat):s.ev (.global g) = .c (.pointer (some ⟨g,0,none⟩)):=rfl
theorem adA(e:Nat→V)(b:Bxx)(n d:Nat)(h:Nat→V)(v:V):St.put ⟨e,b,n,h⟩ (some d) v=⟨upd e d v,b,n,h⟩:=rfl
theorem ZR{α:Type}(f:Nat→α)(d:Nat)(v:α):upd f d v d=v:=by simp [upd]
section
variable (s:St) (d:Option Nat) (l:List V) (k:Kd) (K:Kd→St→Prop)
theorem eQ(r:V):kz (some r) s d l K=K (kq l r) (s.put d r):=rfl
theorem bK:kz none s d l K=False:=rfl
theorem fE(f:List V→V→Kd)(r:V):xn f (some r) s d l K=K (f l r) (s.put d r):=rfl
theorem fF(f:List V→V→Kd):xn f none s d l K=False:=rfl
theorem P8(r:V):xu (some r) s d K=K (kr r) (s.put d r):=rfl
theorem bC:xu none s d K=False:=rfl
theorem P9(r:V)(s':St):iq (some (r,s')) d k K=K k (s'.put d r):=rfl
theorem aP:iq none d k K=False:=rfl
end
def kC:List Nat→V→V
 | [],v=>v
 | i::l,v=>kC l (frz i v)
theorem adB(τ:Tag→Tag)(ρ:Nat→Nat)(l:List Value):V.mapL τ ρ (l.map .c)=l.map .c:=by
 induction l with
 | nil=>rfl
 | cons x l ih=>simp only[List.map_cons,V.mapL,V.map,ih]
theorem Qa(τ:Tag→Tag)(ρ:Nat→Nat)(v:Value):(fJ v).map τ ρ=fJ v:=by
 cases v<;>first|rfl|simp only[fJ,V.map,adB]
theorem ZT(s:St)(i:Nat)(x:Operand):(s.mapV (frz i)).ev x=frz i (s.ev x):=by
 cases x with
 | tmp t=>rfl
 | const v=>exact (Qa _ _ v).symm
 | global g=>rfl
 | func f=>rfl
theorem vX(ids:List Nat):∀(s:St) (x:Operand),(s.freezeAll ids).ev x=kC ids (s.ev x):=by
 induction ids with
 | nil=>intro s x;rfl
 | cons i l ih=>intro s x;show ((s.mapV (frz i)).freezeAll l).ev x=kC l (frz i (s.ev x));rw[ih,ZT]
def bsF(P:Program)(s:St)(d:Option Nat)(t:TypeId)(n:Nat)(parts:List (Nat × V))(ids:List Nat)(K:Kd→St→Prop):Prop :=
 match ids with
 | []=>False
 | i::l=>iq (eP P (s.freezeAll (i::l)) t n (parts.map fun p=>(p.1,kC (i::l) p.2))) d .z K
def stX(P:Program)(s:St)(t:TypeId)(x y:V):Option (V × St) :=
 match x with
 | .ref b off=>(jB P s t b off y).map fun s'=>(.top,s')
 | .el (.own id _) k xs i off=>(lq P s t id k xs i off y).map fun s'=>(.top,s')
 | _=>none
def stF(P:Program)(s:St)(d:Option Nat)(t:TypeId)(x y:V)(ids:List Nat)(K:Kd→St→Prop):Prop :=
 match ids with
 | []=>False
 | i::l=>iq (stX P (s.freezeAll (i::l)) t (kC (i::l) x) (kC (i::l) y)) d .z K
theorem ZU(P:Program)(s:St)(d:Option Nat)(t:TypeId)(n:Nat)(parts:List (Nat × V))(K:Kd→St→Prop):bsF P s d t n parts [] K=False:=rfl
theorem Io(P:Program)(s:St)(d:Option Nat)(t:TypeId)(n:Nat)(parts:List (Nat × V))(i:Nat)(l:List Nat)(K:Kd→St→Prop):bsF P s d t n parts (i::l) K=iq (eP P (s.freezeAll (i::l)) t n (parts.map fun p=>(p.1,kC (i::l) p.2))) d .z K:=rfl
theorem ZV(P:Program)(s:St)(d:Option Nat)(t:TypeId)(x y:V)(K:Kd→St→Prop):stF P s d t x y [] K=False:=rfl
theorem UW(P:Program)(s:St)(d:Option Nat)(t:TypeId)(x y:V)(i:Nat)(l:List Nat)(K:Kd→St→Prop):stF P s d t x y (i::l) K=iq (stX P (s.freezeAll (i::l)) t (kC (i::l) x) (kC (i::l) y)) d .z K:=rfl
theorem ZW(P:Program)(s:St)(t:TypeId)(id:Nat)(e:TypeId)(k:Nat)(xs:List V)(i off:Nat)(y:V):stX P s t (.el (.own id e) k xs i off) y=(lq P s t id k xs i off y).map fun s'=>(.top,s'):=rfl
theorem UX(v:V):kC [] v=v:=rfl
theorem pF(i:Nat)(l:List Nat)(v:V):kC (i::l) v=kC l (frz i v):=rfl
section
variable (P:Program) [Tb P] (s:St) (d:Option Nat) (ty:TypeId) (pos:String) (af:Array Edge) (g:Option (Nat × Bool)) (K:Kd→St→Prop)
theorem KG(x:Operand):aA P s ⟨d,.move x,ty,pos,af,g⟩ K=K (ka [s.ev x] (s.ev x)) (s.put d (s.ev x)):=by simp only[aA,kqo,dA,xn,kx,qv,rv,xv,zv,Op.operands,List.map_toArray,List.map_cons,List.map_nil,eQ,bK,fE,fF,bC,aP,or_false,false_or]
theorem EK(x:Operand):aA P s ⟨d,.assign x,ty,pos,af,g⟩ K=K (ka [s.ev x] (s.ev x)) (s.put d (s.ev x)):=by simp only[aA,kqo,dA,xn,kx,qv,rv,xv,zv,Op.operands,List.map_toArray,List.map_cons,List.map_nil,eQ,bK,fE,fF,bC,aP,or_false,false_or]
theorem Ip(op:BinOp)(t t2:TypeId)(x y:Operand):aA P s ⟨d,.binOp op t x y t2,ty,pos,af,g⟩ K=kz (xm P op t (s.ev x) (s.ev y) y) s d [s.ev x,s.ev y] K:=by simp only[aA,kqo,dA,kx,qv,rv,xv,zv,Op.operands,List.map_toArray,List.map_cons,List.map_nil,eQ,bK,fE,fF,bC,aP,or_false,false_or]
theorem KH(op:UnOp)(t:TypeId)(x:Operand):aA P s ⟨d,.unOp op t x,ty,pos,af,g⟩ K=kz (unV op (s.ev x)) s d [s.ev x] K:=by simp only[aA,kqo,dA,kx,qv,rv,xv,zv,Op.operands,List.map_toArray,List.map_cons,List.map_nil,eQ,bK,fE,fF,bC,aP,or_false,false_or]
theorem Df(x:Operand)(i:Nat):aA P s ⟨d,.extract x i,ty,pos,af,g⟩ K=kz (exV (s.ev x) i) s d [s.ev x] K:=by simp only[aA,kqo,dA,kx,qv,rv,xv,zv,Op.operands,List.map_toArray,List.map_cons,List.map_nil,eQ,bK,fE,fF,bC,aP,or_false,false_or]
theorem Iq(t:TypeId)(x:Operand)(f:Nat):aA P s ⟨d,.field t x f,ty,pos,af,g⟩ K=kz (wZ P t (s.ev x) f) s d [s.ev x] K:=by simp only[aA,kqo,dA,kx,qv,rv,xv,zv,Op.operands,List.map_toArray,List.map_cons,List.map_nil,eQ,bK,fE,fF,bC,aP,or_false,false_or]
theorem Ir(t:TypeId)(x i:Operand):aA P s ⟨d,.index t x i,ty,pos,af,g⟩ K=kz (ixV P t (s.ev x) (s.ev i)) s d [s.ev x,s.ev i] K:=by simp only[aA,kqo,dA,kx,qv,rv,xv,zv,Op.operands,List.map_toArray,List.map_cons,List.map_nil,eQ,bK,fE,fF,bC,aP,or_false,false_or]
theorem JZ(t:TypeId)(x i:Operand):aA P s ⟨d,.indexAddr t x i,ty,pos,af,g⟩ K=xn ka (iaV P t (s.ev x) (s.ev i)) s d [s.ev x,s.ev i] K:=by simp only[aA,kqo,dA,kx,qv,rv,xv,zv,Op.operands,List.map_toArray,List.map_cons,List.map_nil,eQ,bK,fE,fF,bC,aP,or_false,false_or]
theorem zo(t:TypeId)(x:Operand)(f:Nat):aA P s ⟨d,.fieldAddr t x f,ty,pos,af,g⟩ K=xn ka (faV P t (s.ev x) f) s d [s.ev x] K:=by simp only[aA,kqo,dA,kx,qv,rv,xv,zv,Op.operands,List.map_toArray,List.map_cons,List.map_nil,eQ,bK,fE,fF,bC,aP,or_false,false_or]
theorem Ba(f:FuncId)(fs cs:Array Operand):aA P s ⟨d,.makeFunc (.func f) fs cs,ty,pos,af,g⟩ K=K (kq (fs.toList.map s.ev++cs.toList.map s.ev) (.fn f (fs.toList.map s.ev) (cs.toList.map s.ev))) (s.put d (.fn f (fs.toList.map s.ev) (cs.toList.map s.ev))):=by simp only[aA,kqo,dA,kx,qv,rv,xv,zv,Op.operands,Array.toList_append,List.map_append,List.map_toArray,List.map_cons,List.map_nil,eQ,bK,fE,fF,bC,aP,or_false,false_or]
theorem Iu(t:TypeId)(parts:Array (Nat × Operand)):aA P s ⟨d,.build t parts,ty,pos,af,g⟩ K=kz (uA P t (parts.toList.map fun p=>(p.1,s.ev p.2))) s d ((parts.toList.map fun p=>p.2).map s.ev) K:=by simp only[aA,kqo,dA,kx,qv,rv,xv,zv,Op.operands,Array.toList_map,List.map_toArray,List.map_cons,List.map_nil,eQ,bK,fE,fF,bC,aP,or_false,false_or]
theorem Iw(e:TypeId):aA P s ⟨d,.alloc e,ty,pos,af,g⟩ K=iq (qZ P s e) d .x K:=by simp only[aA,kqo,dA,kx,qv,rv,xv,zv,Op.operands,List.map_toArray,List.map_cons,List.map_nil,eQ,bK,fE,fF,bC,aP,or_false,false_or]
theorem Qb(e:TypeId)(x:Operand):aA P s ⟨d,.box e x,ty,pos,af,g⟩ K=iq (J7 s e (s.ev x)) d .x K:=by simp only[aA,kqo,dA,kx,qv,rv,xv,zv,Op.operands,List.map_toArray,List.map_cons,List.map_nil,eQ,bK,fE,fF,bC,aP,or_false,false_or]
def bsZ(P:Program)[Tb P](s:St)(d:Option Nat)(t:TypeId)(n:Nat)(parts:List (Nat × V))(ids:List Nat)(K:Kd→St→Prop):Prop :=
 match Hr P t with
 | true=>iq (DT P s t n parts) d .z K
 | false=>bsF P s d t n parts ids K
theorem xE(t:TypeId)(n:Nat)(parts:Array (Nat × Operand)):aA P s ⟨d,.buildSlice t n parts,ty,pos,af,g⟩ K=(iq (eP P s t n (parts.toList.map fun p=>(p.1,s.ev p.2))) d .n K∨bsZ P s d t n (parts.toList.map fun p=>(p.1,s.ev p.2)) (V.idsL (parts.toList.map fun p=>s.ev p.2)) K):=by
 simp only[aA,kqo,dA,kx,qv,rv,xv,zv,Op.operands,List.map_toArray,List.map_cons,List.map_nil,eQ,bK,fE,fF,bC,aP,or_false,false_or]
 congr 1
 unfold bsZ
 cases Hr P t with
 | true=>rfl
 | false =>
  simp only
  generalize V.idsL (parts.toList.map fun p=>s.ev p.2)=ids
  cases ids with
  | nil=>rfl
  | cons i l=>simp only[frX,xv,Io,List.map_map,vX];rfl
theorem zq(t:TypeId)(l c:Operand):aA P s ⟨d,.makeSlice t l c,ty,pos,af,g⟩ K=iq (vJ P s t (s.ev l) (s.ev c)) d .n K:=by simp only[aA,kqo,dA,kx,qv,rv,xv,zv,Op.operands,List.map_toArray,List.map_cons,List.map_nil,eQ,bK,fE,fF,bC,aP,or_false,false_or]
def UY(s:St)(d:Option Nat)(c x y:V)(K:Kd→St→Prop):Prop:=match c with | .c (.bool b)=>K (kq [.c (.bool b),x,y] (qH b x y)) (s.put d (qH b x y))|_=>False
theorem KI(c x y:Operand):aA P s ⟨d,.pick c x y,ty,pos,af,g⟩ K=UY s d (s.ev c) (s.ev x) (s.ev y) K:=by
 simp only[aA,kqo,dA,kx,qv,rv,xv,zv,Op.operands,List.map_cons,List.map_nil,bC,aP,or_false,UY]
 generalize s.ev c=v
 cases v with
 | c u=>cases u<;>rfl
 | _=>rfl
def Bc(P:Program)(s:St)(d:Option Nat)(src dst:TypeId)(x:V)(K:Kd→St→Prop):Prop :=
 kz (kW P src dst x) s d [x] K∨xu (jg P s src dst x) s d K∨iq ((jG P src dst x).map fun r=>(r,s)) d .x K∨iq (mZ P s src dst x) d .z K
theorem Dh(src dst:TypeId)(x:Operand):aA P s ⟨d,.convert src dst x,ty,pos,af,g⟩ K=Bc P s d src dst (s.ev x) K:=by simp only[aA,kqo,dA,kx,qv,rv,xv,zv,Op.operands,List.map_cons,List.map_nil,Bc]
def Om(P:Program)(s:St)(d:Option Nat)(t:TypeId)(x:V)(K:Kd→St→Prop):Prop :=
 match x with
 | .ref b off=>xu (lH P s t b off) s d K
 | .el tg k xs i off=>kz ((xs[i]?).bind fun y=>y.cs.bind fun cs=>dY P t cs off) s d [.el tg k xs i off] K
 | _=>False
theorem acP(t:TypeId)(x:Operand):aA P s ⟨d,.load t x,ty,pos,af,g⟩ K=Om P s d t (s.ev x) K:=by
 simp only[aA,kqo,dA,kx,qv,rv,xv,zv,Op.operands,List.map_cons,List.map_nil,aP,or_false,Om]
 generalize s.ev x=v
 cases v<;>simp only[bK,bC,or_false,false_or]
def stZ(P:Program)[Tb P](s:St)(d:Option Nat)(t:TypeId)(id:Nat)(e:TypeId)(k:Nat)(xs:List V)(i off:Nat)(y:V)(K:Kd→St→Prop):Prop :=
 match Tb.nest P e with
 | true=>iq ((tV P s t id e k xs i off y).map fun s'=>(.top,s')) d .z K
 | false=>stF P s d t (.el (.own id e) k xs i off) y y.ids K
def EL(P:Program)[Tb P](s:St)(d:Option Nat)(t:TypeId)(x y:V)(K:Kd→St→Prop):Prop :=
 match x with
 | .ref b off=>iq ((jB P s t b off y).map fun s'=>(.top,s')) d .x K
 | .el (.own id e) k xs i off=>iq ((lq P s t id k xs i off y).map fun s'=>(.top,s')) d (.w id k) K∨stZ P s d t id e k xs i off y K
 | _=>False
theorem Iy(t:TypeId)(x y:Operand):aA P s ⟨d,.store t x y,ty,pos,af,g⟩ K=EL P s d t (s.ev x) (s.ev y) K:=by
 simp only[aA,kqo,dA,kx,qv,rv,xv,zv,bK,bC,aP,or_false,false_or,EL]
 cases hv:s.ev x with
 | el tg k xs i off =>
  cases tg with
  | own id e =>
   simp only
   congr 1
   unfold stZ
   cases Tb.nest P e with
   | true=>rfl
   | false =>
    simp only
    generalize (s.ev y).ids=ids
    cases ids with
    | nil=>rfl
    | cons a l=>simp only[frX,xv,stF,stX,vX,hv];rfl
  | _=>simp only[aP,or_false]
 | _=>simp only[aP,or_false,false_or]
def uM(P:Program)(s:St)(d:Option Nat)(t:TypeId)(x:V)(lo hi:Option V)(l:List V)(K:Kd→St→Prop):Prop :=
 match x with
 | .sl (.own id _) k xs=>if lo.all isC&&hi.all isC then iq (lI P s t id k xs lo hi) d .z K else False
 | .ref b off=>iq (vK P s t b off lo hi) d .z K
 | x=>kz (slV P t x lo hi) s d l K
def afC(s:St)(x:Operand)(lo hi:Option Operand):List V:=s.ev x::((lo.toList++hi.toList).map s.ev)
theorem Iz(t:TypeId)(x:Operand)(lo hi:Option Operand):aA P s ⟨d,.slice t x lo hi none,ty,pos,af,g⟩ K=uM P s d t (s.ev x) (lo.map s.ev) (hi.map s.ev) (afC s x lo hi) K:=by
 have e:(Op.slice t x lo hi none).operands.toList.map s.ev=afC s x lo hi:=by cases lo<;>cases hi<;>rfl
 simp only[aA,kqo,dA,kx,qv,rv,xv,zv,bC,aP,false_or,uM,e]
 generalize s.ev x=v
 cases v with
 | sl tg k xs =>
  cases tg with
  | fz=>simp only[aP,or_false]
  | nn=>simp only[aP,or_false]
  | own id e =>
   simp only[slV,bK,false_or]
   split<;>simp only[aP]
 | ref b off=>simp only[slV,bK,false_or]
 | _=>simp only[aP,or_false]
theorem Qc(x:Operand)(t:TypeId):aA P s ⟨d,.call { callee := .builtin .len,args:=#[x],argTypes:=#[t] },ty,pos,af,g⟩ K=kz (Ej P t (s.ev x)) s d [s.ev x] K:=by
 have e:(Op.call { callee := .builtin .len,args:=#[x],argTypes:=#[t] }).operands.toList.map s.ev=[s.ev x]:=rfl
 simp only[aA,kqo,dA,kx,qv,rv,xv,zv,e,bK,bC,aP,or_false]
theorem Qd(x y:Operand)(ts:Array TypeId):aA P s ⟨d,.call { callee := .builtin .max,args:=#[x,y],argTypes:=ts },ty,pos,af,g⟩ K=kz (nR true (s.ev x) (s.ev y)) s d [s.ev x,s.ev y] K:=by
 have e:(Op.call { callee := .builtin .max,args:=#[x,y],argTypes:=ts }).operands.toList.map s.ev=[s.ev x,s.ev y]:=rfl
 simp only[aA,kqo,dA,kx,qv,rv,xv,zv,e,bK,bC,aP,or_false]
theorem Nh(x:Operand)(ts:Array TypeId):aA P s ⟨d,.call { callee := .builtin .unsafeSliceData,args:=#[x],argTypes:=ts },ty,pos,af,g⟩ K=kz (sdV (s.ev x)) s d [s.ev x] K:=by
 have e:(Op.call { callee := .builtin .unsafeSliceData,args:=#[x],argTypes:=ts }).operands.toList.map s.ev=[s.ev x]:=rfl
 simp only[aA,kqo,dA,kx,qv,rv,xv,zv,e,bK,bC,aP,or_false]
theorem uN(x n:Operand)(pt it:TypeId):aA P s ⟨d,.call { callee := .builtin .unsafeString,args:=#[x,n],argTypes:=#[pt,it] },ty,pos,af,g⟩ K=iq (usV P s pt (s.ev x) (s.ev n)) d .z K:=by
 simp only[aA,kqo,dA,kx,qv,rv,xv,zv,bK,bC,aP,false_or]
theorem Qe(x y:Operand)(ts:Array TypeId):aA P s ⟨d,.call { callee := .builtin .min,args:=#[x,y],argTypes:=ts },ty,pos,af,g⟩ K=kz (nR false (s.ev x) (s.ev y)) s d [s.ev x,s.ev y] K:=by
 have e:(Op.call { callee := .builtin .min,args:=#[x,y],argTypes:=ts }).operands.toList.map s.ev=[s.ev x,s.ev y]:=rfl
 simp only[aA,kqo,dA,kx,qv,rv,xv,zv,e,bK,bC,aP,or_false]
def apZ(P:Program)(s:St)(d:Option Nat)(t t2:TypeId)(x y:V)(K:Kd→St→Prop):Prop :=
 match N8 x y with
 | true=>iq (kD P s t t2 x y) d .z K
 | false=>False
theorem EM(x y:Operand)(t t2:TypeId):aA P s ⟨d,.call { callee := .builtin .append,args:=#[x,y],argTypes:=#[t,t2] },ty,pos,af,g⟩ K=(iq (jP P s t t2 (s.ev x) (s.ev y)) d (xq (s.ev x)) K∨apZ P s d t t2 (s.ev x) (s.ev y) K):=by
 have e1:iq (match N8 (s.ev x) (s.ev y) with|true=>kD P s t t2 (s.ev x) (s.ev y)|false=>none) d .z K=apZ P s d t t2 (s.ev x) (s.ev y) K:=by
  unfold apZ;cases N8 (s.ev x) (s.ev y)<;>rfl
 rw[←e1]
 simp only[aA,kqo,dA,kx,qv,rv,xv,zv,Op.operands,List.map_toArray,List.map_cons,List.map_nil,eQ,bK,fE,fF,bC,aP,or_false,false_or]
 rfl
def UZ(s:St)(d:Option Nat)(x:V)(K:Kd→St→Prop):Prop:=match x with | .ref b o=>K (kq [.ref b o] (.ref b o)) (s.put d (.ref b o)) | .el t k xs i o=>K (kq [.el t k xs i o] (.el t k xs i o)) (s.put d (.el t k xs i o)) | .fn f a b=>K (kq [.fn f a b] (.fn f a b)) (s.put d (.fn f a b))|_=>False
theorem Bd(x:Operand):aA P s ⟨d,.nilCheck x,ty,pos,af,g⟩ K=UZ s d (s.ev x) K:=by
 simp only[aA,kqo,dA,kx,qv,rv,xv,zv,Op.operands,List.map_cons,List.map_nil,bC,aP,or_false,UZ]
 generalize s.ev x=v
 cases v<;>rfl
theorem KL(f:Operand)(args:Array Operand)(ts:Array TypeId):aA P s ⟨d,.call { callee := .value f,args:=args,argTypes:=ts },ty,pos,af,g⟩ K=bU P (s.ev f) args.toList d s K:=rfl
end
section
variable (D:Dw) (P:Program) [Tb P]
def l7(y:Code)(Q:Exit→St→Prop):Exit→St→Prop:=vM (fun s'=>wpS D P y Q s') Q
def DY(dsts:List (Option Nat))(Q:Exit→St→Prop)(rest:List Oper)(_:Kd):St→Prop:=wpL P dsts (Q .normal) rest
def pG(dsts:List (Option Nat))(Q:Exit→St→Prop)(ops:List Oper)(s:St):Prop:=wpL P dsts (Q .normal) ops s
def aB(v:V)(x y:Code)(Q:Exit→St→Prop)(s:St):Prop:=Hw v (wpS D P x Q s) (wpS D P y Q s)
def Be(x:Code)(Q:Exit→St→Prop)(s:St):Prop:=acV (fun Q s=>wpS D P x Q s) Q s
def ax(v:Option V)(want:Bool)(dsts:List (Option Nat))(Q:Exit→St→Prop)(o:Oper)(rest:List Oper)(s:St):Prop :=
 match v with|some (.c (.bool b))=>if b=want then aA P s o (DY P dsts Q rest) else wpL P dsts (Q .normal) rest (s.put o.dst (.c undef))|some (.c _)=>wpL P dsts (Q .normal) rest (s.put o.dst (.c undef))|_=>False
def oV(dsts:List (Option Nat))(ops:List Oper)(Q:Exit→St→Prop)(rest:List Oper)(ks:List Kd)(s:St):Prop:=nV P dsts ops (Q .normal) rest ks s
def Qg(dsts:List (Option Nat))(ops:List Oper)(Q:Exit→St→Prop)(rest:List Oper)(ks:List Kd)(κ:Kd)(s:St):Prop:=nV P dsts ops (Q .normal) rest (κ::ks) s
def aU(v:Option V)(want:Bool)(dsts:List (Option Nat))(ops:List Oper)(Q:Exit→St→Prop)(o:Oper)(rest:List Oper)(ks:List Kd)(s:St):Prop :=
 match v with|some (.c (.bool b))=>if b=want then aA P s o (Qg P dsts ops Q rest ks) else nV P dsts ops (Q .normal) rest (.p::ks) (s.put o.dst (.c undef))|some (.c _)=>nV P dsts ops (Q .normal) rest (.p::ks) (s.put o.dst (.c undef))|_=>False
theorem U0(Q:Exit→St→Prop)(s:St):wpS D P .skip Q s=Q .normal s:=rfl
theorem ZX(Q:Exit→St→Prop)(s:St):wpS D P .ret Q s=Q .ret s:=rfl
theorem U1(id:Nat)(Q:Exit→St→Prop)(s:St):wpS D P (.exit id) Q s=Q (.exit id) s:=rfl
theorem Qh(l:Nat)(Q:Exit→St→Prop)(s:St):wpS D P (.label l) Q s=Q .normal s:=rfl
theorem ZY(x y:Code)(Q:Exit→St→Prop)(s:St):wpS (dC []) P (.seq x y) Q s=wpS (dC []) P x (l7 (dC []) P y Q) s:=by
 have:ny (dC []).cuts (jv y)=false:=by cases h:jv y<;>rfl
 simp only[wpS,this,l7,cond_false]
def ag2(cuts:List Nat)(x y:Code)(Q:Exit→St→Prop)(s:St):Prop:=wpS (dC cuts) P (.seq x y) Q s
theorem U2(n:Nat)(cuts:List Nat)(x y:Code)(Q:Exit→St→Prop)(s:St):wpS (dC (n::cuts)) P (.seq x y) Q s=bif ny (n::cuts) (jv y) then ag2 P (n::cuts) x y Q s else wpS (dC (n::cuts)) P x (l7 (dC (n::cuts)) P y Q) s:=by
 cases h:ny (n::cuts) (jv y) with
 | true=>rfl
 | false =>
  have h':ny (dC (n::cuts)).cuts (jv y)=false:=h
  simp only[wpS,h',l7,cond_false]
theorem IA(id:Nat)(ops:Array Oper)(d:Bool):jv (.region id ops d)=some id:=rfl
theorem U3(x y:Code):jv (.seq x y)=jv x:=rfl
theorem KN(id:Nat)(x:Code):jv (.block id x)=jv x:=rfl
theorem Qi(x:Code):jv (.loop x)=jv x:=rfl
theorem Qj(c:Operand)(x y:Code):jv (.cond c x y)=none:=rfl
theorem Qk:jv .skip=none:=rfl
theorem U4:jv .ret=none:=rfl
theorem Ql(id:Nat):jv (.exit id)=none:=rfl
theorem KO(id:Nat):jv (.label id)=none:=rfl
theorem Qm(id:Nat):jv (.goto id)=none:=rfl
theorem KP(cuts:List Nat)(n:Nat):ny cuts (some n)=cuts.contains n:=rfl
theorem KQ(cuts:List Nat):ny cuts none=false:=rfl
def ZZ{ι:Type}(S:ι→St)(Inv:ι→Prop)(Q:Exit→St→Prop):Exit→St→Prop:=vM (fun s=>∃i,Inv i∧Weak s (S i)) Q
theorem U5{ι:Type}(S:ι→St)(Inv:ι→Prop)(Q:Exit→St→Prop)(s:St):ZZ S Inv Q .ret s=Q .ret s:=rfl
theorem Qn{ι:Type}(S:ι→St)(Inv:ι→Prop)(Q:Exit→St→Prop)(id:Nat)(s:St):ZZ S Inv Q (.exit id) s=Q (.exit id) s:=rfl
theorem Qo{ι:Type}(S:ι→St)(Inv:ι→Prop)(Q:Exit→St→Prop)(id:Nat)(s:St):ZZ S Inv Q (.goto id) s=Q (.goto id) s:=rfl
def afD{ι:Type}(S:ι→St)(Inv:ι→Prop)(s:St):Prop:=∃i,Inv i∧Weak s (S i)
theorem IB{ι:Type}(S:ι→St)(Inv:ι→Prop)(Q:Exit→St→Prop)(s:St):ZZ S Inv Q .normal s=afD S Inv s:=rfl
theorem U6(c:Operand)(x y:Code)(Q:Exit→St→Prop)(s:St):wpS D P (.cond c x y) Q s=aB D P (s.ev c) x y Q s:=rfl
theorem Qp(id:Nat)(x:Code)(Q:Exit→St→Prop)(s:St):wpS D P (.block id x) Q s=wpS D P x (inB id Q) s:=rfl
theorem U7(x:Code)(Q:Exit→St→Prop)(s:St):wpS D P (.loop x) Q s=Be D P x Q s:=rfl
theorem KR[Plain D](id:Nat)(l:List Oper)(Q:Exit→St→Prop)(s:St):wpS D P (.region id l.toArray false) Q s=pG P (l.map (·.dst)) Q l s:=by
 have h:D.ex.contains id=false:=by rw[Plain.ex (D:=D)];rfl
 simp only[wpS,pG,Bool.false_eq_true,if_false,h,cond_false]
theorem U8(cuts:List Nat)(id:Nat)(l:List Oper)(Q:Exit→St→Prop)(s:St):wpS (dC cuts) P (.region id l.toArray true) Q s=oV P (l.map (·.dst)) l Q l [] s:=by
 simp only[wpS,if_true,oV,yQ,dC]
theorem EN(y:Code)(Q:Exit→St→Prop)(s:St):l7 D P y Q .normal s=wpS D P y Q s:=rfl
theorem Qq(y:Code)(Q:Exit→St→Prop)(s:St):l7 D P y Q .ret s=Q .ret s:=rfl
theorem KT(id:Nat)(y:Code)(Q:Exit→St→Prop)(s:St):l7 D P y Q (.exit id) s=Q (.exit id) s:=rfl
theorem KU(id:Nat)(Q:Exit→St→Prop)(s:St):inB id Q .normal s=Q .normal s:=rfl
theorem Z4(id:Nat)(Q:Exit→St→Prop)(s:St):inB id Q .ret s=Q .ret s:=rfl
theorem U9(id id':Nat)(Q:Exit→St→Prop)(s:St):inB id Q (.exit id') s=if id'=id then Q .normal s else Q (.exit id') s:=rfl
theorem EO(k:St→Prop)(Q:Exit→St→Prop)(s:St):vM k Q .normal s=k s:=rfl
theorem Qr(k:St→Prop)(Q:Exit→St→Prop)(s:St):vM k Q .ret s=Q .ret s:=rfl
theorem KW(id:Nat)(k:St→Prop)(Q:Exit→St→Prop)(s:St):vM k Q (.exit id) s=Q (.exit id) s:=rfl
theorem Bf(x y:Code)(Q:Exit→St→Prop)(s:St):aB D P (.c (.bool true)) x y Q s=wpS D P x Q s:=by simp [aB,Hw]
theorem yU(x y:Code)(Q:Exit→St→Prop)(s:St):aB D P (.c (.bool false)) x y Q s=wpS D P y Q s:=by simp [aB,Hw]
theorem IC{b:Bool}{x y:Code}{Q:Exit→St→Prop}{s:St}(ht:b=true→wpS D P x Q s)(hf:b=false→wpS D P y Q s):aB D P (.c (.bool b)) x y Q s:=by
 cases b
 ·rw[yU];exact hf rfl
 ·rw[Bf];exact ht rfl
theorem Va(dsts:List (Option Nat))(Q:Exit→St→Prop)(s:St):pG P dsts Q [] s=Q .normal s:=rfl
theorem KX(dsts:List (Option Nat))(Q:Exit→St→Prop)(s:St)(d:Option Nat)(op:Op)(ty:TypeId)(pos:String)(af:Array Edge)(rest:List Oper) :
  pG P dsts Q (⟨d,op,ty,pos,af,none⟩::rest) s=aA P s ⟨d,op,ty, "",#[],none⟩ (DY P dsts Q rest):=by
 simp only[pG,wpL]
 rfl
theorem KY(dsts:List (Option Nat))(Q:Exit→St→Prop)(s:St)(d:Option Nat)(op:Op)(ty:TypeId)(pos:String)(af:Array Edge)(j:Nat)(want:Bool)(rest:List Oper) :
  pG P dsts Q (⟨d,op,ty,pos,af,some (j,want)⟩::rest) s=ax P (gq s dsts j) want dsts Q ⟨d,op,ty, "",#[],none⟩ rest s:=by
 simp only[pG,wpL,ax]
 rfl
theorem Vb(dsts:List (Option Nat))(Q:Exit→St→Prop)(rest:List Oper)(κ:Kd)(s:St):DY P dsts Q rest κ s=pG P dsts Q rest s:=rfl
theorem KZ(b:Bool)(dsts:List (Option Nat))(Q:Exit→St→Prop)(o:Oper)(rest:List Oper)(s:St):ax P (some (.c (.bool b))) b dsts Q o rest s=aA P s o (DY P dsts Q rest):=by simp [ax]
theorem Qs(dsts:List (Option Nat))(Q:Exit→St→Prop)(o:Oper)(rest:List Oper)(s:St):ax P (some (.c (.bool true))) false dsts Q o rest s=pG P dsts Q rest (s.put o.dst (.c undef)):=by simp [ax,pG]
theorem Qu(dsts:List (Option Nat))(Q:Exit→St→Prop)(o:Oper)(rest:List Oper)(s:St):ax P (some (.c (.bool false))) true dsts Q o rest s=pG P dsts Q rest (s.put o.dst (.c undef)):=by simp [ax,pG]
theorem Qv(want:Bool)(dsts:List (Option Nat))(Q:Exit→St→Prop)(o:Oper)(rest:List Oper)(s:St):ax P (some (.c undef)) want dsts Q o rest s=pG P dsts Q rest (s.put o.dst (.c undef)):=rfl
theorem Z5(want:Bool)(dsts:List (Option Nat))(ops:List Oper)(Q:Exit→St→Prop)(o:Oper)(rest:List Oper)(ks:List Kd)(s:St):aU P (some (.c undef)) want dsts ops Q o rest ks s=oV P dsts ops Q rest (.p::ks) (s.put o.dst (.c undef)):=rfl
theorem Vd(dsts:List (Option Nat))(ops:List Oper)(Q:Exit→St→Prop)(ks:List Kd)(s:St):oV P dsts ops Q [] ks s=(xC ops ks.reverse=true∧Q .normal s):=rfl
theorem La(dsts:List (Option Nat))(ops:List Oper)(Q:Exit→St→Prop)(ks:List Kd)(s:St)(d:Option Nat)(op:Op)(ty:TypeId)(pos:String)(af:Array Edge)(rest:List Oper) :
  oV P dsts ops Q (⟨d,op,ty,pos,af,none⟩::rest) ks s=aA P s ⟨d,op,ty, "",#[],none⟩ (Qg P dsts ops Q rest ks):=by
 simp only[oV,nV]
 rfl
theorem Lc(dsts:List (Option Nat))(ops:List Oper)(Q:Exit→St→Prop)(ks:List Kd)(s:St)(d:Option Nat)(op:Op)(ty:TypeId)(pos:String)(af:Array Edge)(j:Nat)(want:Bool)(rest:List Oper) :
  oV P dsts ops Q (⟨d,op,ty,pos,af,some (j,want)⟩::rest) ks s=aU P (gq s dsts j) want dsts ops Q ⟨d,op,ty, "",#[],none⟩ rest ks s:=by
 simp only[oV,nV,aU]
 rfl
theorem Z7(dsts:List (Option Nat))(ops:List Oper)(Q:Exit→St→Prop)(rest:List Oper)(ks:List Kd)(κ:Kd)(s:St):Qg P dsts ops Q rest ks κ s=oV P dsts ops Q rest (κ::ks) s:=rfl
theorem Ve(b:Bool)(dsts:List (Option Nat))(ops:List Oper)(Q:Exit→St→Prop)(o:Oper)(rest:List Oper)(ks:List Kd)(s:St):aU P (some (.c (.bool b))) b dsts ops Q o rest ks s=aA P s o (Qg P dsts ops Q rest ks):=by simp [aU]
theorem Z8(dsts:List (Option Nat))(ops:List Oper)(Q:Exit→St→Prop)(o:Oper)(rest:List Oper)(ks:List Kd)(s:St):aU P (some (.c (.bool true))) false dsts ops Q o rest ks s=oV P dsts ops Q rest (.p::ks) (s.put o.dst (.c undef)):=by simp [aU,oV]
theorem Z9(dsts:List (Option Nat))(ops:List Oper)(Q:Exit→St→Prop)(o:Oper)(rest:List Oper)(ks:List Kd)(s:St):aU P (some (.c (.bool false))) true dsts ops Q o rest ks s=oV P dsts ops Q rest (.p::ks) (s.put o.dst (.c undef)):=by simp [aU,oV]
theorem Ld{b want:Bool}{dsts:List (Option Nat)}{ops:List Oper}{Q:Exit→St→Prop}{o:Oper}{rest:List Oper}{ks:List Kd}{s:St}(ht:b=want→aA P s o (Qg P dsts ops Q rest ks))(hf:b = !want→oV P dsts ops Q rest (.p::ks) (s.put o.dst (.c undef))) :
  aU P (some (.c (.bool b))) want dsts ops Q o rest ks s:=by
 simp only[aU]
 split
 ·exact ht ‹_›
 ·exact hf (by cases b<;>cases want<;>simp_all)
theorem EP{b want:Bool}{dsts:List (Option Nat)}{Q:Exit→St→Prop}{o:Oper}{rest:List Oper}{s:St}(ht:b=want→aA P s o (DY P dsts Q rest))(hf:b = !want→pG P dsts Q rest (s.put o.dst (.c undef))) :
  ax P (some (.c (.bool b))) want dsts Q o rest s:=by
 simp only[ax]
 split
 ·exact ht ‹_›
 ·exact hf (by cases b<;>cases want<;>simp_all)
theorem Qw(e:Nat→V)(b:Bxx)(n:Nat)(h:Nat→V)(dsts:List (Option Nat))(j:Nat):gq ⟨e,b,n,h⟩ dsts j=match dsts[j]? with|some (some d)=>some (e d)|_=>none:=rfl
end
section
variable (P:Program) (t:TypeId) (k:IntKind) (a b:Int)
theorem Vf:eX P .add t (.c (.int k a)) (.c (.int k b))=some (.c (.int k (k.wrap (a+b)))):=by simp [eX,qR]
theorem Vg:eX P .sub t (.c (.int k a)) (.c (.int k b))=some (.c (.int k (k.wrap (a-b)))):=by simp [eX,qR]
theorem Vh:eX P .mul t (.c (.int k a)) (.c (.int k b))=some (.c (.int k (k.wrap (a*b)))):=by simp [eX,qR]
theorem Vj:eX P .quo t (.c (.int k a)) (.c (.int k b))=if b=0 then none else some (.c (.int k (k.wrap (a.tdiv b)))):=by simp [eX,qR];split<;>rfl
theorem akf:eX P .rem t (.c (.int k a)) (.c (.int k b))=if b=0 then none else some (.c (.int k (a.tmod b))):=by simp [eX,qR];split<;>rfl
theorem Vl:eX P .and t (.c (.int k a)) (.c (.int k b))=some (.c (.int k (bits .and k a b))):=by simp [eX,qR]
theorem aab:eX P .or t (.c (.int k a)) (.c (.int k b))=some (.c (.int k (bits .or k a b))):=by simp [eX,qR]
theorem Vm:eX P .xor t (.c (.int k a)) (.c (.int k b))=some (.c (.int k (bits .xor k a b))):=by simp [eX,qR]
theorem IE:eX P .andNot t (.c (.int k a)) (.c (.int k b))=some (.c (.int k (bits .andNot k a b))):=by simp [eX,qR]
theorem Vo:eX P .eql t (.c (.int k a)) (.c (.int k b))=some (.c (.bool (a == b))):=by simp [eX,qR]
theorem Vp:eX P .neq t (.c (.int k a)) (.c (.int k b))=some (.c (.bool (a != b))):=by simp [eX,qR]
theorem Vq:eX P .lss t (.c (.int k a)) (.c (.int k b))=some (.c (.bool (decide (a<b)))):=by simp [eX,qR]
theorem Vr:eX P .leq t (.c (.int k a)) (.c (.int k b))=some (.c (.bool (decide (a≤b)))):=by simp [eX,qR]
theorem Vs:eX P .gtr t (.c (.int k a)) (.c (.int k b))=some (.c (.bool (decide (b<a)))):=by simp [eX,qR]
theorem Vt:eX P .geq t (.c (.int k a)) (.c (.int k b))=some (.c (.bool (decide (b≤a)))):=by simp [eX,qR]
theorem Vu(k2:IntKind):eX P .shl t (.c (.int k a)) (.c (.int k2 b))=if b<0 then none else some (.c (.int k (k.wrap (a*2^min b.toNat k.bits)))):=rfl
theorem Vw(k2:IntKind):eX P .shr t (.c (.int k a)) (.c (.int k2 b))=if b<0 then none else some (.c (.int k (a.fdiv (2^min b.toNat k.bits)))):=rfl
theorem Vx(x y:Bool):eX P .eql t (.c (.bool x)) (.c (.bool y))=if lG P t=true then some (.c (.bool (x == y))) else none:=rfl
theorem Vy(x y:Bool):eX P .neq t (.c (.bool x)) (.c (.bool y))=if lG P t=true then some (.c (.bool (!(x == y)))) else none:=rfl
theorem Vz(x y:ByteArray):eX P .eql t (.c (.string x)) (.c (.string y))=some (.c (.bool (decide (x=y)))):=rfl
theorem VA(x y:ByteArray):eX P .neq t (.c (.string x)) (.c (.string y))=some (.c (.bool (!decide (x=y)))):=rfl
theorem Qx(x y:ByteArray):eX P .lss t (.c (.string x)) (.c (.string y))=some (.c (.bool (Op.bytesLess x.toList y.toList))):=rfl
theorem Qy(x y:ByteArray):eX P .leq t (.c (.string x)) (.c (.string y))=some (.c (.bool (Op.bytesLess x.toList y.toList||decide (x=y)))):=rfl
theorem Qz(x y:ByteArray):eX P .gtr t (.c (.string x)) (.c (.string y))=some (.c (.bool (!(Op.bytesLess x.toList y.toList||decide (x=y))))):=rfl
theorem QA(x y:ByteArray):eX P .geq t (.c (.string x)) (.c (.string y))=some (.c (.bool (!Op.bytesLess x.toList y.toList))):=rfl
theorem IG(c x y:Bool):qH c (.c (.bool x)) (.c (.bool y)) = .c (.bool (bif c then x else y)):=rfl
theorem Lh(x y:V):qH true x y=x:=by unfold qH;split<;>rfl
theorem II(x y:V):qH false x y=y:=by unfold qH;split<;>rfl
theorem VB(s:St)(d:Option Nat)(c:Bool)(x y:V)(K:Kd→St→Prop):UY s d (.c (.bool c)) x y K=K (kq [.c (.bool c),x,y] (qH c x y)) (s.put d (qH c x y)):=rfl
end
end Go.Pg
end
