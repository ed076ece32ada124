/-
  Texts of this claim, merged; own names are short.
-/
import Derived.Test.YtjiolbcdfgclaaaGreatDoorWAF
import Derived.Test.YtjiolbcdfgclaaaGreatDoorWAD
import Derived.Handy
import Derived.KernelRfl
import Derived.IntWalk
set_option linter.unusedVariables false
set_option linter.unusedSimpArgs false
set_option linter.unusedSectionVars false
set_option linter.defProp false
set_option maxRecDepth 100000
set_option maxHeartbeats 8000000
namespace Go.Pg
open Go
def Bg{α:Type}(e h:Nat→α):Nat→α:=fun t=>if t%2=0 then e (t / 2) else h (t / 2)
def unE{α:Type}(f:Nat→α):Nat→α:=fun t=>f (2*t)
def unH{α:Type}(f:Nat→α):Nat→α:=fun t=>f (2*t+1)
theorem dJ{α:Type}(e h:Nat→α):unE (Bg e h)=e:=by
 funext t
 simp only[unE,Bg]
 rw[if_pos (by omega),show 2*t / 2=t by omega]
theorem dK{α:Type}(e h:Nat→α):unH (Bg e h)=h:=by
 funext t
 simp only[unH,Bg]
 rw[if_neg (by omega),show (2*t+1) / 2=t by omega]
def XB(args:List V)(s:St):St:={ env:=Fg args 0,bx:=s.bx,nid:=s.nid,hd:=Bg s.env s.hd }
def amJ(s:St):St:={ env:=unE s.hd,bx:=s.bx,nid:=s.nid,hd:=unH s.hd }
def akE(a b:St):Prop:=a.env=b.env∧a.hd=b.hd∧a.bx=b.bx∧a.nid≤b.nid
def Nv(P:Program)(rs:List ResultVar)(s':St)(r:V)(s:St):Prop:=pJ P s rs=some r∧akE (amJ s) s'
def XC(P:Program)(rs:List ResultVar)(s':St)(r:V):Exit→St→Prop:=fun e s =>
 match e with
 | .normal | .ret=>Nv P rs s' r s
 | _=>False
theorem vN(P:Program)(s:St):pJ P s []=some (.tup []):=rfl
theorem AV{P:Program}[Tb P]{D:Dw}(hD:mZ P D){f:FuncId}{fn:Func}{c:Code}{rs:List ResultVar}{args:List V}{r:V}{s s':St}(hf:P.funcs[f]?=some fn)(hb:fn.body=some c)(hrs:fn.results=rs.toArray)(hn:(fn.name == "runtime.NumGoroutine")=false)
  (hfit:xK fn.ntmps c=true) (hlen:args.length≤fn.ntmps) (h:wpS D P c (XC P rs s' r) (XB args s)):GoodZ P f args s s' r:=by
 intro C L a w cargs hT S hargs
 refine .inl ⟨by simp [zA,hf,hb,hn], ?_⟩
 let C':Cx:={ n:=fn.ntmps,A0:=C.A0,Wr:=C.Wr,w0:=C.w0,hid:=Bg (fun t=>a.tmps.getD t undef) C.hid }
 have hl:=hargs.length
 have W:=S.wf
 have S1:Sim C' (XB args s) L { tmps:=cargs.toArray++Array.replicate (fn.ntmps-cargs.toArray.size) undef,defers:=[] } w:=by
  refine⟨rfl,by simp [C'];omega,fun t => ?_,fun t => ?_,S.box,⟨W.nidO,W.nidB,W.own,W.boxW,W.injO,W.injB,W.dis,W.old,W.frz⟩,S.kp⟩
  ·have:=FI args cargs 0 (List.replicate (fn.ntmps-cargs.length) undef) hargs [] rfl t
   have e:(cargs++List.replicate (fn.ntmps-cargs.length) undef).toArray=cargs.toArray++Array.replicate (fn.ntmps-cargs.toArray.size) undef:=by
    apply Array.ext';simp
   rw[List.nil_append,e] at this
   exact this
  ·show Rep L w (Bg s.env s.hd t) (Bg (fun t=>a.tmps.getD t undef) C.hid t)
   unfold Bg
   split
   ·exact S.env _
   ·exact S.hid _
 refine calls_of_wp hf hb (Code.wp_mono ?_ (FH (C:=C') hD hT c h hfit S1))
 rintro e a' w' ⟨s2,L2,hq,S2⟩
 have fin:Nv P rs s' r s2→a'.defers=[]∧∃v,(results fn a'.tmps).run P w' = .ok v w'∧∃u L',Ending.returned v = .returned u∧Sim C s' L' a w'∧Rep L' w' r u:=by
  rintro⟨h1,k1,k2,k3,k4⟩
  obtain⟨u,h3,h4⟩:=AO hrs h1 S2
  refine⟨S2.defers,u,h3,u,L2,rfl, ?_,h4⟩
  have W2:=S2.wf
  obtain⟨e1,b1,n1,d1⟩:=s'
  simp only at k1 k2 k3 k4
  subst k1;subst k2;subst k3
  refine⟨S.defers,S.size,fun t => ?_,fun t => ?_,S2.box,⟨fun i g h=>Nat.lt_of_lt_of_le (W2.nidO i g h) k4,fun i g h=>Nat.lt_of_lt_of_le (W2.nidB i g h) k4,W2.own,W2.boxW,W2.injO,W2.injB,W2.dis,W2.old,W2.frz⟩,S2.kp⟩
  ·have h5:=S2.hid (2*t)
   have e:C'.hid (2*t)=a.tmps.getD t undef:=congrFun (dJ (fun t=>a.tmps.getD t undef) C.hid) t
   rw[e] at h5
   exact h5
  ·have h5:=S2.hid (2*t+1)
   have e:C'.hid (2*t+1)=C.hid t:=congrFun (dK (fun t=>a.tmps.getD t undef) C.hid) t
   rw[e] at h5
   exact h5
 cases e with
 | normal=>exact fin hq
 | ret=>exact fin hq
 | _=>exact hq.elim
def GoodX(P:Program)(g:FuncId)(args:List V)(r:V):Prop :=
 ∀(L:Lay) (w:World) (cargs:List Value),Reps L w args cargs→∃u,(callFunc g cargs.toArray).run P w = .ok (.value u) w∧Rep L w r u
theorem GoodX.z{P:Program}[Tb P]{g:FuncId}{args:List V}{r:V}(h:GoodX P g args r)(s:St):GoodZ P g args s s r:=by
 intro C L a w cargs _ S hargs
 obtain⟨u,h1,h2⟩:=h L w cargs hargs
 exact .inr ⟨u,w,L,h1,S,h2⟩
end Go.Pg
section
namespace Go.Pg
open Go
theorem ahE(s:St)(t:Nat):s.ev (.tmp t)=s.env t:=rfl
theorem XD(s:St)(v:Value):s.ev (.const v)=iJ v:=rfl
theorem ade(s:St)(f:FuncId):s.ev (.func f) = .fn f [] []:=rfl
theorem TG(s:St)(g:Nat):s.ev (.global g) = .c (.pointer (some ⟨g,0,none⟩)):=rfl
theorem ahF(e:Nat→V)(b:Nat→Option (TypeId × List V))(n d:Nat)(h:Nat→V)(v:V):St.put ⟨e,b,n,h⟩ (some d) v=⟨upd e d v,b,n,h⟩:=rfl
theorem adf{α:Type}(f:Nat→α)(d:Nat)(v:α):upd f d v d=v:=by simp [upd]
section
variable (s:St) (d:Option Nat) (l:List V) (k:Kd) (K:Kd→St→Prop)
theorem eQ(r:V):oM (some r) s d l K=K (kq l r) (s.put d r):=rfl
theorem bU:oM none s d l K=False:=rfl
theorem fM(f:List V→V→Kd)(r:V):xI f (some r) s d l K=K (f l r) (s.put d r):=rfl
theorem fO(f:List V→V→Kd):xI f none s d l K=False:=rfl
theorem TI(r:V):xJ (some r) s d K=K (kr r) (s.put d r):=rfl
theorem bG:xJ none s d K=False:=rfl
theorem FP(r:V)(s':St):jV (some (r,s')) d k K=K k (s'.put d r):=rfl
theorem aF:jV none d k K=False:=rfl
end
def Bh:List Nat→V→V
 | [],v=>v
 | i::l,v=>Bh l (frz i v)
theorem ahG(τ:Tag→Tag)(ρ:Nat→Nat)(l:List Value):V.mapL τ ρ (l.map .c)=l.map .c:=by
 induction l with
 | nil=>rfl
 | cons x l ih=>simp only[List.map_cons,V.mapL,V.map,ih]
theorem TJ(τ:Tag→Tag)(ρ:Nat→Nat)(v:Value):(iJ v).map τ ρ=iJ v:=by
 cases v<;>first|rfl|simp only[iJ,V.map,ahG]
theorem adg(s:St)(i:Nat)(x:Operand):(s.mapV (frz i)).ev x=frz i (s.ev x):=by
 cases x with
 | tmp t=>rfl
 | const v=>exact (TJ _ _ v).symm
 | global g=>rfl
 | func f=>rfl
theorem xX(ids:List Nat):∀(s:St) (x:Operand),(s.freezeAll ids).ev x=Bh ids (s.ev x):=by
 induction ids with
 | nil=>intro s x;rfl
 | cons i l ih=>intro s x;show ((s.mapV (frz i)).freezeAll l).ev x=Bh l (frz i (s.ev x));rw[ih,adg]
def bsF(P:Program)(s:St)(d:Option Nat)(t:TypeId)(n:Nat)(parts:List (Nat × V))(ids:List Nat)(K:Kd→St→Prop):Prop :=
 match ids with
 | []=>False
 | i::l=>jV (bV P (s.freezeAll (i::l)) t n (parts.map fun p=>(p.1,Bh (i::l) p.2))) d .z K
def stX(P:Program)(s:St)(t:TypeId)(x y:V):Option (V × St) :=
 match x with
 | .ref b off=>(lZ P s t b off y).map fun s'=>(.top,s')
 | .el (.own id _) k xs i off=>(mY P s t id k xs i off y).map fun s'=>(.top,s')
 | _=>none
def stF(P:Program)(s:St)(d:Option Nat)(t:TypeId)(x y:V)(ids:List Nat)(K:Kd→St→Prop):Prop :=
 match ids with
 | []=>False
 | i::l=>jV (stX P (s.freezeAll (i::l)) t (Bh (i::l) x) (Bh (i::l) y)) d .z K
theorem adh(P:Program)(s:St)(d:Option Nat)(t:TypeId)(n:Nat)(parts:List (Nat × V))(K:Kd→St→Prop):bsF P s d t n parts [] K=False:=rfl
theorem JK(P:Program)(s:St)(d:Option Nat)(t:TypeId)(n:Nat)(parts:List (Nat × V))(i:Nat)(l:List Nat)(K:Kd→St→Prop):bsF P s d t n parts (i::l) K=jV (bV P (s.freezeAll (i::l)) t n (parts.map fun p=>(p.1,Bh (i::l) p.2))) d .z K:=rfl
theorem adi(P:Program)(s:St)(d:Option Nat)(t:TypeId)(x y:V)(K:Kd→St→Prop):stF P s d t x y [] K=False:=rfl
theorem XE(P:Program)(s:St)(d:Option Nat)(t:TypeId)(x y:V)(i:Nat)(l:List Nat)(K:Kd→St→Prop):stF P s d t x y (i::l) K=jV (stX P (s.freezeAll (i::l)) t (Bh (i::l) x) (Bh (i::l) y)) d .z K:=rfl
theorem adk(P:Program)(s:St)(t:TypeId)(id:Nat)(e:TypeId)(k:Nat)(xs:List V)(i off:Nat)(y:V):stX P s t (.el (.own id e) k xs i off) y=(mY P s t id k xs i off y).map fun s'=>(.top,s'):=rfl
theorem XF(v:V):Bh [] v=v:=rfl
theorem TK(i:Nat)(l:List Nat)(v:V):Bh (i::l) v=Bh l (frz i v):=rfl
section
variable (P:Program) [Tb P] (s:St) (d:Option Nat) (ty:TypeId) (pos:String) (af:Array Edge) (g:Option (Nat × Bool)) (K:Kd→St→Prop)
theorem Nw(x:Operand):az P s ⟨d,.move x,ty,pos,af,g⟩ K=K (ka [s.ev x] (s.ev x)) (s.put d (s.ev x)):=by simp only[az,kqo,iI,xI,kx,qv,rv,xv,zv,Op.operands,List.map_toArray,List.map_cons,List.map_nil,eQ,bU,fM,fO,bG,aF,or_false,false_or]
theorem Hf(x:Operand):az P s ⟨d,.assign x,ty,pos,af,g⟩ K=K (ka [s.ev x] (s.ev x)) (s.put d (s.ev x)):=by simp only[az,kqo,iI,xI,kx,qv,rv,xv,zv,Op.operands,List.map_toArray,List.map_cons,List.map_nil,eQ,bU,fM,fO,bG,aF,or_false,false_or]
theorem JL(op:BinOp)(t t2:TypeId)(x y:Operand):az P s ⟨d,.binOp op t x y t2,ty,pos,af,g⟩ K=oM (zB P op t (s.ev x) (s.ev y) y) s d [s.ev x,s.ev y] K:=by simp only[az,kqo,iI,kx,qv,rv,xv,zv,Op.operands,List.map_toArray,List.map_cons,List.map_nil,eQ,bU,fM,fO,bG,aF,or_false,false_or]
theorem Ny(op:UnOp)(t:TypeId)(x:Operand):az P s ⟨d,.unOp op t x,ty,pos,af,g⟩ K=oM (unV op (s.ev x)) s d [s.ev x] K:=by simp only[az,kqo,iI,kx,qv,rv,xv,zv,Op.operands,List.map_toArray,List.map_cons,List.map_nil,eQ,bU,fM,fO,bG,aF,or_false,false_or]
theorem lw(t:TypeId)(x:Operand):az P s ⟨d,.makeInterface t x,ty,pos,af,g⟩ K=oM (miV P t (s.ev x)) s d [s.ev x] K:=by simp only[az,kqo,iI,kx,qv,rv,xv,zv,Op.operands,List.map_toArray,List.map_cons,List.map_nil,eQ,bU,fM,fO,bG,aF,or_false,false_or]
theorem aqn(t:TypeId)(v:Value)(h:ap3 P t=true):miV P t (.c v)=some (.c (.iface t v)):=by simp [miV,h]
theorem EO(x:Operand)(i:Nat):az P s ⟨d,.extract x i,ty,pos,af,g⟩ K=oM (exV (s.ev x) i) s d [s.ev x] K:=by simp only[az,kqo,iI,kx,qv,rv,xv,zv,Op.operands,List.map_toArray,List.map_cons,List.map_nil,eQ,bU,fM,fO,bG,aF,or_false,false_or]
theorem JM(t:TypeId)(x:Operand)(f:Nat):az P s ⟨d,.field t x f,ty,pos,af,g⟩ K=oM (zx P t (s.ev x) f) s d [s.ev x] K:=by simp only[az,kqo,iI,kx,qv,rv,xv,zv,Op.operands,List.map_toArray,List.map_cons,List.map_nil,eQ,bU,fM,fO,bG,aF,or_false,false_or]
theorem JO(t:TypeId)(x i:Operand):az P s ⟨d,.index t x i,ty,pos,af,g⟩ K=oM (ixV P t (s.ev x) (s.ev i)) s d [s.ev x,s.ev i] K:=by simp only[az,kqo,iI,kx,qv,rv,xv,zv,Op.operands,List.map_toArray,List.map_cons,List.map_nil,eQ,bU,fM,fO,bG,aF,or_false,false_or]
theorem Bi(t:TypeId)(x i:Operand):az P s ⟨d,.indexAddr t x i,ty,pos,af,g⟩ K=xI ka (iaV P t (s.ev x) (s.ev i)) s d [s.ev x,s.ev i] K:=by simp only[az,kqo,iI,kx,qv,rv,xv,zv,Op.operands,List.map_toArray,List.map_cons,List.map_nil,eQ,bU,fM,fO,bG,aF,or_false,false_or]
theorem Bj(t:TypeId)(x:Operand)(f:Nat):az P s ⟨d,.fieldAddr t x f,ty,pos,af,g⟩ K=xI ka (faV P t (s.ev x) f) s d [s.ev x] K:=by simp only[az,kqo,iI,kx,qv,rv,xv,zv,Op.operands,List.map_toArray,List.map_cons,List.map_nil,eQ,bU,fM,fO,bG,aF,or_false,false_or]
theorem Dc(f:FuncId)(fs cs:Array Operand):az P s ⟨d,.makeFunc (.func f) fs cs,ty,pos,af,g⟩ K=K (kq (fs.toList.map s.ev++cs.toList.map s.ev) (.fn f (fs.toList.map s.ev) (cs.toList.map s.ev))) (s.put d (.fn f (fs.toList.map s.ev) (cs.toList.map s.ev))):=by simp only[az,kqo,iI,kx,qv,rv,xv,zv,Op.operands,Array.toList_append,List.map_append,List.map_toArray,List.map_cons,List.map_nil,eQ,bU,fM,fO,bG,aF,or_false,false_or]
theorem JP(t:TypeId)(parts:Array (Nat × Operand)):az P s ⟨d,.build t parts,ty,pos,af,g⟩ K=oM (wM P t (parts.toList.map fun p=>(p.1,s.ev p.2))) s d ((parts.toList.map fun p=>p.2).map s.ev) K:=by simp only[az,kqo,iI,kx,qv,rv,xv,zv,Op.operands,Array.toList_map,List.map_toArray,List.map_cons,List.map_nil,eQ,bU,fM,fO,bG,aF,or_false,false_or]
theorem JQ(e:TypeId):az P s ⟨d,.alloc e,ty,pos,af,g⟩ K=jV (uu P s e) d .x K:=by simp only[az,kqo,iI,kx,qv,rv,xv,zv,Op.operands,List.map_toArray,List.map_cons,List.map_nil,eQ,bU,fM,fO,bG,aF,or_false,false_or]
theorem TL(e:TypeId)(x:Operand):az P s ⟨d,.box e x,ty,pos,af,g⟩ K=jV (MZ s e (s.ev x)) d .x K:=by simp only[az,kqo,iI,kx,qv,rv,xv,zv,Op.operands,List.map_toArray,List.map_cons,List.map_nil,eQ,bU,fM,fO,bG,aF,or_false,false_or]
theorem zJ(t:TypeId)(n:Nat)(parts:Array (Nat × Operand)):az P s ⟨d,.buildSlice t n parts,ty,pos,af,g⟩ K=(jV (bV P s t n (parts.toList.map fun p=>(p.1,s.ev p.2))) d .n K∨bsF P s d t n (parts.toList.map fun p=>(p.1,s.ev p.2)) (V.idsL (parts.toList.map fun p=>s.ev p.2)) K):=by
 simp only[az,kqo,iI,kx,qv,rv,xv,zv,Op.operands,List.map_toArray,List.map_cons,List.map_nil,eQ,bU,fM,fO,bG,aF,or_false,false_or]
 congr 1
 generalize V.idsL (parts.toList.map fun p=>s.ev p.2)=ids
 cases ids with
 | nil=>rfl
 | cons i l=>simp only[frX,xv,JK,List.map_map,xX];rfl
theorem Bl(t:TypeId)(l c:Operand):az P s ⟨d,.makeSlice t l c,ty,pos,af,g⟩ K=jV (xG P s t (s.ev l) (s.ev c)) d .n K:=by simp only[az,kqo,iI,kx,qv,rv,xv,zv,Op.operands,List.map_toArray,List.map_cons,List.map_nil,eQ,bU,fM,fO,bG,aF,or_false,false_or]
def XG(s:St)(d:Option Nat)(c x y:V)(K:Kd→St→Prop):Prop:=match c with | .c (.bool b)=>K (kq [.c (.bool b),x,y] (tZ b x y)) (s.put d (tZ b x y))|_=>False
theorem Nz(c x y:Operand):az P s ⟨d,.pick c x y,ty,pos,af,g⟩ K=XG s d (s.ev c) (s.ev x) (s.ev y) K:=by
 simp only[az,kqo,iI,kx,qv,rv,xv,zv,Op.operands,List.map_cons,List.map_nil,bG,aF,or_false,XG]
 generalize s.ev c=v
 cases v with
 | c u=>cases u<;>rfl
 | _=>rfl
def AX(P:Program)(s:St)(d:Option Nat)(src dst:TypeId)(x:V)(K:Kd→St→Prop):Prop :=
 oM (mM P src dst x) s d [x] K∨xJ (jF P s src dst x) s d K∨jV ((kz P src dst x).map fun r=>(r,s)) d .x K∨jV (mX P s src dst x) d .z K
theorem EP(src dst:TypeId)(x:Operand):az P s ⟨d,.convert src dst x,ty,pos,af,g⟩ K=AX P s d src dst (s.ev x) K:=by simp only[az,kqo,iI,kx,qv,rv,xv,zv,Op.operands,List.map_cons,List.map_nil,AX]
def QM(P:Program)(s:St)(d:Option Nat)(t:TypeId)(x:V)(K:Kd→St→Prop):Prop :=
 match x with
 | .ref b off=>xJ (nN P s t b off) s d K
 | .el tg k xs i off=>oM ((xs[i]?).bind fun y=>y.cs.bind fun cs=>EI P t cs off) s d [.el tg k xs i off] K
 | _=>False
theorem NC(t:TypeId)(x:Operand):az P s ⟨d,.load t x,ty,pos,af,g⟩ K=QM P s d t (s.ev x) K:=by
 simp only[az,kqo,iI,kx,qv,rv,xv,zv,Op.operands,List.map_cons,List.map_nil,aF,or_false,QM]
 generalize s.ev x=v
 cases v<;>simp only[bU,bG,or_false,false_or]
def Hg(P:Program)(s:St)(d:Option Nat)(t:TypeId)(x y:V)(K:Kd→St→Prop):Prop :=
 match x with
 | .ref b off=>jV ((lZ P s t b off y).map fun s'=>(.top,s')) d .x K
 | .el (.own id e) k xs i off=>jV ((mY P s t id k xs i off y).map fun s'=>(.top,s')) d (.w id k) K∨stF P s d t (.el (.own id e) k xs i off) y y.ids K
 | _=>False
theorem JR(t:TypeId)(x y:Operand):az P s ⟨d,.store t x y,ty,pos,af,g⟩ K=Hg P s d t (s.ev x) (s.ev y) K:=by
 simp only[az,kqo,iI,kx,qv,rv,xv,zv,bU,bG,aF,or_false,false_or,Hg]
 cases hv:s.ev x with
 | el tg k xs i off =>
  cases tg with
  | own id e =>
   simp only
   congr 1
   generalize (s.ev y).ids=ids
   cases ids with
   | nil=>rfl
   | cons a l=>simp only[frX,xv,stF,stX,xX,hv];rfl
  | _=>simp only[aF,or_false]
 | _=>simp only[aF,or_false,false_or]
def zK(P:Program)(s:St)(d:Option Nat)(t:TypeId)(x:V)(lo hi:Option V)(l:List V)(K:Kd→St→Prop):Prop :=
 match x with
 | .sl (.own id _) k xs=>if lo.all isC&&hi.all isC then jV (nO P s t id k xs lo hi) d .z K else False
 | .ref b off=>jV (xH P s t b off lo hi) d .z K
 | x=>oM (slV P t x lo hi) s d l K
def akF(s:St)(x:Operand)(lo hi:Option Operand):List V:=s.ev x::((lo.toList++hi.toList).map s.ev)
theorem JS(t:TypeId)(x:Operand)(lo hi:Option Operand):az P s ⟨d,.slice t x lo hi none,ty,pos,af,g⟩ K=zK P s d t (s.ev x) (lo.map s.ev) (hi.map s.ev) (akF s x lo hi) K:=by
 have e:(Op.slice t x lo hi none).operands.toList.map s.ev=akF s x lo hi:=by cases lo<;>cases hi<;>rfl
 simp only[az,kqo,iI,kx,qv,rv,xv,zv,bG,aF,false_or,zK,e]
 generalize s.ev x=v
 cases v with
 | sl tg k xs =>
  cases tg with
  | fz=>simp only[aF,or_false]
  | nn=>simp only[aF,or_false]
  | own id e =>
   simp only[slV,bU,false_or]
   split<;>simp only[aF]
 | ref b off=>simp only[slV,bU,false_or]
 | _=>simp only[aF,or_false]
theorem TM(x:Operand)(t:TypeId):az P s ⟨d,.call { callee := .builtin .len,args:=#[x],argTypes:=#[t] },ty,pos,af,g⟩ K=oM (Je P t (s.ev x)) s d [s.ev x] K:=by
 have e:(Op.call { callee := .builtin .len,args:=#[x],argTypes:=#[t] }).operands.toList.map s.ev=[s.ev x]:=rfl
 simp only[az,kqo,iI,kx,qv,rv,xv,zv,e,bU,bG,aF,or_false]
theorem TN(x y:Operand)(ts:Array TypeId):az P s ⟨d,.call { callee := .builtin .max,args:=#[x,y],argTypes:=ts },ty,pos,af,g⟩ K=oM (qx true (s.ev x) (s.ev y)) s d [s.ev x,s.ev y] K:=by
 have e:(Op.call { callee := .builtin .max,args:=#[x,y],argTypes:=ts }).operands.toList.map s.ev=[s.ev x,s.ev y]:=rfl
 simp only[az,kqo,iI,kx,qv,rv,xv,zv,e,bU,bG,aF,or_false]
theorem Bo(x:Operand)(ts:Array TypeId):az P s ⟨d,.call { callee := .builtin .unsafeSliceData,args:=#[x],argTypes:=ts },ty,pos,af,g⟩ K=oM (sdV (s.ev x)) s d [s.ev x] K:=by
 have e:(Op.call { callee := .builtin .unsafeSliceData,args:=#[x],argTypes:=ts }).operands.toList.map s.ev=[s.ev x]:=rfl
 simp only[az,kqo,iI,kx,qv,rv,xv,zv,e,bU,bG,aF,or_false]
theorem wX(x n:Operand)(pt it:TypeId):az P s ⟨d,.call { callee := .builtin .unsafeString,args:=#[x,n],argTypes:=#[pt,it] },ty,pos,af,g⟩ K=jV (usV P s pt (s.ev x) (s.ev n)) d .z K:=by
 simp only[az,kqo,iI,kx,qv,rv,xv,zv,bU,bG,aF,false_or]
theorem TP(x y:Operand)(ts:Array TypeId):az P s ⟨d,.call { callee := .builtin .min,args:=#[x,y],argTypes:=ts },ty,pos,af,g⟩ K=oM (qx false (s.ev x) (s.ev y)) s d [s.ev x,s.ev y] K:=by
 have e:(Op.call { callee := .builtin .min,args:=#[x,y],argTypes:=ts }).operands.toList.map s.ev=[s.ev x,s.ev y]:=rfl
 simp only[az,kqo,iI,kx,qv,rv,xv,zv,e,bU,bG,aF,or_false]
theorem Hl(x y:Operand)(t t2:TypeId):az P s ⟨d,.call { callee := .builtin .append,args:=#[x,y],argTypes:=#[t,t2] },ty,pos,af,g⟩ K=jV (lC P s t t2 (s.ev x) (s.ev y)) d (Bf (s.ev x)) K:=by simp only[az,kqo,iI,kx,qv,rv,xv,zv,Op.operands,List.map_toArray,List.map_cons,List.map_nil,eQ,bU,fM,fO,bG,aF,or_false,false_or]
def XH(s:St)(d:Option Nat)(x:V)(K:Kd→St→Prop):Prop:=match x with | .ref b o=>K (kq [.ref b o] (.ref b o)) (s.put d (.ref b o)) | .el t k xs i o=>K (kq [.el t k xs i o] (.el t k xs i o)) (s.put d (.el t k xs i o)) | .fn f a b=>K (kq [.fn f a b] (.fn f a b)) (s.put d (.fn f a b))|_=>False
theorem Df(x:Operand):az P s ⟨d,.nilCheck x,ty,pos,af,g⟩ K=XH s d (s.ev x) K:=by
 simp only[az,kqo,iI,kx,qv,rv,xv,zv,Op.operands,List.map_cons,List.map_nil,bG,aF,or_false,XH]
 generalize s.ev x=v
 cases v<;>rfl
theorem ND(f:Operand)(args:Array Operand)(ts:Array TypeId):az P s ⟨d,.call { callee := .value f,args:=args,argTypes:=ts },ty,pos,af,g⟩ K=gU P (s.ev f) args.toList d s K:=rfl
end
section
variable (D:Dw) (P:Program) [Tb P]
def qH(y:Code)(Q:Exit→St→Prop):Exit→St→Prop:=uB (fun s'=>wpS D P y Q s') Q
def FQ(dsts:List (Option Nat))(Q:Exit→St→Prop)(rest:List Oper)(_:Kd):St→Prop:=wpL P dsts (Q .normal) rest
def wY(dsts:List (Option Nat))(Q:Exit→St→Prop)(ops:List Oper)(s:St):Prop:=wpL P dsts (Q .normal) ops s
def Dh(v:V)(x y:Code)(Q:Exit→St→Prop)(s:St):Prop:=FD v (wpS D P x Q s) (wpS D P y Q s)
def FT(x:Code)(Q:Exit→St→Prop)(s:St):Prop:=agZ (fun Q s=>wpS D P x Q s) Q s
def nZ(v:Option V)(want:Bool)(dsts:List (Option Nat))(Q:Exit→St→Prop)(o:Oper)(rest:List Oper)(s:St):Prop :=
 match v with|some (.c (.bool b))=>if b=want then az P s o (FQ P dsts Q rest) else wpL P dsts (Q .normal) rest (s.put o.dst (.c undef))|some (.c _)=>wpL P dsts (Q .normal) rest (s.put o.dst (.c undef))|_=>False
def rD(dsts:List (Option Nat))(ops:List Oper)(Q:Exit→St→Prop)(rest:List Oper)(ks:List Kd)(s:St):Prop:=nS P dsts ops (Q .normal) rest ks s
def TQ(dsts:List (Option Nat))(ops:List Oper)(Q:Exit→St→Prop)(rest:List Oper)(ks:List Kd)(κ:Kd)(s:St):Prop:=nS P dsts ops (Q .normal) rest (κ::ks) s
def Bq(v:Option V)(want:Bool)(dsts:List (Option Nat))(ops:List Oper)(Q:Exit→St→Prop)(o:Oper)(rest:List Oper)(ks:List Kd)(s:St):Prop :=
 match v with|some (.c (.bool b))=>if b=want then az P s o (TQ P dsts ops Q rest ks) else nS P dsts ops (Q .normal) rest (.p::ks) (s.put o.dst (.c undef))|some (.c _)=>nS P dsts ops (Q .normal) rest (.p::ks) (s.put o.dst (.c undef))|_=>False
theorem XI(Q:Exit→St→Prop)(s:St):wpS D P .skip Q s=Q .normal s:=rfl
theorem adl(Q:Exit→St→Prop)(s:St):wpS D P .ret Q s=Q .ret s:=rfl
theorem XJ(id:Nat)(Q:Exit→St→Prop)(s:St):wpS D P (.exit id) Q s=Q (.exit id) s:=rfl
theorem TR(l:Nat)(Q:Exit→St→Prop)(s:St):wpS D P (.label l) Q s=Q .normal s:=rfl
theorem adm(x y:Code)(Q:Exit→St→Prop)(s:St):wpS (dC []) P (.seq x y) Q s=wpS (dC []) P x (qH (dC []) P y Q) s:=by
 have:nP (dC []).cuts (kC y)=false:=by cases h:kC y<;>rfl
 simp only[wpS,this,qH,cond_false]
def ahH(cuts:List Nat)(x y:Code)(Q:Exit→St→Prop)(s:St):Prop:=wpS (dC cuts) P (.seq x y) Q s
theorem XK(n:Nat)(cuts:List Nat)(x y:Code)(Q:Exit→St→Prop)(s:St):wpS (dC (n::cuts)) P (.seq x y) Q s=bif nP (n::cuts) (kC y) then ahH P (n::cuts) x y Q s else wpS (dC (n::cuts)) P x (qH (dC (n::cuts)) P y Q) s:=by
 cases h:nP (n::cuts) (kC y) with
 | true=>rfl
 | false =>
  have h':nP (dC (n::cuts)).cuts (kC y)=false:=h
  simp only[wpS,h',qH,cond_false]
theorem JU(id:Nat)(ops:Array Oper)(d:Bool):kC (.region id ops d)=some id:=rfl
theorem XL(x y:Code):kC (.seq x y)=kC x:=rfl
theorem NE(id:Nat)(x:Code):kC (.block id x)=kC x:=rfl
theorem TS(x:Code):kC (.loop x)=kC x:=rfl
theorem TT(c:Operand)(x y:Code):kC (.cond c x y)=none:=rfl
theorem TU:kC .skip=none:=rfl
theorem XM:kC .ret=none:=rfl
theorem TV(id:Nat):kC (.exit id)=none:=rfl
theorem NF(id:Nat):kC (.label id)=none:=rfl
theorem TW(id:Nat):kC (.goto id)=none:=rfl
theorem NG(cuts:List Nat)(n:Nat):nP cuts (some n)=cuts.contains n:=rfl
theorem NH(cuts:List Nat):nP cuts none=false:=rfl
def XN{ι:Type}(S:ι→St)(Inv:ι→Prop)(Q:Exit→St→Prop):Exit→St→Prop:=uB (fun s=>∃i,Inv i∧Weak s (S i)) Q
theorem XO{ι:Type}(S:ι→St)(Inv:ι→Prop)(Q:Exit→St→Prop)(s:St):XN S Inv Q .ret s=Q .ret s:=rfl
theorem TY{ι:Type}(S:ι→St)(Inv:ι→Prop)(Q:Exit→St→Prop)(id:Nat)(s:St):XN S Inv Q (.exit id) s=Q (.exit id) s:=rfl
theorem TZ{ι:Type}(S:ι→St)(Inv:ι→Prop)(Q:Exit→St→Prop)(id:Nat)(s:St):XN S Inv Q (.goto id) s=Q (.goto id) s:=rfl
def ag2{ι:Type}(S:ι→St)(Inv:ι→Prop)(s:St):Prop:=∃i,Inv i∧Weak s (S i)
theorem JV{ι:Type}(S:ι→St)(Inv:ι→Prop)(Q:Exit→St→Prop)(s:St):XN S Inv Q .normal s=ag2 S Inv s:=rfl
theorem BJ{ι:Type}{cuts:List Nat}{x y:Code}{Q:Exit→St→Prop}{s:St}(S:ι→St)(Inv:ι→Prop)(hc:nP cuts (kC y)=true)(hy:∀i,Inv i→wpS (dC cuts) P y Q (S i))(hx:wpS (dC cuts) P x (XN S Inv Q) s):ahH P cuts x y Q s:=by
 have h':nP (dC cuts).cuts (kC y)=true:=hc
 simp only[ahH,wpS,h',cond_true]
 refine Xy x hx ?_
 intro e s' h
 cases e with
 | normal=>obtain⟨i,hi,hw⟩:=h;exact⟨S i,hw,hy i hi⟩
 | _=>exact h
theorem XP(c:Operand)(x y:Code)(Q:Exit→St→Prop)(s:St):wpS D P (.cond c x y) Q s=Dh D P (s.ev c) x y Q s:=rfl
theorem Ua(id:Nat)(x:Code)(Q:Exit→St→Prop)(s:St):wpS D P (.block id x) Q s=wpS D P x (inB id Q) s:=rfl
theorem XQ(x:Code)(Q:Exit→St→Prop)(s:St):wpS D P (.loop x) Q s=FT D P x Q s:=rfl
theorem VT(id:Nat)(l:List Oper)(Q:Exit→St→Prop)(s:St):wpS D P (.region id l.toArray false) Q s=wY P (l.map (·.dst)) Q l s:=by
 simp only[wpS,wY,Bool.false_eq_true,if_false]
theorem XR(cuts:List Nat)(id:Nat)(l:List Oper)(Q:Exit→St→Prop)(s:St):wpS (dC cuts) P (.region id l.toArray true) Q s=rD P (l.map (·.dst)) l Q l [] s:=by
 simp only[wpS,if_true,rD,FN,dC]
theorem Hm(y:Code)(Q:Exit→St→Prop)(s:St):qH D P y Q .normal s=wpS D P y Q s:=rfl
theorem Ub(y:Code)(Q:Exit→St→Prop)(s:St):qH D P y Q .ret s=Q .ret s:=rfl
theorem NJ(id:Nat)(y:Code)(Q:Exit→St→Prop)(s:St):qH D P y Q (.exit id) s=Q (.exit id) s:=rfl
theorem NK(id:Nat)(Q:Exit→St→Prop)(s:St):inB id Q .normal s=Q .normal s:=rfl
theorem adn(id:Nat)(Q:Exit→St→Prop)(s:St):inB id Q .ret s=Q .ret s:=rfl
theorem XT(id id':Nat)(Q:Exit→St→Prop)(s:St):inB id Q (.exit id') s=if id'=id then Q .normal s else Q (.exit id') s:=rfl
theorem Ho(k:St→Prop)(Q:Exit→St→Prop)(s:St):uB k Q .normal s=k s:=rfl
theorem Uc(k:St→Prop)(Q:Exit→St→Prop)(s:St):uB k Q .ret s=Q .ret s:=rfl
theorem NL(id:Nat)(k:St→Prop)(Q:Exit→St→Prop)(s:St):uB k Q (.exit id) s=Q (.exit id) s:=rfl
theorem Di(x y:Code)(Q:Exit→St→Prop)(s:St):Dh D P (.c (.bool true)) x y Q s=wpS D P x Q s:=by simp [Dh,FD]
theorem AY(x y:Code)(Q:Exit→St→Prop)(s:St):Dh D P (.c (.bool false)) x y Q s=wpS D P y Q s:=by simp [Dh,FD]
theorem JW{b:Bool}{x y:Code}{Q:Exit→St→Prop}{s:St}(ht:b=true→wpS D P x Q s)(hf:b=false→wpS D P y Q s):Dh D P (.c (.bool b)) x y Q s:=by
 cases b
 ·rw[AY];exact hf rfl
 ·rw[Di];exact ht rfl
theorem XU(dsts:List (Option Nat))(Q:Exit→St→Prop)(s:St):wY P dsts Q [] s=Q .normal s:=rfl
theorem NM(dsts:List (Option Nat))(Q:Exit→St→Prop)(s:St)(d:Option Nat)(op:Op)(ty:TypeId)(pos:String)(af:Array Edge)(rest:List Oper) :
  wY P dsts Q (⟨d,op,ty,pos,af,none⟩::rest) s=az P s ⟨d,op,ty, "",#[],none⟩ (FQ P dsts Q rest):=by
 simp only[wY,wpL]
 rfl
theorem NP(dsts:List (Option Nat))(Q:Exit→St→Prop)(s:St)(d:Option Nat)(op:Op)(ty:TypeId)(pos:String)(af:Array Edge)(j:Nat)(want:Bool)(rest:List Oper) :
  wY P dsts Q (⟨d,op,ty,pos,af,some (j,want)⟩::rest) s=nZ P (iR s dsts j) want dsts Q ⟨d,op,ty, "",#[],none⟩ rest s:=by
 simp only[wY,wpL,nZ]
 rfl
theorem XV(dsts:List (Option Nat))(Q:Exit→St→Prop)(rest:List Oper)(κ:Kd)(s:St):FQ P dsts Q rest κ s=wY P dsts Q rest s:=rfl
theorem NQ(b:Bool)(dsts:List (Option Nat))(Q:Exit→St→Prop)(o:Oper)(rest:List Oper)(s:St):nZ P (some (.c (.bool b))) b dsts Q o rest s=az P s o (FQ P dsts Q rest):=by simp [nZ]
theorem Ud(dsts:List (Option Nat))(Q:Exit→St→Prop)(o:Oper)(rest:List Oper)(s:St):nZ P (some (.c (.bool true))) false dsts Q o rest s=wY P dsts Q rest (s.put o.dst (.c undef)):=by simp [nZ,wY]
theorem Ue(dsts:List (Option Nat))(Q:Exit→St→Prop)(o:Oper)(rest:List Oper)(s:St):nZ P (some (.c (.bool false))) true dsts Q o rest s=wY P dsts Q rest (s.put o.dst (.c undef)):=by simp [nZ,wY]
theorem Uf(want:Bool)(dsts:List (Option Nat))(Q:Exit→St→Prop)(o:Oper)(rest:List Oper)(s:St):nZ P (some (.c undef)) want dsts Q o rest s=wY P dsts Q rest (s.put o.dst (.c undef)):=rfl
theorem ado(want:Bool)(dsts:List (Option Nat))(ops:List Oper)(Q:Exit→St→Prop)(o:Oper)(rest:List Oper)(ks:List Kd)(s:St):Bq P (some (.c undef)) want dsts ops Q o rest ks s=rD P dsts ops Q rest (.p::ks) (s.put o.dst (.c undef)):=rfl
theorem XW(dsts:List (Option Nat))(ops:List Oper)(Q:Exit→St→Prop)(ks:List Kd)(s:St):rD P dsts ops Q [] ks s=(zI ops ks.reverse=true∧Q .normal s):=rfl
theorem NR(dsts:List (Option Nat))(ops:List Oper)(Q:Exit→St→Prop)(ks:List Kd)(s:St)(d:Option Nat)(op:Op)(ty:TypeId)(pos:String)(af:Array Edge)(rest:List Oper) :
  rD P dsts ops Q (⟨d,op,ty,pos,af,none⟩::rest) ks s=az P s ⟨d,op,ty, "",#[],none⟩ (TQ P dsts ops Q rest ks):=by
 simp only[rD,nS]
 rfl
theorem NS(dsts:List (Option Nat))(ops:List Oper)(Q:Exit→St→Prop)(ks:List Kd)(s:St)(d:Option Nat)(op:Op)(ty:TypeId)(pos:String)(af:Array Edge)(j:Nat)(want:Bool)(rest:List Oper) :
  rD P dsts ops Q (⟨d,op,ty,pos,af,some (j,want)⟩::rest) ks s=Bq P (iR s dsts j) want dsts ops Q ⟨d,op,ty, "",#[],none⟩ rest ks s:=by
 simp only[rD,nS,Bq]
 rfl
theorem adp(dsts:List (Option Nat))(ops:List Oper)(Q:Exit→St→Prop)(rest:List Oper)(ks:List Kd)(κ:Kd)(s:St):TQ P dsts ops Q rest ks κ s=rD P dsts ops Q rest (κ::ks) s:=rfl
theorem XX(b:Bool)(dsts:List (Option Nat))(ops:List Oper)(Q:Exit→St→Prop)(o:Oper)(rest:List Oper)(ks:List Kd)(s:St):Bq P (some (.c (.bool b))) b dsts ops Q o rest ks s=az P s o (TQ P dsts ops Q rest ks):=by simp [Bq]
theorem adq(dsts:List (Option Nat))(ops:List Oper)(Q:Exit→St→Prop)(o:Oper)(rest:List Oper)(ks:List Kd)(s:St):Bq P (some (.c (.bool true))) false dsts ops Q o rest ks s=rD P dsts ops Q rest (.p::ks) (s.put o.dst (.c undef)):=by simp [Bq,rD]
theorem adr(dsts:List (Option Nat))(ops:List Oper)(Q:Exit→St→Prop)(o:Oper)(rest:List Oper)(ks:List Kd)(s:St):Bq P (some (.c (.bool false))) true dsts ops Q o rest ks s=rD P dsts ops Q rest (.p::ks) (s.put o.dst (.c undef)):=by simp [Bq,rD]
theorem NT{b want:Bool}{dsts:List (Option Nat)}{ops:List Oper}{Q:Exit→St→Prop}{o:Oper}{rest:List Oper}{ks:List Kd}{s:St}(ht:b=want→az P s o (TQ P dsts ops Q rest ks))(hf:b = !want→rD P dsts ops Q rest (.p::ks) (s.put o.dst (.c undef))) :
  Bq P (some (.c (.bool b))) want dsts ops Q o rest ks s:=by
 simp only[Bq]
 split
 ·exact ht ‹_›
 ·exact hf (by cases b<;>cases want<;>simp_all)
theorem Hq{b want:Bool}{dsts:List (Option Nat)}{Q:Exit→St→Prop}{o:Oper}{rest:List Oper}{s:St}(ht:b=want→az P s o (FQ P dsts Q rest))(hf:b = !want→wY P dsts Q rest (s.put o.dst (.c undef))) :
  nZ P (some (.c (.bool b))) want dsts Q o rest s:=by
 simp only[nZ]
 split
 ·exact ht ‹_›
 ·exact hf (by cases b<;>cases want<;>simp_all)
theorem Ug(e:Nat→V)(b:Nat→Option (TypeId × List V))(n:Nat)(h:Nat→V)(dsts:List (Option Nat))(j:Nat):iR ⟨e,b,n,h⟩ dsts j=match dsts[j]? with|some (some d)=>some (e d)|_=>none:=rfl
end
section
variable (P:Program) (t:TypeId) (k:IntKind) (a b:Int)
theorem XY:eu P .add t (.c (.int k a)) (.c (.int k b))=some (.c (.int k (k.wrap (a+b)))):=by simp [eu,ug]
theorem XZ:eu P .sub t (.c (.int k a)) (.c (.int k b))=some (.c (.int k (k.wrap (a-b)))):=by simp [eu,ug]
theorem X0:eu P .mul t (.c (.int k a)) (.c (.int k b))=some (.c (.int k (k.wrap (a*b)))):=by simp [eu,ug]
theorem X3:eu P .quo t (.c (.int k a)) (.c (.int k b))=if b=0 then none else some (.c (.int k (k.wrap (a.tdiv b)))):=by simp [eu,ug];split<;>rfl
theorem X4:eu P .rem t (.c (.int k a)) (.c (.int k b))=if b=0 then none else some (.c (.int k (a.tmod b))):=by simp [eu,ug];split<;>rfl
theorem X5:eu P .and t (.c (.int k a)) (.c (.int k b))=some (.c (.int k (bits .and k a b))):=by simp [eu,ug]
theorem ads:eu P .or t (.c (.int k a)) (.c (.int k b))=some (.c (.int k (bits .or k a b))):=by simp [eu,ug]
theorem X6:eu P .xor t (.c (.int k a)) (.c (.int k b))=some (.c (.int k (bits .xor k a b))):=by simp [eu,ug]
theorem JX:eu P .andNot t (.c (.int k a)) (.c (.int k b))=some (.c (.int k (bits .andNot k a b))):=by simp [eu,ug]
theorem X7:eu P .eql t (.c (.int k a)) (.c (.int k b))=some (.c (.bool (a == b))):=by simp [eu,ug]
theorem X8:eu P .neq t (.c (.int k a)) (.c (.int k b))=some (.c (.bool (a != b))):=by simp [eu,ug]
theorem X9:eu P .lss t (.c (.int k a)) (.c (.int k b))=some (.c (.bool (decide (a<b)))):=by simp [eu,ug]
theorem Ya:eu P .leq t (.c (.int k a)) (.c (.int k b))=some (.c (.bool (decide (a≤b)))):=by simp [eu,ug]
theorem Yb:eu P .gtr t (.c (.int k a)) (.c (.int k b))=some (.c (.bool (decide (b<a)))):=by simp [eu,ug]
theorem Yc:eu P .geq t (.c (.int k a)) (.c (.int k b))=some (.c (.bool (decide (b≤a)))):=by simp [eu,ug]
theorem Yd(k2:IntKind):eu P .shl t (.c (.int k a)) (.c (.int k2 b))=if b<0 then none else some (.c (.int k (k.wrap (a*2^min b.toNat k.bits)))):=rfl
theorem Ye(k2:IntKind):eu P .shr t (.c (.int k a)) (.c (.int k2 b))=if b<0 then none else some (.c (.int k (a.fdiv (2^min b.toNat k.bits)))):=rfl
theorem Yf(x y:Bool):eu P .eql t (.c (.bool x)) (.c (.bool y))=if nI P t=true then some (.c (.bool (x == y))) else none:=rfl
theorem Yg(x y:Bool):eu P .neq t (.c (.bool x)) (.c (.bool y))=if nI P t=true then some (.c (.bool (!(x == y)))) else none:=rfl
theorem Yh(x y:ByteArray):eu P .eql t (.c (.string x)) (.c (.string y))=some (.c (.bool (decide (x=y)))):=rfl
theorem Yi(x y:ByteArray):eu P .neq t (.c (.string x)) (.c (.string y))=some (.c (.bool (!decide (x=y)))):=rfl
theorem Uh(x y:ByteArray):eu P .add t (.c (.string x)) (.c (.string y))=if x.size+y.size≤9223372036854775807 then some (.c (.string (x++y))) else none:=by
 simp only[eu,acV];split<;>rfl
theorem Ui(x y:ByteArray):eu P .lss t (.c (.string x)) (.c (.string y))=some (.c (.bool (Op.bytesLess x.toList y.toList))):=rfl
theorem Uj(x y:ByteArray):eu P .leq t (.c (.string x)) (.c (.string y))=some (.c (.bool (Op.bytesLess x.toList y.toList||decide (x=y)))):=rfl
theorem Uk(x y:ByteArray):eu P .gtr t (.c (.string x)) (.c (.string y))=some (.c (.bool (!(Op.bytesLess x.toList y.toList||decide (x=y))))):=rfl
theorem Ul(x y:ByteArray):eu P .geq t (.c (.string x)) (.c (.string y))=some (.c (.bool (!Op.bytesLess x.toList y.toList))):=rfl
theorem JY(c x y:Bool):tZ c (.c (.bool x)) (.c (.bool y)) = .c (.bool (bif c then x else y)):=rfl
theorem NU(x y:V):tZ true x y=x:=by unfold tZ;split<;>rfl
theorem JZ(x y:V):tZ false x y=y:=by unfold tZ;split<;>rfl
theorem Yj(s:St)(d:Option Nat)(c:Bool)(x y:V)(K:Kd→St→Prop):XG s d (.c (.bool c)) x y K=K (kq [.c (.bool c),x,y] (tZ c x y)) (s.put d (tZ c x y)):=rfl
end
end Go.Pg
end
section
namespace Go.Pg
open Go
theorem J3(k:IntKind)(n:Int):iJ (.int k n) = .c (.int k n):=rfl
theorem Hr(b:Bool):iJ (.bool b) = .c (.bool b):=rfl
theorem Dj(z:ByteArray):iJ (.string z) = .c (.string z):=rfl
theorem EQ(a:Option Addr)(n c:Nat):iJ (.slice a n c) = .c (.slice a n c):=rfl
theorem Bv(a:Option Addr):iJ (.pointer a) = .c (.pointer a):=rfl
theorem J4(l:List Value):iJ (.agg l.toArray) = .agg (l.map .c):=by simp [iJ]
theorem Yk(l:List V):Jr l=⟨Fg l 0,fun _=>none,0,fun _ => .top⟩:=rfl
theorem Um(k:Nat):Fg [] k=fun _ => .top:=rfl
theorem NV(x:V)(xs:List V)(k:Nat):Fg (x::xs) k=upd (Fg xs (k+1)) k x:=rfl
theorem Yl(k:IntKind)(n:Int):V.cs (.c (.int k n))=some [.c (.int k n)]:=rfl
theorem Un(b:Bool):V.cs (.c (.bool b))=some [.c (.bool b)]:=rfl
theorem J5(z:ByteArray):V.cs (.c (.string z))=some [.c (.string z)]:=rfl
theorem NW(a:Option Addr)(n c:Nat):V.cs (.c (.slice a n c))=some [.c (.slice a n c)]:=rfl
theorem ahI(l:List V):V.cs (.agg l)=some l:=rfl
theorem akG(t:Tag)(k:Nat)(xs:List V):V.cs (.sl t k xs)=some [.sl t k xs]:=rfl
theorem ahJ(b o:Nat):V.cs (.ref b o)=some [.ref b o]:=rfl
theorem akH(f:FuncId)(x y:List V):V.cs (.fn f x y)=some [.fn f x y]:=rfl
theorem Uo(k:IntKind)(n:Int):V.one (.c (.int k n))=true:=rfl
theorem NY(b:Bool):V.one (.c (.bool b))=true:=rfl
theorem Ht(z:ByteArray):V.one (.c (.string z))=true:=rfl
theorem J6(a:Option Addr)(n c:Nat):V.one (.c (.slice a n c))=true:=rfl
theorem ahK(t:Tag)(k:Nat)(xs:List V):V.one (.sl t k xs)=true:=rfl
theorem adt(b o:Nat):V.one (.ref b o)=true:=rfl
theorem ahL(f:FuncId)(x y:List V):V.one (.fn f x y)=true:=rfl
theorem ahM(v:Value):V.free (.c v)=true:=rfl
theorem adu(k:Nat)(xs:List V):V.free (.sl .fz k xs)=true:=rfl
theorem Ym(l:List V):V.free (.agg l) = !V.anyL Tag.isOwn (fun _=>true) true l:=rfl
theorem Yn(p:Tag→Bool)(q:Nat→Bool)(tp:Bool):V.anyL p q tp []=false:=rfl
theorem adv(p:Tag→Bool)(q:Nat→Bool)(tp:Bool)(x:V)(xs:List V):V.anyL p q tp (x::xs)=(V.any p q tp x||V.anyL p q tp xs):=rfl
theorem akI(p:Tag→Bool)(q:Nat→Bool)(tp:Bool)(v:Value):V.any p q tp (.c v)=false:=rfl
theorem ahN(p:Tag→Bool)(q:Nat→Bool)(tp:Bool)(t:Tag)(k:Nat)(xs:List V):V.any p q tp (.sl t k xs)=p t:=rfl
theorem adw(p:Tag→Bool)(q:Nat→Bool)(tp:Bool)(l:List V):V.any p q tp (.agg l)=V.anyL p q tp l:=rfl
theorem adx(p:Tag→Bool)(q:Nat→Bool)(tp:Bool)(l:List V):V.any p q tp (.tup l)=V.anyL p q tp l:=rfl
theorem ady(p:Tag→Bool)(q:Nat→Bool)(tp:Bool)(b o:Nat):V.any p q tp (.ref b o)=q b:=rfl
theorem ahO(p:Tag→Bool)(q:Nat→Bool)(tp:Bool)(t:Tag)(k:Nat)(xs:List V)(i o:Nat):V.any p q tp (.el t k xs i o)=p t:=rfl
theorem ahP(p:Tag→Bool)(q:Nat→Bool)(tp:Bool)(f:FuncId)(x y:List V):V.any p q tp (.fn f x y)=(V.anyL p q tp x||V.anyL p q tp y):=rfl
theorem adz(p:Tag→Bool)(q:Nat→Bool)(tp:Bool):V.any p q tp .top=tp:=rfl
theorem Yo(τ:Tag→Tag)(ρ:Nat→Nat):V.mapL τ ρ []=[]:=rfl
theorem adA(τ:Tag→Tag)(ρ:Nat→Nat)(x:V)(xs:List V):V.mapL τ ρ (x::xs)=V.map τ ρ x::V.mapL τ ρ xs:=rfl
theorem akJ(τ:Tag→Tag)(ρ:Nat→Nat)(v:Value):V.map τ ρ (.c v) = .c v:=rfl
theorem ahQ(τ:Tag→Tag)(ρ:Nat→Nat)(t:Tag)(k:Nat)(xs:List V):V.map τ ρ (.sl t k xs) = .sl (τ t) k xs:=rfl
theorem adB(τ:Tag→Tag)(ρ:Nat→Nat)(l:List V):V.map τ ρ (.agg l) = .agg (V.mapL τ ρ l):=rfl
theorem adC(τ:Tag→Tag)(ρ:Nat→Nat)(l:List V):V.map τ ρ (.tup l) = .tup (V.mapL τ ρ l):=rfl
theorem adD(τ:Tag→Tag)(ρ:Nat→Nat)(b o:Nat):V.map τ ρ (.ref b o) = .ref (ρ b) o:=rfl
theorem ahR(τ:Tag→Tag)(ρ:Nat→Nat)(t:Tag)(k:Nat)(xs:List V)(i o:Nat):V.map τ ρ (.el t k xs i o) = .el (τ t) k xs i o:=rfl
theorem ahS(τ:Tag→Tag)(ρ:Nat→Nat)(f:FuncId)(x y:List V):V.map τ ρ (.fn f x y) = .fn f (V.mapL τ ρ x) (V.mapL τ ρ y):=rfl
theorem adE(τ:Tag→Tag)(ρ:Nat→Nat):V.map τ ρ .top = .top:=rfl
theorem ahT(i j:Nat)(e:TypeId):Tag.is i (.own j e)=(j == i):=rfl
theorem akK(i:Nat):Tag.is i .fz=false:=rfl
theorem akL(i:Nat):Tag.is i .nn=false:=rfl
theorem Yp:Tag.isOwn .nn=true:=rfl
theorem Yq(l:List Nat):Tag.notIn l .nn=false:=rfl
theorem adF(l:List Nat):sF l .nn = .nn:=rfl
theorem Yr(n:Nat)(k:Nat)(xs:List V):V.shift n (.sl .nn k xs) = .sl .nn k xs:=rfl
theorem ahU(k:Nat)(xs:List V):V.idb (.sl .nn k xs)=0:=rfl
theorem adG(k:Nat)(xs:List V):V.flat (.sl .nn k xs)=V.flatL xs:=rfl
theorem Ur(j:Nat)(e:TypeId):Tag.isOwn (.own j e)=true:=rfl
theorem Yt:Tag.isOwn .fz=false:=rfl
theorem Us(l:List Nat)(i:Nat)(e:TypeId):Tag.notIn l (.own i e) = !l.contains i:=rfl
theorem Yu(l:List Nat):Tag.notIn l .fz=false:=rfl
theorem Yv(l:List Nat)(i:Nat)(e:TypeId):sF l (.own i e) = .own (l.idxOf i) e:=rfl
theorem adH(l:List Nat):sF l .fz = .fz:=rfl
theorem Yw(v:V):v.erase=v.map (fun _ => .fz) id:=rfl
theorem adI(n:Nat)(v:Value):V.shift n (.c v) = .c v:=rfl
theorem Ut(n id:Nat)(e:TypeId)(k:Nat)(xs:List V):V.shift n (.sl (.own id e) k xs) = .sl (.own (id+n) e) k xs:=rfl
theorem Yx(n:Nat)(k:Nat)(xs:List V):V.shift n (.sl .fz k xs) = .sl .fz k xs:=rfl
theorem NZ(n:Nat)(l:List V):V.mapL (fun t=>match t with | .fz => .fz | .nn => .nn | .own id e => .own (id+n) e) id l=l.map (V.shift n):=xx _ _ _
theorem Uu(n:Nat)(l:List V):V.shift n (.agg l) = .agg (l.map (V.shift n)):=by rw[←NZ];rfl
theorem Uw(n:Nat)(l:List V):V.shift n (.tup l) = .tup (l.map (V.shift n)):=by rw[←NZ];rfl
theorem akM(v:Value):V.idb (.c v)=0:=rfl
theorem adJ(id:Nat)(e:TypeId)(k:Nat)(xs:List V):V.idb (.sl (.own id e) k xs)=id+1:=rfl
theorem ahV(k:Nat)(xs:List V):V.idb (.sl .fz k xs)=0:=rfl
theorem adK(l:List V):V.idb (.agg l)=V.idbL l:=rfl
theorem adL(l:List V):V.idb (.tup l)=V.idbL l:=rfl
theorem Yy:V.idbL []=0:=rfl
theorem Ux(x:V)(xs:List V):V.idbL (x::xs)=max (V.idb x) (V.idbL xs):=rfl
theorem ahW(v:Value):V.flat (.c v)=true:=rfl
theorem Yz(id:Nat)(e:TypeId)(k:Nat)(xs:List V):V.flat (.sl (.own id e) k xs)=V.flatL xs:=rfl
theorem adM(k:Nat)(xs:List V):V.flat (.sl .fz k xs)=false:=rfl
theorem YA(l:List V):V.flat (.agg l)=V.flatL l:=rfl
theorem YB(l:List V):V.flat (.tup l)=V.flatL l:=rfl
theorem Uy:V.flatL []=true:=rfl
theorem N7(x:V)(xs:List V):V.flatL (x::xs)=(V.flat x&&V.flatL xs):=rfl
theorem Hu(l l':List V):V.flatL (l++l')=(V.flatL l&&V.flatL l'):=by
 induction l with
 | nil=>rfl
 | cons x xs ih=>simp [V.flatL,ih,Bool.and_assoc]
theorem YC(v:V):v.noRef = !v.any (fun _=>false) (fun _=>true) false:=rfl
theorem N8(l:List V):ownFree l = !V.anyL Tag.isOwn (fun _=>false) false l:=rfl
theorem Uz(l:List V):noRefs l = !V.anyL (fun _=>false) (fun _=>true) false l:=rfl
theorem ER(s:St):s.freezeAll []=s:=rfl
def lX(ψ:V→V)(e:Nat→V):Nat→V:=fun t=>ψ (e t)
def sH(ψ:V→V)(b:Nat→Option (TypeId × List V)):Nat→Option (TypeId × List V):=fun x=>(b x).map fun y=>(y.1,y.2.map ψ)
theorem adN(ψ:V→V)(e:Nat→V)(t:Nat):lX ψ e t=ψ (e t):=rfl
theorem QN(ψ:V→V)(b:Nat→Option (TypeId × List V))(x:Nat):sH ψ b x=(b x).map fun y=>(y.1,y.2.map ψ):=rfl
theorem UA(ψ:V→V):sH ψ (fun _=>none)=fun _=>none:=rfl
theorem adO(e:Nat→V)(b:Nat→Option (TypeId × List V))(n:Nat)(h:Nat→V)(ψ:V→V):St.mapV ⟨e,b,n,h⟩ ψ=⟨lX ψ e,sH ψ b,n,lX ψ h⟩:=rfl
theorem UB(id:Nat)(v:V):aJ id v=if v.has id then .top else v:=rfl
theorem ahX(id:Nat)(v:V):v.has id=v.any (Tag.is id) (fun _=>false) false:=rfl
theorem ahY(id:Nat)(v:V):frz id v=v.map (fun t=>if t.is id then .fz else t) _root_.id:=rfl
theorem ahZ(P:Program)(t:TypeId)(tg:Tag)(k:Nat)(xs:List V)(ik:IntKind)(n:Int):iaV P t (.sl tg k xs) (.c (.int ik n))=if (elemT P t).bind (tsz P)=some k∧0≤n∧n<xs.length then some (.el tg k xs n.toNat 0) else none:=rfl
theorem adP(P:Program)(t:TypeId)(tg:Tag)(k:Nat)(xs:List V):Je P t (.sl tg k xs)=if (elemT P t).isSome then some (.c (.int .i64 xs.length)) else none:=rfl
theorem YD(P:Program)(t:TypeId)(n c:Nat):Je P t (.c (.slice none n c))=if (elemT P t).isSome then some (.c (.int .i64 n)) else none:=rfl
theorem YE(P:Program)(t:TypeId)(z:ByteArray):Je P t (.c (.string z))=if ji P t then some (.c (.int .i64 z.size)) else none:=rfl
theorem UC(P:Program)[Tb P](s:St)(d:Option Nat)(t:TypeId)(b off:Nat)(K:Kd→St→Prop):QM P s d t (.ref b off) K=xJ (nN P s t b off) s d K:=rfl
theorem YF(P:Program)(s:St)(d:Option Nat)(t:TypeId)(tg:Tag)(k:Nat)(xs:List V)(i off:Nat)(K:Kd→St→Prop):QM P s d t (.el tg k xs i off) K=oM ((xs[i]?).bind fun y=>y.cs.bind fun cs=>EI P t cs off) s d [.el tg k xs i off] K:=rfl
theorem uF(P:Program)(s:St)(d:Option Nat)(src dst:TypeId)(x:V)(K:Kd→St→Prop):AX P s d src dst x K=(oM (mM P src dst x) s d [x] K∨xJ (jF P s src dst x) s d K∨jV ((kz P src dst x).map fun r=>(r,s)) d .x K∨jV (mX P s src dst x) d .z K):=rfl
theorem P5(P:Program)(src dst:TypeId)(k k':IntKind)(n:Int)(h:rY P dst=some k)(hs:(P.underlying src).isSome=true):mM P src dst (.c (.int k' n))=some (.c (.int k (k.wrap n))):=by simp [mM,h,hs]
theorem Hw(P:Program)(src dst:TypeId)(k':IntKind)(n:Int):kz P src dst (.c (.int k' n))=none:=rfl
theorem YG(P:Program)(s:St)(src dst:TypeId)(v:Value):mX P s src dst (.c v)=none:=rfl
theorem UD(P:Program)(s:St)(d:Option Nat)(src dst:TypeId)(k:IntKind)(n:Int)(K:Kd→St→Prop):AX P s d src dst (.c (.int k n)) K=oM (mM P src dst (.c (.int k n))) s d [.c (.int k n)] K:=by
 rw[uF]
 have h1:(kz P src dst (.c (.int k n))).map (fun r=>(r,s))=none:=rfl
 have h2:mX P s src dst (.c (.int k n))=none:=rfl
 have h3:jF P s src dst (.c (.int k n))=none:=rfl
 rw[h1,h2,h3]
 simp only[aF,bG,or_false]
theorem adQ(l:List V)(i:Nat):exV (.tup l) i=l[i]?:=rfl
theorem UE(P:Program)(s:St)(d:Option Nat)(t:TypeId)(k:Nat)(xs:List V)(lo hi:Option V)(l:List V)(K:Kd→St→Prop):zK P s d t (.sl .fz k xs) lo hi l K=oM (slV P t (.sl .fz k xs) lo hi) s d l K:=rfl
theorem YH(P:Program)(s:St)(d:Option Nat)(t:TypeId)(v:Value)(lo hi:Option V)(l:List V)(K:Kd→St→Prop):zK P s d t (.c v) lo hi l K=oM (slV P t (.c v) lo hi) s d l K:=rfl
theorem N9(P:Program)(s:St)(d:Option Nat)(t:TypeId)(id:Nat)(e:TypeId)(k:Nat)(xs:List V)(lo hi:Option V)(l:List V)(K:Kd→St→Prop):zK P s d t (.sl (.own id e) k xs) lo hi l K=if lo.all isC&&hi.all isC then jV (nO P s t id k xs lo hi) d .z K else False:=rfl
theorem Dk(P:Program)(t:TypeId)(k:Nat)(xs:List V)(lo hi:Option V):slV P t (.sl .fz k xs) lo hi=(bdV lo 0).bind fun l=>(bdV hi xs.length).bind fun h=>if (elemT P t).bind (tsz P)=some k∧0≤l∧l≤h∧h≤xs.length then some (.sl .fz k ((xs.take h.toNat).drop l.toNat)) else none:=rfl
theorem BK(P:Program)(t:TypeId)(z:ByteArray)(lo hi:Option V):slV P t (.c (.string z)) lo hi=(bdV lo 0).bind fun l=>(bdV hi z.size).bind fun h=>if ji P t=true∧0≤l∧l≤h∧h≤z.size then some (.c (.string (z.extract l.toNat h.toNat))) else none:=rfl
theorem Dl(n:Nat):bdV none n=some (n:Int):=rfl
theorem BL(k:IntKind)(i:Int)(n:Nat):bdV (some (.c (.int k i))) n=some i:=rfl
theorem adR(P:Program)(t:TypeId)(k:Nat)(tg:Tag)(k':Nat)(ys:List V):CG P t k (.sl tg k' ys)=if k'=k∧(elemT P t).isSome then some ys else none:=rfl
theorem YI(P:Program)(t:TypeId)(k n:Nat):CG P t k (.c (.slice none 0 n))=if (elemT P t).isSome then some [] else none:=rfl
theorem YJ(P:Program)(t:TypeId)(k:Nat)(z:ByteArray):CG P t k (.c (.string z))=if k=1∧ji P t=true then some (l7 z) else none:=rfl
theorem V9(P:Program)(s:St)(t t2:TypeId)(x y:V)(e k bytes:Nat)(ys:List V)(he:elemT P t=some e)(hk:tapp P e=some (k,bytes))(hy:CG P t2 k y=some ys):lC P s t t2 x y =
  match x with
  | .c (.slice none 0 0)=>if Fits ys.length bytes then some (.sl (.own s.nid e) k ys,{ s with nid:=s.nid+1 }) else none
  | .sl (.own id e') k' xs=>if e'=e∧k'=k∧Fits (xs.length+ys.length) bytes then some (.sl (.own id e) k (xs++ys),{ s.mapV (aJ id) with nid:=max s.nid (id+1) }) else none
  | _=>none:=by
 simp only[lC,he,hk,hy,Option.bind_some]
 rfl
theorem aP{P:Program}[Tb P]{g:FuncId}{args:List Operand}{d:Option Nat}{s:St}{K:Kd→St→Prop}{vs:List V}(r:V)(hg:Good P g vs r)(hvs:(args.map s.ev).map V.erase=vs)(h1:noRefs (args.map s.ev)=true)
  (h2:r.noRef=true) (h3:(ownFree (args.map s.ev)||r.flat)=true) (hK:K (kc (.fn g [] []::args.map s.ev) [] r) (St.put { s with nid:=s.nid+r.idb } d (r.shift s.nid))):gU P (.fn g [] []) args d s K:=by
 refine .inl ⟨[],r, ?_,rfl, ?_,h2, ?_,hK⟩
 ·simpa [St.freezeAll,hvs] using hg
 ·simpa [St.freezeAll] using h1
 ·simpa [St.freezeAll] using h3
section
variable (P:Program) (op:BinOp) (t:TypeId) (x y:V)
theorem YK(n:Nat):zB P op t x y (.tmp n)=eu P op t x y:=rfl
theorem YL(k:IntKind)(n:Int):zB P op t x y (.const (.int k n))=eu P op t x y:=rfl
theorem YM(z:ByteArray):zB P op t x y (.const (.string z))=eu P op t x y:=rfl
theorem UF(b:Bool):zB P op t x y (.const (.bool b))=eu P op t x y:=rfl
theorem adS(a:Option Addr)(n c:Nat):zB P op t x y (.const (.slice a n c))=eu P op t x y:=rfl
theorem YN(a:Option Addr):zB P op t x y (.const (.pointer a))=eu P op t x y:=rfl
theorem YO(a:Array Value):zB P op t x y (.const (.agg a))=eu P op t x y:=rfl
theorem YP:zB P op t x y (.const .nilIface)=wQ P op t x:=rfl
theorem YQ(h:uA P t=true):wQ P .eql t (.c .nilIface)=some (.c (.bool true)):=if_pos h
theorem YR(h:uA P t=true):wQ P .neq t (.c .nilIface)=some (.c (.bool false)):=if_pos h
theorem adT(a:TypeId)(v:Value)(h:uA P t=true):wQ P .eql t (.c (.iface a v))=some (.c (.bool false)):=if_pos h
theorem adU(a:TypeId)(v:Value)(h:uA P t=true):wQ P .neq t (.c (.iface a v))=some (.c (.bool true)):=if_pos h
theorem VM(h:uA P t=true):wQ P .neq t .nif=some (.c (.bool true)):=if_pos h
theorem Hy:iJ .nilIface = .c .nilIface:=rfl
end
def pgs :=
 aI @YK (aI @YL (aI @YM (aI @UF (aI @adS (aI @YN (aI @YO (aI @YP (aI @YQ (aI @YR (aI @adT (aI @adU (aI @Hy (aI @Bo ( aI @wX ( aI @ahE ( aI @XD ( aI @ade ( aI @TG ( aI @ahF ( aI @adf ( aI @eQ ( aI @bU ( aI @FP ( aI @aF ( aI @TI ( aI @bG ( aI @XW ( aI @NR ( aI @NS ( aI @adp ( aI @N9 ( aI @Nw ( aI @Hf ( aI @JL ( aI @Ny ( aI @EO ( aI @JM ( aI @JO ( aI @Bi ( aI @Bj ( aI @Dc ( aI @JP ( aI @JQ ( aI @TL ( aI @zJ ( aI @Bl ( aI @Nz ( aI @EP ( aI @NC ( aI @JR ( aI @JS ( aI @TM ( aI @TN ( aI @TP ( aI @Hl ( aI @Df ( aI @ND ( aI @XI ( aI @adl ( aI @XJ ( aI @TR ( aI @adm ( aI @XK ( aI @JU ( aI @XL ( aI @NE ( aI @TS ( aI @TT ( aI @TU ( aI @XM ( aI @TV ( aI @NF ( aI @TW ( aI @NG ( aI @NH ( aI @XO ( aI @TY ( aI @TZ ( aI @JV ( aI @XP ( aI @Ua ( aI @XQ ( aI @VT ( aI @XR ( aI @Hm ( aI @Ub ( aI @NJ ( aI @NK ( aI @adn ( aI @XT ( aI @Ho ( aI @Uc ( aI @NL ( aI @Di ( aI @AY ( aI @XU ( aI @NM ( aI @NP ( aI @XV ( aI @Ug ( aI @XY ( aI @XZ ( aI @X0 ( aI @X5 ( aI @ads ( aI @X6 ( aI @JX ( aI @X7 ( aI @X8 ( aI @X9 ( aI @Ya ( aI @Yb ( aI @Yc ( aI @Yf ( aI @Yg ( aI @Yh ( aI @Yi ( aI @Ui ( aI @Uj ( aI @Uk ( aI @Ul ( aI @JY ( aI @NU ( aI @JZ ( aI @Yj ( aI @J3 ( aI @Hr ( aI @Dj ( aI @EQ ( aI @Bv ( aI @J4 ( aI @Yk ( aI @Um ( aI @NV ( aI @Yl ( aI @Un ( aI @J5 ( aI @NW ( aI @ahI ( aI @akG ( aI @ahJ ( aI @akH ( aI @Uo ( aI @NY ( aI @Ht ( aI @J6 ( aI @ahK ( aI @adt ( aI @ahL ( aI @ahM ( aI @adu ( aI @Ym ( aI @Yn ( aI @adv ( aI @akI ( aI @ahN ( aI @adw ( aI @adx ( aI @ady ( aI @ahO ( aI @ahP ( aI @adz ( aI @Yo ( aI @adA ( aI @akJ ( aI @ahQ ( aI @adB ( aI @adC ( aI @adD ( aI @ahR ( aI @ahS ( aI @adE ( aI @ahT ( aI @akK ( aI @Ur ( aI @Yt ( aI @Us ( aI @Yu ( aI @Yv ( aI @adH ( aI @Yw ( aI @adI ( aI @Ut ( aI @Yx ( aI @NZ ( aI @Uu ( aI @Uw ( aI @akM ( aI @adJ ( aI @ahV ( aI @adK ( aI @adL ( aI @Yy ( aI @Ux ( aI @ahW ( aI @Yz ( aI @adM ( aI @YA ( aI @YB ( aI @Uy ( aI @N7 ( aI @Hu ( aI @YC ( aI @N8 ( aI @Uz ( aI @ER ( aI @adO ( aI @adN ( aI @QN ( aI @UA ( aI @UB ( aI @ahX ( aI @ahY ( aI @adP ( aI @YD ( aI @YE ( aI @UC ( aI @YF ( aI @UD ( aI @Hw ( aI @YG ( aI @adQ ( aI @UE ( aI @YH ( aI @Dl ( aI @BL ( aI @adR ( aI @YI ( @YJ)))))))))))))))))))))))))))))))))))))))))))))))))))))))))))))))))))))))))))))))))))))))))))))))))))))))))))))))))))))))))))))))))))))))))))))))))))))))))))))))))))))))))))))))))))))))))))))))))))))))))))))))))))))))))))))))))))))
def pgl :=
 aI @Option.bind_some.{0,0} ( aI @Option.bind_none.{0,0} ( aI @Option.map_some.{0,0} ( aI @Option.map_none.{0,0} ( aI @Option.isSome_some.{0} ( aI @Option.all_none.{0} ( aI @Option.all_some.{0} ( aI @Option.getD_some.{0} ( aI @List.map_cons.{0,0} ( aI @List.map_nil.{0,0} ( aI @List.length_cons.{0} ( aI @List.length_nil.{0} ( aI @List.set_cons_zero.{0} ( aI @List.set_cons_succ.{0} ( aI @List.getElem?_cons_zero.{0} ( aI @List.getElem?_cons_succ.{0} ( aI @List.all_cons.{0} ( aI @List.all_nil.{0} ( aI @List.replicate_succ.{0} ( aI @List.replicate_zero.{0} ( aI @List.cons_append.{0} ( aI @List.nil_append.{0} ( aI @List.append_nil.{0} ( aI @List.take_zero.{0} ( aI @List.take_succ_cons.{0} ( aI @List.drop_zero.{0} ( aI @List.drop_succ_cons.{0} ( aI @List.drop_nil.{0} ( aI @List.take_nil.{0} ( aI @Bool.and_true ( aI @Bool.true_and ( aI @Bool.and_false ( aI @Bool.false_and ( aI @Bool.or_true ( aI @Bool.or_false ( aI @Bool.true_or ( aI @Bool.false_or ( aI @Bool.not_true ( aI @Bool.not_false ( aI @and_true ( aI @true_and ( aI @and_false ( aI @false_and ( aI @or_false ( aI @false_or ( aI @or_true ( aI @true_or ( aI @List.mapM_cons.{0,0,0} ( aI @List.mapM_nil.{0,0,0} ( aI @Option.pure_def.{0} ( aI @Option.bind_eq_bind.{0} ( aI @List.elem_nil.{0} ( aI @List.elem_cons.{0} ( aI @List.contains_cons.{0} ( aI @List.contains_nil.{0} ( aI @Bool.false_eq_true ( aI @not_true_eq_false ( aI @not_false_eq_true ( @Array.toList_map.{0,0}))))))))))))))))))))))))))))))))))))))))))))))))))))))))))
end Go.Pg
end
section
namespace Go.Pg
open Go
def mkS(l:List V)(n:Nat):St:=⟨Fg l 0,fun _=>none,n,fun _ => .top⟩
def GenE(l m:List Nat)(e:Nat→V):List V→Nat→Prop
 | [],_=>True
 | x::xs,k=>Gen l m (e k) x∧GenE l m e xs (k+1)
theorem iL(l m:List Nat)(e:Nat→V)(k:Nat):GenE l m e [] k=True:=rfl
theorem gy(l m:List Nat)(e:Nat→V)(x:V)(xs:List V)(k:Nat):GenE l m e (x::xs) k=(Gen l m (e k) x∧GenE l m e xs (k+1)):=rfl
theorem GenE.at{l m:List Nat}{e:Nat→V}:∀(xs:List V) (k:Nat),GenE l m e xs k→∀t,Gen l m (e t) (Fg xs k t):=by
 intro xs
 induction xs with
 | nil=>intro k _ t;exact .inl rfl
 | cons x xs ih =>
  intro k h t
  simp only[Fg,upd]
  split
  ·rename_i ht;subst ht;exact h.1
  ·exact ih (k+1) h.2 t
theorem Dn(l:List V)(n:Nat):mkS l n=⟨Fg l 0,fun _=>none,n,fun _ => .top⟩:=rfl
theorem jm{l:List Nat}{s:St}{xs:List V}{n:Nat}(h:GenE l [] s.env xs 0)(hl:l.Nodup)(hn:l.length≤n):Keep l [] s (mkS xs n) where
 env:=h.at xs 0
 hd:=fun _ => .inl rfl
 bx:=fun _ _ h=>by cases h
 ndl:=hl
 ndm := .nil
 nidl:=hn
 nidm:=Nat.zero_le _
theorem dB(l m:List Nat)(v:V):Gen l m v .top=True:=by simp [Gen]
theorem eY(l m:List Nat)(v:Value):Gen l m (.c v) (.c v)=True:=by simp [Gen,V.any,V.map]
theorem acH(l m:List Nat)(k:IntKind)(a b:Int)(h:a=b):Gen l m (.c (.int k a)) (.c (.int k b))=True:=by subst h;exact eY _ _ _
theorem fJ(l m:List Nat)(k:Nat)(xs:List V):Gen l m (.sl .fz k xs) (.sl .fz k xs)=True:=by simp [Gen,V.any,V.map,Tag.notIn,sF]
theorem adV(l m:List Nat)(t:Tag)(k:Nat)(h:t.notNN=true):Gen l m (.c (.slice none 0 0)) (.sl t k [])=True:=by
 exact eq_true (.inr (.inr (.inl ⟨rfl,t,k,h,rfl⟩)))
theorem aW{l m:List Nat}{i j:Nat}{e:TypeId}{k:Nat}{xs ys:List V}(h:(l.contains i&&l.idxOf i == j)=true)(hx:xs=ys):Gen l m (.sl (.own i e) k xs) (.sl (.own j e) k ys):=by
 simp only[Bool.and_eq_true,beq_iff_eq,List.contains_iff_mem] at h
 subst hx
 refine .inr (.inl ⟨by simp [V.any,Tag.notIn,h.1],by simp [V.map,sF,h.2]⟩)
theorem ah0{α:Type}(f:Nat→α)(d:Nat)(v:α)(x:Nat):upd f d v x=if x=d then v else f x:=rfl
theorem aG(P:Program)(s:St)(t:Nat):pJ P s [.tmp t]=some (s.env t):=rfl
theorem jq(P:Program)(s:St)(a b:Nat):pJ P s [.tmp a,.tmp b]=some (.tup [s.env a,s.env b]):=rfl
theorem wZ(P:Program)(s:St)(a b c:Nat):pJ P s [.tmp a,.tmp b,.tmp c]=some (.tup [s.env a,s.env b,s.env c]):=rfl
theorem zL(P:Program)(s:St)(a b c d:Nat):pJ P s [.tmp a,.tmp b,.tmp c,.tmp d]=some (.tup [s.env a,s.env b,s.env c,s.env d]):=rfl
def UG(P:Program)(rs:List ResultVar)(r:V)(s:St):Prop:=∃r0 l,pJ P s rs=some r0∧List.Nodup l∧r0.any (Tag.notIn l) (fun _=>true) false=false∧r0.map (sF l) id=r
theorem UH(P:Program)(rs:List ResultVar)(r:V)(s:St):ac6 P rs r .ret s=UG P rs r s:=rfl
theorem Hz(P:Program)(rs:List ResultVar)(r:V)(s:St):ac6 P rs r .normal s=UG P rs r s:=rfl
theorem eU{P:Program}{rs:List ResultVar}{r:V}{s:St}(l:List Nat)(r0:V)(h:pJ P s rs=some r0)(hl:l.Nodup)(hi:r0.any (Tag.notIn l) (fun _=>true) false=false)(hr:r0.map (sF l) id=r):UG P rs r s:=⟨r0,l,h,hl,hi,hr⟩
theorem akN(x y:Bool):(bif true then x else y)=x:=rfl
theorem akO(x y:Bool):(bif false then x else y)=y:=rfl
theorem ah1(x y:Prop):(bif true then x else y)=x:=rfl
theorem ah2(x y:Prop):(bif false then x else y)=y:=rfl
def pgx:=aI @ah1 (aI @ah2 (aI @Uf (aI @ado (aI @akN (aI @akO (aI @ah0 (aI @NQ (aI @Ud (aI @Ue (aI @XX (aI @adq (aI @adr (aI @UH @Hz)))))))))))))
theorem di{D:Dw}{P:Program}[Tb P]{b:Bool}{x y:Code}{Q:Exit→St→Prop}{s:St}(ht:b=true→wpS D P x Q s)(hf:b=false→wpS D P y Q s):Dh D P (.c (.bool b)) x y Q s:=JW D P ht hf
theorem bK{P:Program}[Tb P]{b want:Bool}{dsts:List (Option Nat)}{Q:Exit→St→Prop}{o:Oper}{rest:List Oper}{s:St}(ht:b=want→az P s o (FQ P dsts Q rest))(hf:b = !want→wY P dsts Q rest (s.put o.dst (.c undef))) :
  nZ P (some (.c (.bool b))) want dsts Q o rest s:=Hq P ht hf
section
variable {ι:Type} {D:Dw} {P:Program} [Tb P]
def AZ(S:ι→St)(Inv:ι→Prop)(μ:ι→Nat)(i:ι)(s:St):Prop:=∃m s3,m<μ i∧Weak s s3∧∃j,Inv j∧μ j=m∧s3=S j
theorem bC{S:ι→St}{Inv:ι→Prop}{μ:ι→Nat}{i:ι}{s:St}(j:ι)(l m:List Nat)(h1:Inv j)(h2:μ j<μ i)(h3:Keep l m s (S j)):AZ S Inv μ i s:=⟨μ j,S j,h2,h3.weak,j,h1,rfl,rfl⟩
def FU(S:ι→St)(Inv:ι→Prop)(μ:ι→Nat)(i:ι)(Q:Exit→St→Prop):Exit→St→Prop:=uB (AZ S Inv μ i) Q
theorem bu(S:ι→St)(Inv:ι→Prop)(μ:ι→Nat)(i:ι)(Q:Exit→St→Prop)(s:St):FU S Inv μ i Q .normal s=AZ S Inv μ i s:=rfl
theorem ny(S:ι→St)(Inv:ι→Prop)(μ:ι→Nat)(i:ι)(Q:Exit→St→Prop)(id:Nat)(s:St):FU S Inv μ i Q (.exit id) s=Q (.exit id) s:=rfl
theorem rF(S:ι→St)(Inv:ι→Prop)(μ:ι→Nat)(i:ι)(Q:Exit→St→Prop)(s:St):FU S Inv μ i Q .ret s=Q .ret s:=rfl
theorem vO{x:Code}{Q:Exit→St→Prop}{s:St}(S:ι→St)(Inv:ι→Prop)(μ:ι→Nat)(i0:ι)(l m:List Nat)(hk:Keep l m s (S i0))(h0:Inv i0)
  (hr:∀i,Inv i→∀s,s=S i→wpS D P x (FU S Inv μ i Q) s):FT D P x Q s:=by
 refine⟨fun n s1=>∃i,Inv i∧μ i=n∧s1=S i,μ i0,⟨S i0,hk.weak,i0,h0,rfl,rfl⟩, ?_⟩
 rintro n s1 ⟨i,hi,rfl,rfl⟩
 exact hr i hi _ rfl
end
end Go.Pg
end
namespace Go.Pg
open Go
def oct(l:List Nat):Prop:=∀b∈l,b<256
def sB(l:List Nat):ByteArray:=⟨(l.map UInt8.ofNat).toArray⟩
def bv(l:List Nat):List V:=l.map fun (b:Nat)=>V.c (.int .u8 (b:Int))
def sv(l:List (List Nat)):List V:=l.map fun b=>V.c (.string (sB b))
theorem dV:oct []:=fun b h=>by cases h
theorem nK{a:Nat}(h:a<256):oct [a]:=by intro x hx;simp only[List.mem_singleton] at hx;omega
theorem bM{a b:List Nat}(h:oct a)(h':oct b):oct (a++b):=by intro x hx;rcases List.mem_append.1 hx with hx|hx;exact h x hx;exact h' x hx
theorem pM{a:Nat}{l:List Nat}(h:a<256)(h':oct l):oct (a::l):=bM (a:=[a]) (nK h) h'
theorem J7{l:List Nat}(h:oct l)(e:Nat):oct (l.take e):=fun x hx=>h x (List.mem_of_mem_take hx)
theorem Dp{l:List Nat}(h:oct l)(e:Nat):oct (l.drop e):=fun x hx=>h x (List.mem_of_mem_drop hx)
theorem gW{l:List Nat}(h:oct l)(i:Nat):l.getD i 0<256:=by
 rcases Nat.lt_or_ge i l.length with h1|h1
 ·simp only[List.getD,List.getElem?_eq_getElem h1,Option.getD_some];exact h _ (List.getElem_mem h1)
 ·simp [List.getD,h1]
theorem ax(l:List Nat):(bv l).length=l.length:=by simp [bv]
theorem HY(l:List Nat)(i:Nat)(h:i<l.length):(bv l)[i]?=some (.c (.int .u8 (l.getD i 0:Nat))):=by simp [bv,h,List.getD]
theorem dP(l l':List Nat):bv l++bv l'=bv (l++l'):=by simp [bv]
theorem QO(l:List Nat)(n:Nat):(bv l).take n=bv (l.take n):=by simp [bv,List.map_take]
theorem QP(l:List Nat)(n:Nat):(bv l).drop n=bv (l.drop n):=by simp [bv,List.map_drop]
theorem au(l:List (List Nat)):(sv l).length=l.length:=by simp [sv]
theorem iK(l:List (List Nat))(i:Nat)(h:i<l.length):(sv l)[i]?=some (.c (.string (sB (l.getD i [])))):=by simp [sv,h,List.getD]
theorem Oa(l l':List (List Nat)):sv l++sv l'=sv (l++l'):=by simp [sv]
theorem bD(l:List Nat):(sB l).size=l.length:=by simp [sB,ByteArray.size]
theorem H5{l:List Nat}(h:oct l)(i:Nat):((sB l).data.toList.getD i 0).toNat=l.getD i 0:=by
 simp only[sB,List.getD,List.getElem?_map]
 rcases Nat.lt_or_ge i l.length with h1|h1
 ·simp only[List.getElem?_eq_getElem h1,Option.map_some,Option.getD_some]
  have:=h _ (List.getElem_mem h1)
  simp only[UInt8.toNat_ofNat']
  omega
 ·simp [List.getElem?_eq_none h1]
theorem ah3(a b:List Nat):sB a++sB b=sB (a++b):=by
 apply ByteArray.ext
 rw[ByteArray.data_append]
 simp [sB]
theorem H6(l:List Nat)(i j:Nat):(sB l).extract i j=sB ((l.take j).drop i):=by
 apply ByteArray.ext
 rw[ByteArray.data_extract]
 apply Array.ext'
 simp [sB,List.map_drop,List.map_take,List.drop_take]
theorem ah4{a b:List Nat}(ha:oct a)(hb:oct b)(h:sB a=sB b):a=b:=by
 have hl:a.length=b.length:=by have:=congrArg ByteArray.size h;rwa [bD,bD] at this
 apply List.ext_getElem?
 intro i
 rcases Nat.lt_or_ge i a.length with h1|h1
 ·have e1:=H5 ha i
  have e2:=H5 hb i
  rw[h] at e1
  have:a.getD i 0=b.getD i 0:=e1.symm.trans e2
  simp only[List.getD,List.getElem?_eq_getElem h1,List.getElem?_eq_getElem (show i<b.length by omega),Option.getD_some] at this
  rw[List.getElem?_eq_getElem h1,List.getElem?_eq_getElem (show i<b.length by omega),this]
 ·rw[List.getElem?_eq_none h1,List.getElem?_eq_none (by omega)]
theorem sJ{a b:List Nat}(ha:oct a)(hb:oct b):decide (sB a=sB b)=decide (a=b):=by
 by_cases h:a=b
 ·subst h;simp
 ·rw[decide_eq_false h,decide_eq_false (fun e=>h (ah4 ha hb e))]
theorem aq8(z:ByteArray):∃l,oct l∧z=sB l:=by
 refine⟨z.data.toList.map UInt8.toNat, ?_, ?_⟩
 ·intro b hb
  obtain⟨c,_,rfl⟩:=List.mem_map.1 hb
  exact c.toNat_lt
 ·apply ByteArray.ext
  apply Array.ext'
  simp [sB,Function.comp_def]
theorem adW(P:Program)(t:TypeId)(a b:List Nat)(h:a.length+b.length≤9223372036854775807):eu P .add t (.c (.string (sB a))) (.c (.string (sB b)))=some (.c (.string (sB (a++b)))):=by
 rw[Uh,bD,bD,if_pos h,ah3]
theorem YS(l:List Nat):u8s (bv l)=some (l.map fun (b:Nat)=>(b:Int)):=by
 induction l with
 | nil=>rfl
 | cons a l ih=>simp only[bv,List.map_cons] at ih ⊢;simp only[u8s,ih];rfl
end Go.Pg
