/-
  Merged texts.
-/
import Derived.Orders
import Derived.Test.YtopbmdnbdpjheaaGreatWAC
import Derived.Handy
import Derived.KernelRfl
set_option linter.all false
set_option linter.unusedVariables false
set_option linter.unusedSimpArgs false
set_option linter.unusedSectionVars false
set_option linter.defProp false
set_option maxRecDepth 100000
set_option maxHeartbeats 8000000
section
namespace Go.Pg
open Go
def cO(P:Program)[Tb P](d:List (Option Nat))(o:Oper)(κ:Kd)(s s':St):Prop :=
 match o.guard with
 |none=>aB P s o (fun k s1=>k=κ/\s1=s')
 |some (j,a)=>(∃b,jT s d j=some (.c (.bool b))/\(if b=a then aB P s o (fun k s1=>k=κ/\s1=s')else κ = .p/\s'=s.put o.dst (.c undef))) \/
   ∃v,jT s d j=some (.c v)/\(∀b,v ≠ .bool b)/\κ = .p/\s'=s.put o.dst (.c undef)
def zh:Operand->Option Nat
 | .tmp t=>some t
 |_=>none
def lkO(o:Oper):List Nat:=o.op.operands.toList.filterMap zh
def lkG(a:List (Option Nat))(o:Oper):List Nat:=match o.guard with|some (j,_)=>(match a[j]? with|some (some d)=>[d]|_=>[])|none=>[]
def lk(d:List (Option Nat))(o:Oper):List Nat:=lkO o++lkG d o
section
variable {P:Program} [Tb P] {dsts:List (Option Nat)} {s s' s1 s2:St} {o o1 o2:Oper} {κ κ1 κ2:Kd}
theorem jV(h:∀t∈lkO o,s'.env t=s.env t):∀x∈o.op.operands.toList,s'.ev x=s.ev x:=by
 intro x hx
 cases x with
 |tmp t=>exact h t (Gm.2 ⟨_,hx,rfl⟩)
 |_=>rfl
theorem xg{j:Nat}{a:Bool}(hg:o.guard=some (j,a))(h:∀t∈lkG dsts o,s'.env t=s.env t):jT s' dsts j=jT s dsts j:=by grind[jT,lkG]
theorem tZ{a b:Option Nat}{v u:V}(h:∀d,a=some d->b≠some d):(s.put a v).put b u=(s.put b u).put a v:=by
 cases a with
 |none=>rfl
 |some d =>
  cases b with
  |none=>rfl
  |some e=>exact apw (fun x=>h d rfl (by rw[x]))
theorem kU{a:Option Nat}{v:V}{t:Nat}(h:a≠some t):(s.put a v).env t=s.env t:=by
 cases a with
 |none=>rfl
 |some d=>simp[St.put,upd,show t≠d from fun e=>h (by rw[e])]
theorem Dt{a:Option Nat}{v:V}:(s.put a v).bx=s.bx:=by cases a<;>rfl
def Kd.isR:Kd->Bool
 | .r=>true
 | .o true=>true
 |_=>false
def Kd.isV:Kd->Bool
 | .o _=>true
 | .p=>true
 | .q=>true
 | .r=>true
 | .a _=>true
 |_=>false
def Kd.isX:Kd->Bool
 | .x=>true
 | .w _ _=>true
 | .n=>true
 | .g _=>true
 |_=>false
theorem abz{v:V}{id k:Nat}(h : .w id k=qO v):False:=by unfold qO at h;split at h<;>cases h
theorem abv{v:V}(h:qO v = .n):v = .c (.slice none 0 0)\/∃k,v = .sl .nn k []:=by unfold qO at h;split at h<;>first|exact .inl rfl|exact .inr ⟨_,rfl⟩|cases h
theorem abt{v:V}{id:Nat}(h:qO v = .g id):∃e k xs,v = .sl (.own id e) k xs:=by unfold qO at h;grind
theorem abu(v:V):(qO v).isX=true:=by unfold qO;split<;>rfl
theorem OQ(s:St)(op:Op):(kx s op).isX=true:=by
 unfold kx
 split
 .split<;>rfl
 all_goals first|rfl|exact abu _
theorem ak0(v:V):(kr v).isR=true:=by unfold kr;split<;>rfl
theorem V9(v:V):(kr v).isX=false:=by unfold kr;split<;>rfl
theorem Hz(op:Op)(l:List V)(v:V):(kqo op l v).isX=false/\kqo op l v ≠ .r/\kqo op l v ≠ .z:=by
 have h1:(kq l v).isX=false/\kq l v ≠ .r/\kq l v ≠ .z:=by unfold kq;(repeat' split)<;>exact⟨rfl,by simp,by simp⟩
 have h2:(ka l v).isX=false/\ka l v ≠ .r/\ka l v ≠ .z:=by
  unfold ka;split
  .exact⟨rfl,by simp,by simp⟩
  .exact h1
 unfold kqo;(repeat' split)<;>first|exact h1|exact h2
theorem akZ{op:Op}{l:List V}{v:V}(h:kqo op l v = .p):(l.all V.free&&v.calm)=true:=by
 have h1:kq l v = .p->(l.all V.free&&v.calm)=true:=by grind[kq]
 have h2:ka l v = .p->(l.all V.free&&v.calm)=true:=by grind[ka]
 unfold kqo at h;(repeat' split at h)<;>first|exact h1 h|exact h2 h
theorem as3(h:cO P dsts o κ s s')(hk:κ.isV=true) :
  ∃(v:V) (N:List Nat),s'=s.put o.dst v/\(∀t∈N,t∈lk dsts o)/\(κ = .p->v.calm=true/\∀t∈N,(s.env t).free=true) /\
   ∀s2:St,(∀t∈N,s2.env t=s.env t)->(κ.isR=true->s2.bx=s.bx)->cO P dsts o κ s2 (s2.put o.dst v):=by
 have c:aB P s o (fun k s1=>k=κ/\s1=s')->∃(v:V),s'=s.put o.dst v/\(κ = .p->v.calm=true/\∀t∈lkO o,(s.env t).free=true) /\
   ∀s2:St,(∀t∈lkO o,s2.env t=s.env t)->(κ.isR=true->s2.bx=s.bx)->aB P s2 o (fun k s1=>k=κ/\s1=s2.put o.dst v):=by
  intro h
  rcases Bo h with⟨v,hv,n,rfl⟩|⟨v,hv,rfl,rfl⟩|⟨_,_,_,n,_⟩|rfl|⟨rfl,v,hv,rfl⟩
  .refine⟨v,rfl,fun hp => ?_,fun s2 he _ => ?_⟩
   .rw[hp]at n
    have p:=akZ n.symm
    simp only[lL]at p
    refine⟨p.2,fun t a => ?_⟩
    obtain⟨x,hx,f⟩:=Gm.1 a
    cases x with
    |tmp u =>
     simp only[zh,aO]at f
     subst f
     exact lM.1 p.1 _ (dP.2 ⟨_,hx,rfl⟩)
    |_=>simp[zh]at f
   .have m:=jV he
    have:=QW (ZT m hv)
    have e:iV s2 o=iV s o:=kN fun x hx=>m x hx
    rw[e,<-n]at this
    exact this
  .grind[kr,YQ,YP,jV,ak0]
  .have:=OQ s o.op
   rw[<-n]at this
   cases κ<;>simp[Kd.isX,Kd.isV]at this hk
  .cases hk
  .exact⟨v,rfl,fun h=>(by cases h),fun s2 he hb=>als (alr (jV he) (hb rfl) hv)⟩
 unfold cO at h
 split at h
 .rename_i hg;obtain⟨v,h1,h2,h3⟩:=c h;refine⟨v,lkO o,h1,fun t a=>by simp[lk,a],h2,fun s2 he hb => ?_⟩;unfold cO;rw[hg];exact h3 s2 he hb
 .rename_i j r hg
  have g:∀v,jT s dsts j=some (.c v)->∀t∈lkG dsts o,(s.env t).free=true:=by
   intro v hb t a
   unfold lkG at a
   rw[hg]at a
   simp only at a
   unfold jT at hb
   cases hd:dsts[j]? with
   |none=>rw[hd]at a;cases a
   |some x =>
    cases x with
    |none=>rw[hd]at a;cases a
    |some d =>rw[hd]at a hb;simp only[jX]at a;subst a;simp only[aO]at hb;rw[hb];rfl
  rcases h with⟨b,hb,h⟩|⟨v,hb,q,rfl,rfl⟩
  case inr =>
   refine⟨.c undef,lkG dsts o,rfl,fun t a=>by simp[lk,a],fun _=>⟨rfl,g _ hb⟩,fun s2 he l => ?_⟩
   unfold cO
   rw[hg]
   exact .inr ⟨v,by rw[xg hg he];exact hb,q,rfl,rfl⟩
  have g:=g _ hb;split at h
  .rename_i i;obtain⟨v,h1,h2,h3⟩:=c h;refine⟨v,lk dsts o,h1,fun t a=>a,fun hp=>⟨(h2 hp).1,fun t a => ?_⟩,fun s2 he l => ?_⟩
   .rcases iG.1 a with a|a
    .grind
    .grind
   .grind[cO,xg,lk]
  .rename_i i;obtain⟨rfl,rfl⟩:=h;refine⟨.c undef,lkG dsts o,rfl,fun t a=>by simp[lk,a],fun _=>⟨rfl,g⟩,fun s2 he l => ?_⟩;unfold cO;rw[hg];exact .inl ⟨b,by rw[xg hg he];exact hb,by rw[ag i];exact⟨rfl,rfl⟩⟩
theorem OU{d:Nat}(h:d∉lkO o):∀x∈o.op.operands.toList,x ≠ .tmp d:=by rintro x hx rfl;exact h (Gm.2 ⟨_,hx,rfl⟩)
theorem Wh{op:Op}{d:Nat}{v:V}(hd:∀x∈op.operands.toList,x ≠ .tmp d):kx (s.put (some d) v) op=kx s op:=by
  unfold kx
  split
  . rename_i t x y
    rw[Jv (hd x (by simp [Op.operands]))]
  all_goals first
    | rfl
    | (rename_i x y ts
       rw[Jv (hd x (by simp [Op.operands,Call.operands]))])
theorem as5(hx:κ.isX=true)(h:cO P dsts o κ s s'):∃(v:V) (a:St) (ψ:V->V),Turns ψ/\(∀t,a.env t=ψ (s.env t))/\s'=a.put o.dst v /\
  ∀d y,d∉lk dsts o->y.calm=true->cO P dsts o κ (s.put (some d) y) ((a.put (some d) y).put o.dst v):=by
 have f:aB P s o (fun k s1=>k=κ/\s1=s')->∃(v:V) (a:St) (ψ:V->V),Turns ψ/\(∀t,a.env t=ψ (s.env t))/\s'=a.put o.dst v /\
   ∀d y,d∉lk dsts o->y.calm=true->aB P (s.put (some d) y) o (fun k s1=>k=κ/\s1=(a.put (some d) y).put o.dst v):=by
  intro h
  rcases Bo h with⟨v,hv,c,rfl⟩|⟨v,hv,c,_⟩|⟨v,a,hv,c,rfl⟩|c|⟨c,_⟩
  .simp_all[Hz]
  .simp_all[V9]
  .obtain⟨ψ,h1,h2⟩:=ZV hv
   refine⟨v,a,ψ,h1,h2,rfl,fun d y hd g => ?_⟩
   have:=IL ((ZU (d:=d) (x:=y) (OU (fun hm=>hd (by simp[lk,hm]))) g).2 ⟨a,hv,rfl⟩)
   grind[Wh,OU,lk]
  .rw[c]at hx;cases hx
  .rw[c]at hx;cases hx
 unfold cO at h
 split at h
 .grind[cO]
 .rcases h with⟨b,hb,h⟩|⟨_,_,_,h,_⟩;case inr=>rw[h]at hx;cases hx
  split at h
  .grind[cO,xg,kU,lk]
  .rw[h.1]at hx;cases hx
theorem as6{d:Nat}{y:V}(hx:κ.isX=true)(h:cO P dsts o κ (s.put (some d) y) s')(hd:d∉lk dsts o)(g:y.calm=true) :
  ∃(v:V) (c:St) (ψ:V->V),Turns ψ/\(∀t,c.env t=ψ (s.env t))/\cO P dsts o κ s (c.put o.dst v)/\s'=(c.put (some d) y).put o.dst v:=by
 have a:aB P (s.put (some d) y) o (fun k s1=>k=κ/\s1=s')->∃(v:V) (c:St) (ψ:V->V),Turns ψ/\(∀t,c.env t=ψ (s.env t))/\aB P s o (fun k s1=>k=κ/\s1=c.put o.dst v)/\s'=(c.put (some d) y).put o.dst v:=by
  intro h;rcases Bo h with⟨v,hv,f,rfl⟩|⟨v,hv,f,_⟩|⟨v,sB,hv,f,rfl⟩|f|⟨f,_⟩
  .simp_all[Hz,hx]
  .simp_all[V9]
  .grind[ZU,OU,lk,ZV,Wh,IL]
  .rw[f]at hx;cases hx
  .rw[f]at hx;cases hx
 unfold cO at h
 split at h
 .simp_all[cO]
 .rcases h with⟨b,hb,h⟩|⟨_,_,_,h,_⟩;case inr=>rw[h]at hx;cases hx
  split at h
  .obtain⟨v,c,ψ,h1,h2,h3,h4⟩:=a h;refine⟨v,c,ψ,h1,h2,?_,h4⟩;grind[cO,xg,kU,lk]
  .rw[h.1]at hx;cases hx
def TA:Kd->Kd->Bool
 | .x,.p=>true
 | .w _ _,.p=>true
 | .p,.x=>true
 | .p,.w _ _=>true
 | .a l,.w id k=>jk id k l
 | .w id k,.a l=>jk id k l
 | .g _,.p=>true
 | .p,.g _=>true
 | .a l,.g id=>l.all fun p=>p.1 != id
 | .g id,.a l=>l.all fun p=>p.1 != id
 | .o _,.g _=>true
 | .g _,.o _=>true
 | .n,b=>b.isV
 |a,.n=>a.isV
 |a,b=>a.isV&&b.isV
def D8(c:List (Option Nat))(a b:Oper):Bool :=
 (match a.dst with|some d => !(lk c b).contains d && !(b.dst == some d)|none=>true)&&(match b.dst with|some d => !(lk c a).contains d|none=>true)
theorem Sm(h:D8 dsts o1 o2=true):(∀d,o1.dst=some d->d∉lk dsts o2)/\(∀d,o1.dst=some d->o2.dst≠some d)/\(∀d,o2.dst=some d->d∉lk dsts o1):=by grind[D8]
theorem P6{ψ:V->V}{d:Option Nat}{v:V}:(s.put d v).mapV ψ=(s.mapV ψ).put d (ψ v):=by
 cases d with
 |none=>rfl
 |some d =>
  have e:(fun t=>ψ (upd s.env d v t))=upd (fun t=>ψ (s.env t)) d (ψ v):=by grind[upd]
  show(⟨fun t=>ψ (upd s.env d v t),_,_,_⟩:St)=⟨upd (fun t=>ψ (s.env t)) d (ψ v),_,_,_⟩;rw[e];rfl
def IsW(P:Program)(o:Oper)(id k:Nat)(i:Nat)(x1:V)(s:St):Prop :=
 ∃t x y e xs off,o.op = .store t x y/\s.ev x = .el (.own id e) k xs i off/\∀s2:St,s2.ev x=s.ev x->s2.ev y=s.ev y->rV P s2 t id k xs i off (s2.ev y)=some (s2.mapV (aY id k i x1))
theorem Zj{id k:Nat}(h:aB P s o (fun κ s1=>κ = .w id k/\s1=s')):∃i x1,IsW P o id k i x1 s/\s'=(s.mapV (aY id k i x1)).put o.dst .top:=by
 rcases Bo h with⟨v,hv,a,rfl⟩|⟨v,hv,a,_⟩|⟨v,E,hv,a,rfl⟩|a|⟨a,_⟩
 .have:=(Hz o.op (iV s o) v).1;rw[<-a]at this;cases this
 .grind[kr]
 .unfold kx at a;split at a
  .rename_i t x y b;split at a
   .rename_i id' e C xs i off hx;obtain⟨rfl,rfl⟩:=a;rcases hv with hv|⟨f,args,ts,g,fs,cs,r,d,_⟩
    .rw[b]at hv;simp only[xv,hx,bF]at hv;obtain⟨sB,j,rfl,rfl⟩:=hv;have c:=j;simp[rV,bg]at c;obtain⟨F,m,A,n,l,p,x1,q,u,rfl⟩:=c;refine⟨i,x1,⟨t,x,y,e,xs,off,b,hx,fun s2 h1 h2 => ?_⟩,rfl⟩;grind[rV]
    .grind
   .cases a
  all_goals first|cases a|exact(abz a).elim
 .cases a
 .cases a
theorem VR{id k i:Nat}{x1:V}(h:IsW P o id k i x1 s):aB P s o (fun κ s1=>κ = .w id k/\s1=(s.mapV (aY id k i x1)).put o.dst .top):=by obtain⟨t,x,y,e,xs,off,a,hx,h2⟩:=h;have hv:wu P s o .top (s.mapV (aY id k i x1)):=.inl (by rw[a];simp[xv,hx,h2 s rfl rfl]);grind[IL,kx]
theorem VQ{id k i:Nat}{x1:V}(h:IsW P o id k i x1 s)(he:∀x∈o.op.operands.toList,s'.ev x=s.ev x):IsW P o id k i x1 s':=by obtain⟨t,x,y,e,xs,off,a,hx,h2⟩:=h;have b:=he x (by rw[a];simp[Op.operands]);have c:=he y (by rw[a];simp[Op.operands]);exact⟨t,x,y,e,xs,off,a,by rw[b];exact hx,fun s2 h1 h3=>h2 s2 (h1.trans b) (h3.trans c)⟩
theorem as4{id k:Nat}(h:cO P dsts o (.w id k) s s'):∃i x1,s'=(s.mapV (aY id k i x1)).put o.dst .top/\∀s2:St,(∀t∈lk dsts o,s2.env t=s.env t)->cO P dsts o (.w id k) s2 ((s2.mapV (aY id k i x1)).put o.dst .top):=by
 unfold cO at h;split at h
 .rename_i hg;obtain⟨i,x1,h1,h2⟩:=Zj h;refine⟨i,x1,h2,fun s2 he => ?_⟩;unfold cO;rw[hg];exact VR (VQ h1 (jV fun t c=>he t (by simp[lk,c])))
 .rename_i j d hg;rcases h with⟨b,hb,h⟩|⟨_,_,_,h,_⟩;case inr=>cases h
  split at h
  .rename_i a;obtain⟨i,x1,h1,h2⟩:=Zj h;refine⟨i,x1,h2,fun s2 he => ?_⟩;unfold cO;rw[hg];refine .inl ⟨b,?_,by rw[ah a];exact VR (VQ h1 (jV fun t c=>he t (by simp[lk,c])))⟩;grind[xg,lk]
  .cases h.1
theorem ar6{id k i:Nat}{x1 v:V}{u:Value}(h:aY id k i x1 v = .c u):v = .c u:=by
 cases v with
 |c v=>exact h
 |sl t b xs=>cases t<;>simp[aY,aF]at h<;>(repeat' split at h)<;>simp_all
 |el t b xs a o=>cases t<;>simp[aY,aF]at h<;>(repeat' split at h)<;>simp_all
 |_=>simp only[aY,aF]at h;split at h<;>cases h
theorem Y4{id k i:Nat}{x1:V}{N:List Nat}(he:∀t∈lkO o,s'.env t=aY id k i x1 (s.env t)):∀x∈o.op.operands.toList,s'.ev x=aY id k i x1 (s.ev x):=by
 intro x hx
 cases x with
 |tmp t=>exact he t (Gm.2 ⟨_,hx,rfl⟩)
 |const v=>exact(ar7 v).symm
 |global g=>rfl
 |func f=>rfl
theorem QH{l:List (Nat×Nat)}(h:aB P s o (fun κ s1=>κ = .a l/\s1=s')):∃v,qv P s o.op=some v/\isA o.op=true/\(∀x∈o.op.operands.toList,(s.ev x).aOk=true)/\l=(iV s o).flatMap V.aL/\l≠[]/\s'=s.put o.dst v:=by
 rcases Bo h with⟨v,hv,a,rfl⟩|⟨v,hv,a,_⟩|⟨v,c,hv,a,rfl⟩|a|⟨a,_⟩
 .obtain⟨h1,h2,h3,h4,h5⟩:=akW a.symm;refine⟨v,?_,h1,fun x hx=>lM.1 h3 _ (dP.2 ⟨x,hx,rfl⟩),h4,h5,rfl⟩;rcases hv with hv|⟨f,args,ts,g,fs,cs,b,_⟩
  .exact hv
  .rw[b]at h1;cases h1
 .grind[kr]
 .have:=OQ s o.op;rw[<-a]at this;cases this
 .cases a
 .cases a
theorem akX{op:Op}(h:isA op=true):kqo op=ka:=by cases op<;>simp[isA]at h<;>rfl
theorem MC{l:List (Nat×Nat)}{v:V}(hv:qv P s o.op=some v)(hA:isA o.op=true)(a:∀x∈o.op.operands.toList,(s.ev x).aOk=true)(hl:l=(iV s o).flatMap V.aL)(hf:l≠[]):aB P s o (fun κ s1=>κ = .a l/\s1=s.put o.dst v):=by
 have:=QW (o:=o) (v:=v) (.inl hv);have h1:(iV s o).all V.aOk=true:=by rw[lM];intro x hx;obtain⟨y,b,rfl⟩:=dP.1 hx;exact a y b
 have e:kqo o.op (iV s o) v = .a l:=by
  rw[akX hA,ka];rw[hl]at hf⊢;split
  .grind
  .rename_i h;cases hm:(iV s o).flatMap V.aL with
   |nil=>exact absurd hm hf
   |cons p r=>exact(h p r h1 hm).elim
 grind
theorem RJ{s2:St}{id k i:Nat}{x1:V}(he:∀x∈o.op.operands.toList,s2.ev x=aY id k i x1 (s.ev x))(h:∀x∈o.op.operands.toList,(s.ev x).aOk=true/\jk id k (s.ev x).aL=true):(iV s2 o).flatMap V.aL=(iV s o).flatMap V.aL:=by
 have:∀m:List Operand,(∀x∈m,x∈o.op.operands.toList)->(m.map s2.ev).flatMap V.aL=(m.map s.ev).flatMap V.aL:=by
  intro m
  induction m with
  |nil=>intro _;rfl
  |cons x m a=>grind[Y5]
 exact this _ fun x hx=>hx
theorem RP{l:List (Nat×Nat)}{id k i:Nat}{x1:V}{s2:St}(d:jk id k l=true)(h:aB P s o (fun κ s1=>κ = .a l/\s1=s'))(he:∀t∈lkO o,s2.env t=aY id k i x1 (s.env t)):∃v,s'=s.put o.dst v/\aB P s2 o (fun κ s1=>κ = .a l/\s1=s2.put o.dst (aY id k i x1 v)):=by
 obtain⟨v,hv,hA,c,hl,hf,rfl⟩:=QH h;have b:=Y4 (N:=[]) he;have a:∀x∈o.op.operands.toList,(s.ev x).aOk=true/\jk id k (s.ev x).aL=true:=fun x hx=>⟨c x hx,TD (by rw[hl]at d;exact d) (dP.2 ⟨x,hx,rfl⟩)⟩
 have f:=Qe (P:=P) hA a b;rw[hv]at f;exact⟨v,rfl,MC f hA (fun x hx=>by rw[b x hx];exact(Y5 (a x hx).1 (a x hx).2).1) (by rw[RJ b a];exact hl) hf⟩
theorem RN{l:List (Nat×Nat)}{id k i:Nat}{x1:V}{s2:St}(d:jk id k l=true)(h:aB P s2 o (fun κ s1=>κ = .a l/\s1=s'))(he:∀t∈lkO o,s2.env t=aY id k i x1 (s.env t)):∃v,s'=s2.put o.dst (aY id k i x1 v)/\aB P s o (fun κ s1=>κ = .a l/\s1=s.put o.dst v):=by
 obtain⟨g,hv,hA,c,hl,hf,rfl⟩:=QH h;have b:=Y4 (N:=[]) he;have a:∀x∈o.op.operands.toList,(s.ev x).aOk=true/\jk id k (s.ev x).aL=true:=fun x hx=>by have h1:=c x hx;have h2:=TD (id:=id) (k:=k) (by rw[hl]at d;exact d) (dP.2 ⟨x,hx,rfl⟩);rw[b x hx]at h1 h2;exact ar5 h1 h2
 have f:=Qe (P:=P) hA a b;rw[hv]at f;obtain⟨v,h1,h2⟩:=bF.1 f.symm;subst h2;exact⟨v,rfl,MC h1 hA (fun x hx=>(a x hx).1) (by rw[<-RJ b a];exact hl) hf⟩
theorem VA{id k i:Nat}{x1:V}{s2:St}{j:Nat}{a:Bool}(hg:o.guard=some (j,a))(he:∀t∈lkG dsts o,s2.env t=aY id k i x1 (s.env t))(v:Value):jT s2 dsts j=some (.c v)↔jT s dsts j=some (.c v):=by
 unfold jT
 unfold lkG at he
 rw[hg]at he
 simp only at he
 cases hd:dsts[j]? with
 |none=>simp
 |some x =>
  cases x with
  |none=>simp
  |some d =>rw[hd]at he;simp;rw[he d Aa];exact⟨ar6,fun h=>by rw[h];rfl⟩
theorem asZ{l:List (Nat×Nat)}{id k i:Nat}{x1:V}{s2:St}(f:jk id k l=true)(h:cO P dsts o (.a l) s s')(he:∀t∈lk dsts o,s2.env t=aY id k i x1 (s.env t)):∃v,s'=s.put o.dst v/\cO P dsts o (.a l) s2 (s2.put o.dst (aY id k i x1 v)):=by
 unfold cO at h;split at h
 .simp_all[RP,lk,cO]
 .rename_i j d hg;rcases h with⟨b,hb,h⟩|⟨_,_,_,h,_⟩;case inr=>cases h
  split at h
  .rename_i a;obtain⟨v,h1,h2⟩:=RP f h (fun t c=>he t (by simp[lk,c]));refine⟨v,h1,?_⟩;unfold cO;rw[hg];exact .inl ⟨b,(VA hg (fun t c=>he t (by simp[lk,c])) _).2 hb,by rw[ah a];exact h2⟩
  .cases h.1
theorem asY{l:List (Nat×Nat)}{id k i:Nat}{x1:V}{s2:St}(f:jk id k l=true)(h:cO P dsts o (.a l) s2 s')(he:∀t∈lk dsts o,s2.env t=aY id k i x1 (s.env t)):∃v,s'=s2.put o.dst (aY id k i x1 v)/\cO P dsts o (.a l) s (s.put o.dst v):=by
 unfold cO at h;split at h
 .simp_all[RN,lk,cO]
 .rename_i j d hg;rcases h with⟨b,hb,h⟩|⟨_,_,_,h,_⟩;case inr=>cases h
  split at h
  .rename_i a;obtain⟨v,h1,h2⟩:=RN f h (fun t c=>he t (by simp[lk,c]));refine⟨v,h1,?_⟩;unfold cO;rw[hg];exact .inl ⟨b,(VA hg (fun t c=>he t (by simp[lk,c])) _).1 hb,by rw[ah a];exact h2⟩
  .cases h.1
theorem au2{v:V}(h:wu P s o v s1)(hk:kx s o.op = .n):∃δ,s1={s with nid:=s.nid+δ}/\∀s2:St,(∀x∈o.op.operands.toList,s2.ev x=s.ev x)->s2.nid=s.nid->wu P s2 o v {s2 with nid:=s2.nid+δ}:=by
 rcases h with h|⟨f,args,ts,g,fs,cs,r,i,hf,h1,h2,h3,h4,h5,H,rfl,rfl⟩
 .unfold kx at hk;split at hk
  .grind
  .rename_i t len parts a;rw[a]at h;simp only[xv,qp,bg,dh,aO,dR,uD]at h;obtain⟨e,n,k,d,q,z,u,xs,I,A,rfl,rfl⟩:=h;refine⟨1,rfl,fun s2 he j=>.inl ?_⟩
   have:(parts.toList.map fun p=>(p.1,s2.ev p.2))=parts.toList.map fun p=>(p.1,s.ev p.2):=by
    refine kN fun p hp => ?_
    rw[he p.2 (by rw[a];simp only[Op.operands];simpa using⟨p.1,by simpa using hp⟩)]
   grind[xv,qp]
  .rename_i t l c a;rw[a]at h;simp only[xv,yO]at h;split at h
   .rename_i L M k2 N hl J;simp only[bg,dh,aO,dR,uD]at h;obtain⟨e,n,k,d,q,z,u,A,rfl,rfl⟩:=h;refine⟨1,rfl,fun s2 he j=>.inl ?_⟩;have C:=he l (by rw[a];simp[Op.operands]);have G:=he c (by rw[a];simp[Op.operands]);grind[xv,yO]
   .cases h
  .grind[xv]
  .rename_i x y ts a;have hx:=abv hk;rw[a]at h;simp only[xv]at h;split at h
   .rename_i Q R t t2 m F;simp only[List.cons.injEq,jb]at m;obtain⟨rfl,rfl⟩:=m;rcases hx with hx|⟨K,hx⟩
    all_goals
     rw[hx]at h
     simp only[uG,bg,dh,aO,dR,uD]at h
     obtain⟨e,n,k,d,q,ys,u,A,rfl,rfl⟩:=h
     refine⟨1,rfl,fun s2 he j=>.inl ?_⟩
     have C:=he x (by rw[a];simp[Op.operands,Call.operands])
     have G:=he y (by rw[a];simp[Op.operands,Call.operands])
     rw[hx]at C
     simp only[a,xv,F,C,G,uG,n,q,u,dZ,ah A,j]
   .cases h
  .cases hk
 .refine⟨r.idb,rfl,fun s2 he j=>.inr ⟨f,args,ts,g,fs,cs,r,i,?_,?_,h2,?_,h4,?_,H,by rw[j],rfl⟩⟩
  all_goals
   rw[i]at he
   have E:s2.ev f=s.ev f:=he f (by simp[Op.operands,Call.operands])
   have b:args.toList.map s2.ev=args.toList.map s.ev:=kN fun x hx=>he x (by simp[Op.operands,Call.operands]at hx⊢;simp[hx])
   first
    |(rw[E];exact hf)
    |(rw[b];exact h1)
    |(rw[b];exact h3)
    |(rw[b];exact h5)
theorem We{op:Op}{s2:St}(he:∀x∈op.operands.toList,s2.ev x=s.ev x):kx s2 op=kx s op:=by
  unfold kx
  split
  . rename_i t x y
    rw[he x (by simp [Op.operands])]
  all_goals first
    | rfl
    | (rename_i x y ts
       rw[he x (by simp [Op.operands,Call.operands])])
theorem as2(h:cO P dsts o .n s s'):∃v δ,s'=St.put {s with nid:=s.nid+δ} o.dst v/\∀s2:St,(∀t∈lk dsts o,s2.env t=s.env t)->s2.nid=s.nid->cO P dsts o .n s2 (St.put {s2 with nid:=s2.nid+δ} o.dst v):=by
 have b:aB P s o (fun k s1=>k = .n/\s1=s')->∃v δ,s'=St.put {s with nid:=s.nid+δ} o.dst v/\∀s2:St,(∀t∈lkO o,s2.env t=s.env t)->s2.nid=s.nid->aB P s2 o (fun k s1=>k = .n/\s1=St.put {s2 with nid:=s2.nid+δ} o.dst v):=by
  intro h;rcases Bo h with⟨v,hv,a,rfl⟩|⟨v,hv,a,_⟩|⟨v,c,hv,a,rfl⟩|a|⟨a,_⟩
  .have:=(Hz o.op (iV s o) v).1;rw[<-a]at this;cases this
  .grind[kr]
  .grind[au2,IL,jV,We]
  .cases a
  .cases a
 grind[cO,lk,xg]
def qF(id:Nat)(s:St):St:={s.mapV (aF id)with nid:=max s.nid (id+1)}
theorem au1{v:V}{id:Nat}(h:wu P s o v s1)(hk:kx s o.op = .g id):s1=qF id s/\∀s2:St,(∀x∈o.op.operands.toList,s2.ev x=s.ev x)->wu P s2 o v (qF id s2):=by
 rcases h with h|⟨f,args,ts,g,fs,cs,r,b,hf,h1,h2,h3,h4,h5,u,rfl,rfl⟩
 .unfold kx at hk;split at hk
  .grind
  .cases hk
  .cases hk
  .cases hk
  .rename_i x y ts a;obtain⟨el,A,xs,hx⟩:=abt hk;rw[a]at h;simp[xv]at h;split at h
   .rename_i C E t t2 c i;obtain⟨rfl,rfl⟩:=c;rw[hx]at h;simp[uG,bg]at h;obtain⟨e,j,k,d,l,ys,m,n,rfl,rfl⟩:=h;refine⟨rfl,fun s2 he=>.inl ?_⟩;have p:=he x (by rw[a];simp[Op.operands,Call.operands]);have q:=he y (by rw[a];simp[Op.operands,Call.operands]);simp_all[xv,uG,qF]
   .cases h
  .cases hk
 .rw[b]at hk;cases hk
theorem as1{id:Nat}(h:cO P dsts o (.g id) s s'):∃v,s'=(qF id s).put o.dst v/\∀s2:St,(∀t∈lk dsts o,s2.env t=s.env t)->cO P dsts o (.g id) s2 ((qF id s2).put o.dst v):=by
 have b:aB P s o (fun k s1=>k = .g id/\s1=s')->∃v,s'=(qF id s).put o.dst v/\∀s2:St,(∀t∈lkO o,s2.env t=s.env t)->aB P s2 o (fun k s1=>k = .g id/\s1=(qF id s2).put o.dst v):=by
  intro h;rcases Bo h with⟨v,hv,a,rfl⟩|⟨v,hv,a,_⟩|⟨v,c,hv,a,rfl⟩|a|⟨a,_⟩
  .have:=(Hz o.op (iV s o) v).1;rw[<-a]at this;cases this
  .grind[kr]
  .obtain⟨rfl,h2⟩:=au1 hv a.symm;refine⟨v,rfl,fun s2 he => ?_⟩;have:=IL (h2 s2 (jV he));grind[We,jV]
  .cases a
  .cases a
 grind[cO,lk,xg]
theorem KL{id:Nat}{v:V}(h:v.aOk=true)(hl:(v.aL.all fun p=>p.1 != id)=true):aF id v=v:=by
 unfold aF
 cases v with
 |sl t k xs=>cases t<;>simp_all[V.has,V.any,Tag.is,V.aL]
 |el t k xs i off=>cases t<;>simp_all[V.has,V.any,Tag.is,V.aL]
 |_=>first|exact absurd h gy|simp[V.has,V.any]
theorem aph{id:Nat}{v:V}(h:∀k i x1,aY id k i x1 v=v):aF id v=v:=by
 cases v with
 |sl t k xs =>
  cases t with
  |own j e =>have:=h (k+1) 0 .top;grind[aY,aF,V.has,V.any,Tag.is]
  |_=>exact h 0 0 .top
 |el t k xs i off =>
  cases t with
  |own j e =>have:=h (k+1) 0 .top;grind[aY,aF,V.has,V.any,Tag.is]
  |_=>exact h 0 0 .top
 |_=>exact h 0 0 .top
theorem asa{id k i:Nat}{x1 v:V}(h:v.aOk=true)(hl:(v.aL.all fun p=>p.1 != id)=true):aY id k i x1 v=v:=by
 cases v with
 |sl t k xs=>cases t<;>first|exact KL h hl|simp_all[aY,V.aL]
 |el t k xs i off=>cases t<;>first|exact KL h hl|simp_all[aY,V.aL]
 |_=>exact KL h hl
theorem Zh{l:List (Nat×Nat)}{id:Nat}(hl:(l.all fun p=>p.1 != id)=true)(h:aB P s o (fun κ s1=>κ = .a l/\s1=s')):∃v,s'=s.put o.dst v/\aF id v=v/\(∀x∈o.op.operands.toList,(s.ev x).aOk=true/\aF id (s.ev x)=s.ev x)/\∀s2:St,(∀x∈o.op.operands.toList,s2.ev x=s.ev x)->aB P s2 o (fun κ s1=>κ = .a l/\s1=s2.put o.dst v):=by
 obtain⟨v,hv,hA,b,c,hf,rfl⟩:=QH h;have a:∀x∈o.op.operands.toList,((s.ev x).aL.all fun p=>p.1 != id)=true:=by intro x hx;rw[lM]at hl⊢;intro p hp;exact hl p (by rw[c];exact List.mem_flatMap.2 ⟨s.ev x,dP.2 ⟨x,hx,rfl⟩,hp⟩)
 refine⟨v,rfl,aph fun k i x1 => ?_,fun x hx=>⟨b x hx,KL (b x hx) (a x hx)⟩,fun s2 he => ?_⟩
 .have:=Qe (P:=P) (s:=s) (s2:=s) (id:=id) (k:=k) (i:=i) (x1:=x1) hA (fun x hx=>⟨b x hx,by have:=a x hx;unfold jk;rw[lM]at this⊢;intro p hp;simp[this p hp]⟩) (fun x hx=>(asa (b x hx) (a x hx)).symm);grind
 .have e:iV s2 o=iV s o:=kN fun x hx=>he x hx
  exact MC (by rw[Qd he];exact hv) hA (fun x hx=>by rw[he x hx];exact b x hx) (by rw[e];exact c) hf
theorem asX{l:List (Nat×Nat)}{id:Nat}(hl:(l.all fun p=>p.1 != id)=true)(h:cO P dsts o (.a l) s s'):∃v,s'=s.put o.dst v/\aF id v=v/\(∀t∈lk dsts o,(s.env t).aOk=true/\aF id (s.env t)=s.env t)/\∀s2:St,(∀t∈lk dsts o,s2.env t=s.env t)->cO P dsts o (.a l) s2 (s2.put o.dst v):=by
 have i:(∀x∈o.op.operands.toList,(s.ev x).aOk=true/\aF id (s.ev x)=s.ev x)->∀t∈lkO o,(s.env t).aOk=true/\aF id (s.env t)=s.env t:=by
  intro h t a
  obtain⟨x,hx,c⟩:=Gm.1 a
  cases x with
  |tmp k=>simp only[zh,aO]at c;subst c;exact h _ hx
  |_=>simp[zh]at c
 unfold cO at h;split at h
 .rename_i hg;obtain⟨v,h1,h2,h3,h4⟩:=Zh hl h;grind[lkG,cO,jV,lk]
 .rename_i j f hg;rcases h with⟨b,hb,h⟩|⟨_,_,_,h,_⟩;case inr=>cases h
  split at h
  .rename_i g;obtain⟨v,h1,h2,h3,h4⟩:=Zh hl h;refine⟨v,h1,h2,fun t a => ?_,fun s2 he => ?_⟩
   .rcases iG.1 a with a|a
    .grind
    .unfold lkG at a;rw[hg]at a;simp only at a;unfold jT at hb;cases hd:dsts[j]? with
     |none=>rw[hd]at a;cases a
     |some x =>
      cases x with
      |none=>rw[hd]at a;cases a
      |some d =>rw[hd]at a hb;simp only[jX]at a;subst a;simp only[aO]at hb;rw[hb];exact⟨rfl,rfl⟩
   .grind[cO,jV,lk,xg]
  .cases h.1
theorem KN{id:Nat}{d:Option Nat}{v:V}(h:aF id v=v):qF id (s.put d v)=(qF id s).put d v:=by unfold qF;rw[P6,h];cases d<;>rfl
theorem Yi{d:Option Nat}{v:V}{n:Nat}:({(s.put d v)with nid:=n}:St)=St.put {s with nid:=n} d v:=by cases d<;>rfl
theorem KO{d:Option Nat}{v:V}:(s.put d v).nid=s.nid:=by cases d<;>rfl
def mvS(P:Program)(t len:Nat)(parts:List (Nat×V)):Option V :=
 (elemT P t).bind fun e=>(tapp P e).bind fun p=>(zelem P e).bind fun z=>(setAll p.1 (List.replicate len z) parts).bind fun xs=>if len*p.1<=16777216 then some (.sl .fz p.1 xs)else none
def mvE(P:Program)(s:St)(op:Op):Option V :=
 match op with
 | .buildSlice t len parts=>mvS P t len (parts.toList.map fun p=>(p.1,s.ev p.2))
 |_=>none
theorem Xc{op:Op}(he:∀x∈op.operands.toList,s2.ev x=s.ev x):mvE P s2 op=mvE P s op:=by
 unfold mvE;split
 .rename_i t len parts
  have:(parts.toList.map fun p=>(p.1,s2.ev p.2))=parts.toList.map fun p=>(p.1,s.ev p.2):=by
   refine kN fun p hp => ?_
   rw[he p.2 (by simp[Op.operands];simpa using⟨p.1,by simpa using hp⟩)]
  rw[this]
 .rfl
theorem amu{C:Cx}{L:Lay}{a:Act}{w:World}{v:V}(h:mvE P s o.op=some v)(S:Sim C s L a w):∃u w' L',Does P o a w u w'/\Sim C s L' a w'/\Rep L' w' v u:=by
 obtain⟨m,op,l,pos,f,g⟩:=o;simp only at h;unfold mvE at h;split at h
 .rename_i t len parts;simp only[mvS,bg,uD,dh,aO]at h;obtain⟨e,he,k,bytes,hk,z,x,xs,hxs,i,rfl⟩:=h;obtain⟨d,h1,r,h3,h2,hm⟩:=MS S.ev he hk x hxs i;let c:World:=w.alloc (.cells d e);have n:c.heap[w.heap.size]?=some (.cells d e (0,0)):=heap_alloc_new w _;have G:Grow w c:=⟨rfl,rfl,rfl,by simp[c],fun k hk=>RowKit.Below.heap_alloc _ _ _ Om,by simp[c]⟩;have E:=Lay.leA L w.heap.size;have j:w.heap.size<c.heap.size:=by simp[c]
  refine⟨_,c,L.addA w.heap.size,.inl (by simp only[execOp,Sem.run_bind,h1];rfl),S.grow G E rfl (fun b cs h=>.inl h) (S.wf.addA S.hB j),some ⟨w.heap.size,0,none⟩,len,d.toList,by rw[h3],?_,?_⟩
  .exact h2.trans (p:=fun _=>false) (q:=fun _=>false) rfl (S.wf.whole G E)
  .refine⟨by omega,.inr ⟨w.heap.size,0,rfl,.inr rfl,d,e,(0,0),n,?_⟩⟩;grind
 .cases h
theorem Au(l:List V)(v:V):(kq l v).isV=true/\(kq l v).isX=false/\(kq l v ≠ .z)/\(kq l v ≠ .r)/\(kq l v ≠ .n)/\(∀m,kq l v ≠ .a m)/\(∀i k,kq l v ≠ .w i k)/\∀i,kq l v ≠ .g i:=by unfold kq;(repeat' split)<;>exact⟨rfl,rfl,(fun h=>by cases h),(fun h=>by cases h),(fun h=>by cases h),(fun _ h=>by cases h),(fun _ _ h=>by cases h),fun _ h=>by cases h⟩
def dL(P:Program)[Tb P](d:List (Option Nat))(o:Oper)(κ:Kd)(s s':St):Prop :=
 cO P d o κ s s'\/(o.guard=none/\∃v,mvE P s o.op=some v/\κ=kq (iV s o) v/\s'=s.put o.dst v)
theorem FT(h:dL P dsts o κ s s')(hk:κ.isV=true) :
  ∃(v:V) (N:List Nat),s'=s.put o.dst v/\(∀t∈N,t∈lk dsts o)/\(κ = .p->v.calm=true/\∀t∈N,(s.env t).free=true) /\
   ∀s2:St,(∀t∈N,s2.env t=s.env t)->(κ.isR=true->s2.bx=s.bx)->dL P dsts o κ s2 (s2.put o.dst v):=by
 rcases h with h|⟨hg,v,hv,d,rfl⟩
 .obtain⟨v,N,h1,h2,h3,h4⟩:=as3 h hk;exact⟨v,N,h1,h2,h3,fun s2 ha hb=>.inl (h4 s2 ha hb)⟩
 .refine⟨v,lkO o,rfl,fun t c=>by simp[lk,c],fun hp => ?_,fun s2 ha _=>.inr ⟨hg,v,?_,?_,rfl⟩⟩
  .have b:((iV s o).all V.free&&v.calm)=true:=by grind[kq]
   simp only[lL]at b;refine⟨b.2,fun t c => ?_⟩;obtain⟨x,hx,a⟩:=Gm.1 c;cases x with
   |tmp f =>simp[zh]at a;subst a;exact lM.1 b.1 _ (dP.2 ⟨_,hx,rfl⟩)
   |_=>simp[zh]at a
  .grind[Xc,jV]
  .have e:iV s2 o=iV s o:=kN fun x hx=>jV ha x hx
   grind
theorem Zg(hx:κ.isX=true)(h:dL P dsts o κ s s'):∃(v:V) (a:St) (ψ:V->V),Turns ψ/\(∀t,a.env t=ψ (s.env t))/\s'=a.put o.dst v /\
  ∀d y,d∉lk dsts o->y.calm=true->dL P dsts o κ (s.put (some d) y) ((a.put (some d) y).put o.dst v):=by
 rcases h with h|⟨_,v,_,c,_⟩
 .obtain⟨v,a,ψ,h1,h2,h3,h4⟩:=as5 hx h;exact⟨v,a,ψ,h1,h2,h3,fun d y hd b=>.inl (h4 d y hd b)⟩
 .simp_all[Au]
theorem ata{d:Nat}{y:V}(hx:κ.isX=true)(h:dL P dsts o κ (s.put (some d) y) s')(hd:d∉lk dsts o)(b:y.calm=true) :
  ∃(v:V) (a:St) (ψ:V->V),Turns ψ/\(∀t,a.env t=ψ (s.env t))/\dL P dsts o κ s (a.put o.dst v)/\s'=(a.put (some d) y).put o.dst v:=by
 rcases h with h|⟨_,v,_,c,_⟩
 .obtain⟨v,a,ψ,h1,h2,h3,h4⟩:=as6 hx h hd b;exact⟨v,a,ψ,h1,h2,.inl h3,h4⟩
 .simp_all[Au]
theorem Zf{id k:Nat}(h:dL P dsts o (.w id k) s s'):∃i x1,s'=(s.mapV (aY id k i x1)).put o.dst .top/\∀s2:St,(∀t∈lk dsts o,s2.env t=s.env t)->dL P dsts o (.w id k) s2 ((s2.mapV (aY id k i x1)).put o.dst .top):=by
 rcases h with h|⟨_,v,_,a,_⟩
 .obtain⟨i,x1,h1,h2⟩:=as4 h;exact⟨i,x1,h1,fun s2 he=>.inl (h2 s2 he)⟩
 .grind[Au]
theorem as8{l:List (Nat×Nat)}{id k i:Nat}{x1:V}{s2:St}(a:jk id k l=true)(h:dL P dsts o (.a l) s s')(he:∀t∈lk dsts o,s2.env t=aY id k i x1 (s.env t)):∃v,s'=s.put o.dst v/\dL P dsts o (.a l) s2 (s2.put o.dst (aY id k i x1 v)):=by
 rcases h with h|⟨_,v,_,b,_⟩
 .obtain⟨v,h1,h2⟩:=asZ a h he;exact⟨v,h1,.inl h2⟩
 .grind[Au]
theorem as7{l:List (Nat×Nat)}{id k i:Nat}{x1:V}{s2:St}(a:jk id k l=true)(h:dL P dsts o (.a l) s2 s')(he:∀t∈lk dsts o,s2.env t=aY id k i x1 (s.env t)):∃v,s'=s2.put o.dst (aY id k i x1 v)/\dL P dsts o (.a l) s (s.put o.dst v):=by
 rcases h with h|⟨_,v,_,b,_⟩
 .obtain⟨v,h1,h2⟩:=asY a h he;exact⟨v,h1,.inl h2⟩
 .grind[Au]
theorem Zd(h:dL P dsts o .n s s'):∃v δ,s'=St.put {s with nid:=s.nid+δ} o.dst v/\∀s2:St,(∀t∈lk dsts o,s2.env t=s.env t)->s2.nid=s.nid->dL P dsts o .n s2 (St.put {s2 with nid:=s2.nid+δ} o.dst v):=by
 rcases h with h|⟨_,v,_,b,_⟩
 .obtain⟨v,δ,h1,h2⟩:=as2 h;exact⟨v,δ,h1,fun s2 he a=>.inl (h2 s2 he a)⟩
 .grind[Au]
theorem Lm{id:Nat}(h:dL P dsts o (.g id) s s'):∃v,s'=(qF id s).put o.dst v/\∀s2:St,(∀t∈lk dsts o,s2.env t=s.env t)->dL P dsts o (.g id) s2 ((qF id s2).put o.dst v):=by
 rcases h with h|⟨_,v,_,a,_⟩
 .obtain⟨v,h1,h2⟩:=as1 h;exact⟨v,h1,fun s2 he=>.inl (h2 s2 he)⟩
 .grind[Au]
theorem Zc{l:List (Nat×Nat)}{id:Nat}(hl:(l.all fun p=>p.1 != id)=true)(h:dL P dsts o (.a l) s s'):∃v,s'=s.put o.dst v/\aF id v=v/\(∀t∈lk dsts o,(s.env t).aOk=true/\aF id (s.env t)=s.env t)/\∀s2:St,(∀t∈lk dsts o,s2.env t=s.env t)->dL P dsts o (.a l) s2 (s2.put o.dst v):=by
 rcases h with h|⟨_,v,_,a,_⟩
 .obtain⟨v,h1,h2,h3,h4⟩:=asX hl h;exact⟨v,h1,h2,h3,fun s2 he=>.inl (h4 s2 he)⟩
 .grind[Au]
theorem anC:(∀v:V,v.any Tag.isOwn (fun _=>false) true=false->∀id,v.any (Tag.is id) (fun _=>false) false=false)/\(∀l,V.anyL Tag.isOwn (fun _=>false) true l=false->∀id,V.anyL (Tag.is id) (fun _=>false) false l=false):=by
 refine V.ind ?_ ?_ ?_ ?_ ?_ ?_ ?_ ?_ ?_ ?_ ?_ ?_ ?_
 .intro v _ _;rfl
 .intro _ _;rfl
 .intro t k xs _ h id;cases t with
  |fz=>rfl
  |nn=>rfl
  |own i e=>simp[V.any,Tag.isOwn]at h
 .intro i b _ _;rfl
 .intro cs a h id;exact a h id
 .intro cs a h id;exact a h id
 .intro b off _ _;rfl
 .intro b be bo c bn _ _;rfl
 .intro t k xs i off _ h id;cases t with
  |fz=>rfl
  |nn=>rfl
  |own i e=>simp[V.any,Tag.isOwn]at h
 .grind[V.any]
 .intro _ _;rfl
 .intro _ _;rfl
 .grind[V.anyL]
theorem Dn{id:Nat}{v:V}(h:v.ownless=true):aF id v=v:=by simp_all[aF,V.has,anC,V.ownless]
theorem PW{id:Nat}{v:V}(h:(aF id v).ownless=true):aF id v=v:=by grind[aF,V.ownless,V.any]
theorem Xx{l:List V}(h:(V.agg l).ownless=true):∀x∈l,x.ownless=true:=by
 have key:∀l:List V,V.anyL Tag.isOwn (fun _=>false) true l=false->∀x∈l,x.ownless=true:=by
  intro l
  induction l with
  |nil=>intro _ x hx;cases hx
  |cons a l i =>
   intro h x hx;simp[V.anyL]at h;rcases fG.1 hx with rfl|hx
   .grind[V.ownless]
   .grind
 grind[V.ownless,V.any]
theorem WM{id:Nat}{l:List V}(h:∀x∈l,aF id x=x):l.map (aF id)=l:=by induction l<;>grind
theorem ak2{t off id:Nat}{cs:List V}{v:V}(h:jI P t cs off=some v)(hv:v.ownless=true):jI P t (cs.map (aF id)) off=some v:=by
 unfold jI at *;split at h
 .simp[bg]at h⊢;obtain⟨n,h1,h2,rfl⟩:=h;refine⟨n,h1,by simpa using h2,?_⟩;rw[<-L8,<-aau,WM fun x hx=>Dn (Xx hv x hx)]
 .grind[Dn]
 .cases h
theorem ak3{t off id:Nat}{cs:List V}{v:V}(h:jI P t (cs.map (aF id)) off=some v)(hv:v.ownless=true):jI P t cs off=some v:=by
 unfold jI at *;split at h
 .simp[bg]at h⊢;obtain⟨n,h1,h2,rfl⟩:=h;refine⟨n,h1,by simpa using h2,?_⟩;rw[<-L8,<-aau]at hv⊢;rw[WM fun x hx=>PW (Xx hv _ (dP.2 ⟨x,hx,rfl⟩))]
 .grind[PW]
 .cases h
def poE(id:Nat)(e:Me):Me:=(e.1,aF id e.2.1,e.2.2)
theorem KJ{id:Nat}{v:V}{u:Value}(h:aF id v = .c u):v = .c u:=by grind[aF]
theorem O5(id:Nat):∀l:List V,mpP (l.map (aF id))=(mpP l).map fun q=>q.map (poE id)
 |[]=>rfl
 |[a]=>by simp_all[mpP,aF]
 |[a,b]=>by simp_all[mpP,aF]
 |a::v::b::r=>by
  have i:=O5 id r;by_cases ha:∃k,a = .c k
  .obtain⟨k,rfl⟩:=ha;by_cases hb:∃n,b = .c (.int .i64 n)
   .obtain⟨n,rfl⟩:=hb;show(if 0<=n then(mpP (r.map (aF id))).map ((k,aF id v,n.toNat)::·)else none)=(if 0<=n then(mpP r).map ((k,v,n.toNat)::·)else none).map _;rw[i];split
    .simp only[xO];rfl
    .rfl
   .have c:mpP (.c k::v::b::r)=none:=by simp_all[mpP]
    have d:mpP ((V.c k::v::b::r).map (aF id))=none:=by
     show mpP (.c k::aF id v::aF id b::r.map (aF id))=none;unfold mpP;split
     .simp_all
     .grind[KJ]
     .rfl
    rw[c,d];rfl
  .have c:mpP (a::v::b::r)=none:=by unfold mpP;split<;>simp_all
   have d:mpP ((a::v::b::r).map (aF id))=none:=by
    show mpP (aF id a::aF id v::aF id b::r.map (aF id))=none;unfold mpP;split
    .simp_all
    .grind[KJ]
    .rfl
   rw[c,d];rfl
theorem W9{id:Nat}{l:List V}{q:Nat×List Me}(h:mpQ l=some q):mpQ (l.map (aF id))=some (q.1,q.2.map (poE id)):=by rw[WX (clk:=q.1) (ps:=q.2) h];show(if(0:Int)<=q.1 then(mpP ((mpF q.2).map (aF id))).bind fun ps=>if(q.2.length:Int)=ps.length then some ((q.1:Int).toNat,ps)else none else none)=_;grind[O5,O4]
theorem Xa{id:Nat}{l:List V}{q:Nat×List Me}(h:mpQ (l.map (aF id))=some q):∃q',mpQ l=some q'/\q=(q'.1,q'.2.map (poE id)):=by
 unfold mpQ at h;split at h
 .rename_i clk m r c;simp[dh,bg,aO]at h;obtain⟨f,ps,h1,h2,rfl⟩:=h;cases l with
  |nil=>simp at c
  |cons a l=>cases l with
   |nil=>simp at c
   |cons b l =>simp at c;obtain⟨ha,hb,rfl⟩:=c;rw[KJ ha,KJ hb];rw[O5,bF]at h1;obtain⟨d,h3,rfl⟩:=h1;refine⟨(clk.toNat,d),?_,rfl⟩;show(if 0<=clk then(mpP l).bind fun ps=>if m=ps.length then some (clk.toNat,ps)else none else none)=_;grind
 .cases h
theorem OZ(id:Nat)(k:Value):∀(ps:List Me) (i:Nat),mIx (ps.map (poE id)) k i=(mIx ps k i).map fun r=>r.map fun x=>(x.1,aF id x.2)
 |[],i=>rfl
 |(a,v,b)::ps,i=>by have c:=OZ id k ps (i+1);grind[mIx,poE]
theorem WI(id:Nat)(r:Option (Nat×V))(z:Value)(h:∀j,aF j (jd z)=jd z):AA (r.map fun x=>(x.1,aF id x.2)) z=aF id (AA r z):=by
 cases r with
 |none=>exact(h id).symm
 |some x=>rfl
theorem Yb(id:Nat)(z:Value):aF id (jd z)=jd z:=by
 have key:∀l:List Value,V.anyL (Tag.is id) (fun _=>false) false (l.map .c)=false:=by
  intro l;induction l with
  |nil=>rfl
  |cons a l i=>simp[V.anyL,V.any,i]
 cases z<;>first|rfl|(show(if V.any _ _ _ _=true then _ else _)=_;simp[jd,V.any,key])
theorem abQ{t:TypeId}{id:Nat}{q:Nat×List Me}{key v:V}{ok:Bool}(hv:v.ownless=true):atM P t q key ok=some v->atM P t (q.1,q.2.map (poE id)) key ok=some v:=by
 unfold atM;simp only[bg];rintro⟨p,h1,h2⟩;refine⟨p,h1,?_⟩;split at h2
 .simp[bg]at h2⊢;obtain⟨h3,r,h4,z,h5,h⟩:=h2;refine⟨h3,_,(by rw[OZ,h4];rfl),z,h5,?_⟩;rw[WI id r z (fun j=>Yb j z)];grind[Dn,V.ownless,V.any,V.anyL]
 .cases h2
theorem abR{t:TypeId}{id:Nat}{q:Nat×List Me}{key v:V}{ok:Bool}(hv:v.ownless=true):atM P t (q.1,q.2.map (poE id)) key ok=some v->atM P t q key ok=some v:=by
 unfold atM;simp only[bg];rintro⟨p,h1,h2⟩;split at h2
 .simp[bg]at h2⊢;obtain⟨h3,r',h4,z,h5,h⟩:=h2;rw[OZ,bF]at h4;obtain⟨r,h4,rfl⟩:=h4;rw[WI id r z (fun j=>Yb j z)]at h;grind[aF,V.ownless,V.any,V.anyL]
 .cases h2
def pB(id:Nat)(b:BX):BX:=fun x=>(b x).map fun y=>(y.1,y.2.map (aF id))
def BxN(id:Nat)(b a:BX):Prop:=a=b\/a=pB id b\/b=pB id a
theorem aqU{id:Nat}{op:Op}{v:V}{s2:St}(h:rv P s op=some v)(hv:v.ownless=true)(he:∀x∈op.operands.toList,s2.ev x=s.ev x)(hb:BxN id s.bx s2.bx):rv P s2 op=some v:=by
 rcases hb with hb|hb|hb
 .grind[YP]
 .unfold rv at *;split at h
  .rename_i t x;rw[he x (by simp[Op.operands])];split at h
   .rename_i b off hx;simp only[nV,bg]at h⊢;obtain⟨y,h1,h2⟩:=h;simp_all[aF,pB,ak2]
   .cases h
  .rename_i src d x;rw[he x (by simp[Op.operands])];unfold pY at *;split at h
   .simp only[bg,dh,aO]at h⊢;obtain⟨y,h1,h2,h3⟩:=h;simp_all[aF,pB]
   .cases h
  .rename_i t x i ok;rw[he x (by simp[Op.operands]),he i (by simp[Op.operands])];split at h
   .simp only[lkB,bg]at h⊢;obtain⟨y,h1,q,h2,h3⟩:=h;exact⟨(y.1,y.2.map (aF id)),by rw[hb,pB,h1];rfl,_,W9 h2,abQ hv h3⟩
   .cases h
  .rename_i args ts;split at h
   .rename_i x t hx c;have a:args=#[x]:=by apply iE;simpa using hx
    subst a;rw[he x (by simp[Op.operands,Call.operands])];split at h
    .simp only[lnB,bg,bF]at h⊢;obtain⟨y,h1,q,h2,p,h3,h4⟩:=h;exact⟨(y.1,y.2.map (aF id)),by rw[hb,pB,h1];rfl,_,W9 h2,p,h3,by rw[aj];exact h4⟩
    .cases h
   .cases h
  .cases h
 .unfold rv at *;split at h
  .rename_i t x;rw[he x (by simp[Op.operands])];split at h
   .rename_i b off hx;simp only[nV,bg]at h⊢;obtain⟨y,h1,h2⟩:=h;rw[hb,pB,bF]at h1;obtain⟨z,h1,rfl⟩:=h1;exact⟨z,h1,ak3 h2 hv⟩
   .cases h
  .rename_i src d x;rw[he x (by simp[Op.operands])];unfold pY at *;split at h
   .simp only[bg,dh,aO]at h⊢;obtain⟨y,h1,h2,h3⟩:=h;rw[hb,pB,bF]at h1;obtain⟨z,h1,rfl⟩:=h1;exact⟨z,h1,by simpa using h2,h3⟩
   .cases h
  .rename_i t x i ok;rw[he x (by simp[Op.operands]),he i (by simp[Op.operands])];split at h
   .simp only[lkB,bg]at h⊢;obtain⟨y,h1,q,h2,h3⟩:=h;rw[hb,pB,bF]at h1;obtain⟨z,h1,rfl⟩:=h1;obtain⟨q',h4,rfl⟩:=Xa h2;exact⟨z,h1,q',h4,abR hv h3⟩
   .cases h
  .rename_i args ts;split at h
   .rename_i x t hx c;have a:args=#[x]:=by apply iE;simpa using hx
    subst a;rw[he x (by simp[Op.operands,Call.operands])];split at h
    .simp only[lnB,bg,bF]at h⊢;obtain⟨y,h1,q,h2,p,h3,h4⟩:=h;rw[hb,pB,bF]at h1;obtain⟨z,h1,rfl⟩:=h1;obtain⟨q',h5,rfl⟩:=Xa h2;exact⟨z,h1,q',h5,p,h3,by rw[aj]at h4;exact h4⟩
    .cases h
   .cases h
  .cases h
theorem aqT{op:Op}{v:V}(h:rv P s op=some v):∀x∈op.operands.toList,(s.ev x).ownless=true:=by
 unfold rv at h;split at h
 .intro y a;simp[Op.operands]at a;subst a;split at h
  .rename_i b off hx;rw[hx];rfl
  .cases h
 .intro y a;simp[Op.operands]at a;subst a;unfold pY at h;split at h
  .rename_i b off hx;rw[hx];rfl
  .cases h
 .split at h
  .rename_i b hb;simp only[lkB,bg]at h;obtain⟨_,_,_,_,h⟩:=h;unfold atM at h;simp only[bg]at h;obtain⟨_,_,h⟩:=h;split at h
   .rename_i hk;intro y a;simp[Op.operands]at a;rcases a with rfl|rfl
    .rw[hb];rfl
    .rw[hk];rfl
   .cases h
  .cases h
 .rename_i args ts;split at h
  .rename_i x t hx d;have c:args=#[x]:=by apply iE;simpa using hx
   subst c;split at h
   .rename_i b hb;intro y a;simp[Op.operands,Call.operands]at a;subst a;rw[hb];rfl
   .cases h
  .cases h
 .cases h
theorem OO{l:List V}{v:V}{b:Bool}(h:kq l v = .o b):l.all V.ownless=true/\v.ownless=true/\b=false:=by grind[kq]
theorem akY{op:Op}{l:List V}{v:V}{b:Bool}(h:kqo op l v = .o b):l.all V.ownless=true/\v.ownless=true/\b=false:=by
 have h2:ka l v = .o b->l.all V.ownless=true/\v.ownless=true/\b=false:=by grind[ka,OO]
 unfold kqo at h;(repeat' split at h)<;>first|exact OO h|exact h2 h
theorem Ze{id:Nat}{b:Bool}(h:dL P dsts o (.o b) s s'):∃v,s'=s.put o.dst v/\v.ownless=true/\(∀t∈lk dsts o,(s.env t).ownless=true) /\
  ∀s2:St,(∀t∈lk dsts o,s2.env t=s.env t)->BxN id s.bx s2.bx->dL P dsts o (.o b) s2 (s2.put o.dst v):=by
 have n:(∀x∈o.op.operands.toList,(s.ev x).ownless=true)->∀t∈lkO o,(s.env t).ownless=true:=by
  intro h t a
  obtain⟨x,hx,i⟩:=Gm.1 a
  cases x with
  |tmp u=>simp only[zh,aO]at i;subst i;exact h _ hx
  |_=>simp[zh]at i
 have l:(iV s o).all V.ownless=true->∀x∈o.op.operands.toList,(s.ev x).ownless=true:=fun h x hx=>lM.1 h _ (dP.2 ⟨x,hx,rfl⟩)
 have f:aB P s o (fun k s1=>k = .o b/\s1=s')->∃v,s'=s.put o.dst v/\v.ownless=true/\(∀t∈lkO o,(s.env t).ownless=true) /\
   ∀s2:St,(∀t∈lkO o,s2.env t=s.env t)->BxN id s.bx s2.bx->aB P s2 o (fun k s1=>k = .o b/\s1=s2.put o.dst v):=by
  intro h
  rcases Bo h with⟨v,hv,g,rfl⟩|⟨v,hv,g,rfl⟩|⟨v,r,hv,g,rfl⟩|g|⟨g,_⟩
  .obtain⟨h1,h2,h3⟩:=akY g.symm
   refine⟨v,rfl,h2,n (l h1),fun s2 he _ => ?_⟩
   have m:=jV he
   have:=QW (ZT m hv)
   have e:iV s2 o=iV s o:=kN fun x hx=>m x hx
   rw[e,<-g]at this
   exact this
  .grind[kr,aqT,YQ,aqU,jV]
  .have:=OQ s o.op;rw[<-g]at this;cases this
  .cases g
  .cases g
 rcases h with h|⟨hg,v,hv,g,rfl⟩
 .unfold cO at h;split at h
  .rename_i hg;obtain⟨v,h1,h2,h3,h4⟩:=f h;refine⟨v,h1,h2,fun t a => ?_,fun s2 he hb=>.inl ?_⟩
   .rcases iG.1 a with a|a
    .grind
    .grind[lkG]
   .grind[cO,lk]
  .rename_i j q hg;rcases h with⟨c,hb,h⟩|⟨_,_,_,h,_⟩;case inr=>cases h
   split at h
   .rename_i p;obtain⟨v,h1,h2,h3,h4⟩:=f h;refine⟨v,h1,h2,fun t a => ?_,fun s2 he hx=>.inl ?_⟩
    .rcases iG.1 a with a|a
     .grind
     .unfold lkG at a;rw[hg]at a;simp only at a;unfold jT at hb;cases hd:dsts[j]? with
      |none=>rw[hd]at a;cases a
      |some x =>
       cases x with
       |none=>rw[hd]at a;cases a
       |some d =>rw[hd]at a hb;simp only[jX]at a;subst a;simp only[aO]at hb;rw[hb];rfl
    .unfold cO;rw[hg];refine .inl ⟨c,?_,by rw[ah p];exact h4 s2 (fun t a=>he t (by simp[lk,a])) hx⟩;rw[xg hg (fun t a=>he t (by simp[lk,a]))];exact hb
   .cases h.1
 .obtain⟨h1,h2,h3⟩:=OO g.symm;refine⟨v,rfl,h2,fun t a => ?_,fun s2 he _=>.inr ⟨hg,v,?_,?_,rfl⟩⟩
  .rcases iG.1 a with a|a
   .grind
   .grind[lkG]
  .grind[Xc,jV,lk]
  .have e:iV s2 o=iV s o:=kN fun x hx=>jV (fun t a=>he t (by simp[lk,a])) x hx
   rw[e];exact g
theorem swap(h1:dL P dsts o1 κ1 s s1)(h2:dL P dsts o2 κ2 s1 s2)(Q:D8 dsts o1 o2=true)(J:TA κ1 κ2=true):∃a,dL P dsts o2 κ2 s a/\dL P dsts o1 κ1 a s2:=by
 obtain⟨ha,hb,j⟩:=Sm Q;have hb':∀d,o2.dst=some d->o1.dst≠some d:=fun d h h'=>hb d h' h
 have vv:κ1.isV=true->κ2.isV=true->∃a,dL P dsts o2 κ2 s a/\dL P dsts o1 κ1 a s2:=by grind[FT,kU,tZ,Dt]
 have px:κ1 = .p->κ2.isX=true->∃a,dL P dsts o2 κ2 s a/\dL P dsts o1 κ1 a s2:=by
  rintro rfl T
  obtain⟨v1,U,rfl,u,hp,g⟩:=FT h1 rfl
  obtain⟨q,n⟩:=hp rfl
  have M:∀(v:V) (x:St) (ψ:V->V),Turns ψ->(∀t,x.env t=ψ (s.env t))->dL P dsts o1 .p (x.put o2.dst v) ((x.put o2.dst v).put o1.dst v1):=by intro v x ψ L he;refine g _ (fun t c => ?_) (fun h=>absurd h gy);rw[kU (fun e=>j t e (u t c)),he,L.calm _ (agt (n t c))]
  cases hd:o1.dst with
  |none =>rw[hd]at h2;obtain⟨v,x,ψ,L,he,rfl,_⟩:=Zg T h2;refine⟨_,h2,?_⟩;have:=M v x ψ L he;rw[hd]at this;exact this
  |some d=>grind[ata,tZ]
 have xp:κ1.isX=true->κ2 = .p->∃a,dL P dsts o2 κ2 s a/\dL P dsts o1 κ1 a s2:=by
  rintro S rfl
  obtain⟨v,x,ψ,L,he,rfl,K⟩:=Zg S h1
  obtain⟨N,W,rfl,A,hp,G⟩:=FT h2 rfl
  obtain⟨q,n⟩:=hp rfl
  have f:∀t∈W,s.env t=(x.put o1.dst v).env t:=by intro t c;have hf:=n t c;rw[kU (fun e=>ha t e (A t c)),he]at hf⊢;exact(L.back _ hf).symm
  have h3:=G s f (fun h=>absurd h gy)
  refine⟨_,h3,?_⟩
  rw[tZ hb]
  cases hd:o2.dst with
  |none=>exact h1
  |some d=>exact K d N (j d hd) q
 have Y:∀l id k,κ1 = .a l->κ2 = .w id k->jk id k l=true->∃a,dL P dsts o2 κ2 s a/\dL P dsts o1 κ1 a s2:=by rintro l id k rfl rfl m;obtain⟨v1,U,rfl,u,_,_⟩:=FT h1 rfl;obtain⟨i,x1,rfl,r⟩:=Zf h2;have y:=r s (fun t c=>(kU (fun e=>ha t e c)).symm);refine⟨_,y,?_⟩;obtain⟨v,hv,h3⟩:=as8 (id:=id) (k:=k) (i:=i) (x1:=x1) (s2:=(s.mapV (aY id k i x1)).put o2.dst .top) m h1 (fun t c=>by rw[kU (fun e=>j t e c)];rfl);rw[hv,P6,tZ hb];exact h3
 have wa:∀l id k,κ1 = .w id k->κ2 = .a l->jk id k l=true->∃a,dL P dsts o2 κ2 s a/\dL P dsts o1 κ1 a s2:=by rintro l id k rfl rfl m;obtain⟨i,x1,rfl,r⟩:=Zf h1;obtain⟨v,rfl,h3⟩:=as7 (s:=s) m h2 (fun t c=>by rw[kU (fun e=>ha t e c)];rfl);refine⟨_,h3,?_⟩;have h4:=r (s.put o2.dst v) (fun t c=>kU (fun e=>j t e c));rw[P6]at h4;rw[tZ hb];exact h4
 have vn:κ1.isV=true->κ2 = .n->∃a,dL P dsts o2 κ2 s a/\dL P dsts o1 κ1 a s2:=by rintro k1 rfl;obtain⟨v1,U,rfl,u,_,g⟩:=FT h1 k1;obtain⟨v,δ,rfl,R⟩:=Zd h2;have y:=R s (fun t c=>(kU (fun e=>ha t e c)).symm) KO.symm;refine⟨_,y,?_⟩;rw[KO,Yi,tZ hb];exact g _ (fun t c=>kU (s:={s with nid:=s.nid+δ}) (fun e=>j t e (u t c))) (fun _=>Dt (s:={s with nid:=s.nid+δ}))
 have nv:κ1 = .n->κ2.isV=true->∃a,dL P dsts o2 κ2 s a/\dL P dsts o1 κ1 a s2:=by rintro rfl k2;obtain⟨v,δ,rfl,R⟩:=Zd h1;obtain⟨N,W,rfl,A,_,G⟩:=FT h2 k2;refine⟨s.put o2.dst N,G s (fun t c=>(kU (s:={s with nid:=s.nid+δ}) (fun e=>ha t e (A t c))).symm) (fun _=>(Dt (s:={s with nid:=s.nid+δ})).symm),?_⟩;rw[tZ hb];have:=R (s.put o2.dst N) (fun t c=>kU (fun e=>j t e c)) KO;rw[KO,Yi]at this;exact this
 have X:∀l id,κ1 = .a l->κ2 = .g id->(l.all fun p=>p.1 != id)=true->∃a,dL P dsts o2 κ2 s a/\dL P dsts o1 κ1 a s2:=by rintro l id rfl rfl m;obtain⟨v1,rfl,E,F,g⟩:=Zc m h1;obtain⟨v,rfl,r⟩:=Lm h2;have y:=r s (fun t c=>(kU (fun e=>ha t e c)).symm);refine⟨_,y,?_⟩;rw[KN E,tZ hb];exact g _ (fun t c=>by rw[kU (fun e=>j t e c)];exact(F t c).2)
 have Z:∀l id,κ1 = .g id->κ2 = .a l->(l.all fun p=>p.1 != id)=true->∃a,dL P dsts o2 κ2 s a/\dL P dsts o1 κ1 a s2:=by
  rintro l id rfl rfl m;obtain⟨v,rfl,r⟩:=Lm h1;obtain⟨v1,rfl,E,F,g⟩:=Zc m h2;have f:∀t∈lk dsts o2,s.env t=((qF id s).put o1.dst v).env t:=by intro t c;have I:=F t c;rw[kU (fun e=>ha t e c)]at I⊢;exact(Dq (id:=id) I.1).1.symm
  refine⟨_,g s f,?_⟩;have h4:=r (s.put o2.dst v1) (fun t c=>kU (fun e=>j t e c));rw[KN E]at h4;rw[tZ hb];exact h4
 have og:∀b id,κ1 = .o b->κ2 = .g id->∃a,dL P dsts o2 κ2 s a/\dL P dsts o1 κ1 a s2:=by rintro b id rfl rfl;obtain⟨v1,rfl,H,C,g⟩:=Ze (id:=id) h1;obtain⟨v,rfl,r⟩:=Lm h2;have y:=r s (fun t c=>(kU (fun e=>ha t e c)).symm);refine⟨_,y,?_⟩;rw[KN (Dn H),tZ hb];exact g _ (fun t c=>by rw[kU (fun e=>j t e c)];exact Dn (C t c)) (.inr (.inl (by rw[Dt];rfl)))
 have go:∀b id,κ1 = .g id->κ2 = .o b->∃a,dL P dsts o2 κ2 s a/\dL P dsts o1 κ1 a s2:=by
  rintro b id rfl rfl;obtain⟨v,rfl,r⟩:=Lm h1;obtain⟨v1,rfl,H,C,g⟩:=Ze (id:=id) h2;have f:∀t∈lk dsts o2,s.env t=((qF id s).put o1.dst v).env t:=by intro t c;have I:=C t c;rw[kU (fun e=>ha t e c)]at I⊢;exact(PW (id:=id) I).symm
  refine⟨_,g s f (.inr (.inr (by rw[Dt];rfl))),?_⟩;have h4:=r (s.put o2.dst v1) (fun t c=>kU (fun e=>j t e c));rw[KN (Dn H)]at h4;rw[tZ hb];exact h4
 cases κ1<;>cases κ2<;>first
  |exact absurd J gy
  |exact og _ _ rfl rfl
  |exact go _ _ rfl rfl
  |exact X _ _ rfl rfl J
  |exact Z _ _ rfl rfl J
  |exact vn rfl rfl
  |exact nv rfl rfl
  |exact vv rfl rfl
  |exact px rfl rfl
  |exact xp rfl rfl
  |exact Y _ _ _ rfl rfl J
  |exact wa _ _ _ rfl rfl J
abbrev Ent:=Nat×Oper×Kd
def BJ(P:Program)[Tb P](d:List (Option Nat)):List Ent->St->St->Prop
 |[],s,s'=>s=s'
 |e::r,s,s'=>∃s1,dL P d e.2.1 e.2.2 s s1/\BJ P d r s1 s'
def D6(d:List (Option Nat))(x y:Ent):Bool:=TA x.2.2 y.2.2&&D8 d x.2.1 y.2.1
theorem ady{x:Ent}:∀{l a:List Ent} {s s':St},BJ P dsts (l++x::a) s s'->(∀y∈l,D6 dsts y x=true)->BJ P dsts (x::(l++a)) s s':=by
 intro l
 induction l with
 |nil=>intro a s s' h _;exact h
 |cons y l i =>rintro a s s' ⟨s1,h1,h2⟩ hb;obtain⟨s2,h3,h4⟩:=i h2 (fun z f=>hb z (by simp[f]));have b:=hb y Aa;simp[D6]at b;obtain⟨c,h5,d⟩:=swap h1 h3 b.2 b.1;exact⟨c,h5,s2,d,h4⟩
end
def edgesOf(o:Oper):List Nat:=(o.after.toList.filter fun e=>Region.binds .any e).map (·.on)
def H7(acc:List Nat)(a:List Nat):Nat:=a.foldr (fun j m=>m ||| (2^j ||| acc.getD j 0)) 0
def sK(acc:List Nat):List Oper->List Nat
 |[]=>acc
 |o::r=>sK (acc++[H7 acc (edgesOf o)]) r
theorem ama{acc a:List Nat}{j:Nat}(h:(H7 acc a).testBit j=true):∃e∈a,j=e\/(acc.getD e 0).testBit j=true:=by induction a<;>grind[H7]
theorem aca:∀(l:List Oper) (acc:List Nat) (i:Nat),i<acc.length->(sK acc l).getD i 0=acc.getD i 0:=by
 intro l
 induction l with
 |nil=>intro acc i _;rfl
 |cons o r a =>grind[sK]
def MP(D:Nat->Prop):∀(l:List Oper) (acc:List Nat),(∀k j,D k->(acc.getD k 0).testBit j=true->D j) ->
  (∀k o,l[k]?=some o->D (acc.length+k)->∀e∈edgesOf o,D e)->∀k o,l[k]?=some o->(∀e∈edgesOf o,D e)->∀j,((sK acc l).getD (acc.length+k) 0).testBit j=true->D j:=by
 intro l
 induction l with
 |nil=>intro acc _ _ k o h;simp at h
 |cons o r m =>
  intro acc b a k n hk he j hj
  have hm:∀j,(∀e∈edgesOf o,D e)->(H7 acc (edgesOf o)).testBit j=true->D j:=by grind[ama]
  cases k with
  |zero=>grind[sK,aca]
  |succ k =>
   simp only[zy]at hk;refine m (acc++[H7 acc (edgesOf o)]) ?_ ?_ k n hk he j (by rw[sK]at hj;simpa[Nat.add_assoc,Nat.add_comm 1 k]using hj)
   .intro i j hi hj;rcases Nat.lt_trichotomy i acc.length with d|c|g
    .simp only[List.getD,List.getElem?_append_left d]at hj;exact b i j hi hj
    .subst c;simp only[List.getD,List.getElem?_append_right (az _),zC,vX,Gv]at hj;exact hm j (a 0 o Aa (by simpa using hi)) hj
    .grind
   .intro i p hi f;refine a (i+1) p (by simpa using hi) ?_;simpa[Nat.add_assoc,Nat.add_comm 1 i]using f
def Ji(d:List (Option Nat))(b:List Nat):List Ent->Bool
 |[]=>true
 |x::r=>(r.all fun y=>(b.getD y.1 0).testBit x.1||D6 d x y)&&Ji d b r
def nR(k:Nat):List Oper->List Kd->List Ent
 |o::os,κ::a=>(k,o,κ)::nR (k+1) os a
 |_,_=>[]
def qV(ops:List Oper)(k:List Kd):Bool :=
 ops.length == k.length&&(ops.zipIdx.all fun x=>(edgesOf x.1).all fun e=>decide (e<x.2))&&Ji (ops.map (·.dst)) (sK [] ops) (nR 0 ops k)
def uu(P:Program)[Tb P](d:List (Option Nat))(ops:List Oper)(K:St->Prop):List Oper->List Kd->St->Prop
 |[],k,s=>qV ops k.reverse=true/\K s
 |o::r,k,s =>
  match o.guard with
  |none=>aB P s o (fun κ s'=>uu P d ops K r (κ::k) s')
  |some (j,a)=>match jT s d j with
   |some (.c (.bool b))=>if b=a then aB P s o (fun κ s'=>uu P d ops K r (κ::k) s')else uu P d ops K r (.p::k) (s.put o.dst (.c undef))
   |some (.c _)=>uu P d ops K r (.p::k) (s.put o.dst (.c undef))
   |_=>False
def Et(P:Program)[Tb P](ops:Array Oper)(K:St->Prop)(s:St):Prop:=uu P (ops.toList.map (·.dst)) ops.toList K ops.toList [] s
section
variable {P:Program} [Tb P] {dsts:List (Option Nat)} {s s':St} {o:Oper}
theorem avb{ops:List Oper}{K:St->Prop}:∀(r:List Oper) (c:List Kd) (k:Nat) (s:St),uu P dsts ops K r c s ->
  ∃a s',r.length=a.length/\BJ P dsts (nR k r a) s s'/\qV ops (c.reverse++a)=true/\K s':=by
 intro r
 induction r with
 |nil=>intro c k s h;exact⟨[],s,rfl,rfl,by simpa using h.1,h.2⟩
 |cons o r i =>
  intro c k s h
  have step:aB P s o (fun κ s'=>uu P dsts ops K r (κ::c) s')->(∀κ s',aB P s o (fun k s1=>k=κ/\s1=s')->cO P dsts o κ s s') ->
    ∃a s',(o::r).length=a.length/\BJ P dsts (nR k (o::r) a) s s'/\qV ops (c.reverse++a)=true/\K s':=by
   intro h hd
   obtain⟨κ,s1,h1,h2⟩:=Lp h
   obtain⟨a,s',h3,h4,h5,d⟩:=i (κ::c) (k+1) s1 h2
   exact⟨κ::a,s',by simp[h3],⟨s1,.inl (hd κ s1 h1),h4⟩,by simpa using h5,d⟩
  unfold uu at h;split at h
  .grind[cO]
  .rename_i j l hg;split at h
   .rename_i b hb;split at h
    .grind[cO]
    .rename_i f;obtain⟨a,s',h3,h4,h5,d⟩:=i (.p::c) (k+1) _ h;exact⟨.p::a,s',by simp[h3],⟨_,.inl (by unfold cO;rw[hg];exact .inl ⟨b,hb,by rw[ag f];exact⟨rfl,rfl⟩⟩),h4⟩,by simpa using h5,d⟩
   .rename_i v g hb;obtain⟨a,s',h3,h4,h5,d⟩:=i (.p::c) (k+1) _ h;exact⟨.p::a,s',by simp[h3],⟨_,.inl (by unfold cO;rw[hg];exact .inr ⟨v,hb,fun b e=>g b (by rw[e]),rfl,rfl⟩),h4⟩,by simpa using h5,d⟩
   .cases h
theorem Zb{C:Cx}(l:C.TOk P){ops:Array Oper}{i:Nat}{κ:Kd}{L:Lay}{a:Act}{w:World}{K:Act->World->Prop}{Q:Exit->Act->World->Prop}(ho:ops[i]?=some o)(h:cO P (ops.toList.map (·.dst)) o κ s s')(S:Sim C s L a w)
  (hd:∀t,o.dst=some t->t<C.n) (hK:∀L' f w',Sim C s' L' f w'->K f w'):wpOp P ops Q i K a w:=by
 unfold wpOp
 rw[ho]
 simp only
 unfold cO at h
 split at h
 .rename_i hg;rw[ah (by simp[Region.wanted,hg])];grind[IC]
 .rename_i j k hg;rcases h with⟨b,hb,h⟩|⟨v,hb,d,_,rfl⟩
  case inr =>
   rw[ag (by simp[Region.wanted,hg,Oq S hb d])]
   exact hK L _ _ (S.put (v:=.c undef) rfl hd)
  have g:=Ot S hb;split at h
  .rename_i c;rw[ah (by simp[Region.wanted,hg,g,c])];grind[IC]
  .rename_i c;obtain⟨_,rfl⟩:=h;rw[ag (by simp[Region.wanted,hg,g,c])];exact hK L _ _ (S.put (v:=.c undef) rfl hd)
theorem as9{C:Cx}(c:C.TOk P){ops:Array Oper}{i:Nat}{κ:Kd}{L:Lay}{a:Act}{w:World}{K:Act->World->Prop}{Q:Exit->Act->World->Prop}(ho:ops[i]?=some o)(h:dL P (ops.toList.map (·.dst)) o κ s s')(S:Sim C s L a w)
  (hd:∀t,o.dst=some t->t<C.n) (hK:∀L' b w',Sim C s' L' b w'->K b w'):wpOp P ops Q i K a w:=by
 rcases h with h|⟨hg,v,hv,_,rfl⟩
 .grind[Zb]
 .unfold wpOp;rw[ho];simp only;rw[ah (by simp[Region.wanted,hg])];obtain⟨u,w',L',h1,h2,h3⟩:=amu hv S;exact .inl (h1.wp (hK L' _ _ (h2.put h3 hd)))
theorem Ub:∀(os:List Oper) (a:List Kd) (k:Nat) (x:Ent),x∈nR k os a->k<=x.1/\os[x.1-k]?=some x.2.1:=by
 intro os
 induction os with
 |nil=>intro a k x h;simp[nR]at h
 |cons o os i =>
  intro a k x h
  cases a with
  |nil=>simp[nR]at h
  |cons κ a=>grind[nR]
theorem Uc:∀(os:List Oper) (a:List Kd) (k:Nat),os.length=a.length->(nR k os a).map (·.1)=List.range' k os.length:=by
 intro os
 induction os with
 |nil=>intro a k h;cases a<;>rfl
 |cons o os i =>
  intro a k h
  cases a with
  |nil=>simp at h
  |cons κ a=>simp[nR,List.range'_succ];rw[i a (k+1) (by simpa using h)]
theorem Td{b:List Nat}:∀{l:List Ent},Ji dsts b l=true->l.Pairwise fun x y=>((b.getD y.1 0).testBit x.1||D6 dsts x y)=true:=by intro l;induction l<;>simp_all[Ji]
theorem Sl{C:Cx}(hT:C.TOk P){ops:Array Oper}{Q:Exit->Act->World->Prop}(J:∀i o,ops[i]?=some o->∀e∈edgesOf o,e<i)(hd:∀o∈ops.toList,∀t,o.dst=some t->t<C.n)
  (Y:∀L a w,Sim C s' L a w->Q .normal a w):∀(f:Nat) (l:List Ent) (b:Array Bool) (s:St) (L:Lay) (a:Act) (w:World),l.length<=f->b.size=ops.size ->
  (∀x∈l,ops[x.1]?=some x.2.1/\b.getD x.1 true=false)->(∀i,i<ops.size->b.getD i true=false->∃x∈l,x.1=i)->(l.map (·.1)).Pairwise (·<·) ->
  (∀i o,ops[i]?=some o->b.getD i false=true->∀e∈edgesOf o,b.getD e false=true) ->
  l.Pairwise (fun x y=>((((sK [] ops.toList).getD y.1 0).testBit x.1)||D6 (ops.toList.map (·.dst)) x y)=true) ->
  BJ P (ops.toList.map (·.dst)) l s s'->Sim C s L a w->wpAny P .any ops Q f b a w:=by
 intro f
 induction f with
 |zero =>
  intro l b s L a w E N m g d F n A S
  have hl:l=[]:=kJ Om
  subst hl
  have H:s=s':=A
  subst H
  refine⟨?_,Y L a w S⟩
  rw[LY]
  intro i hi
  obtain⟨R,o,ho,_⟩:=mem_ready.1 hi
  obtain⟨x,hx,_⟩:=g i (by have:=(lW.1 ho).1;exact this) R
  cases hx
 |succ f ih =>
  intro l b s L a w E N m g d F n A S
  refine⟨fun U => ?_,fun i hi => ?_⟩
  .
   cases l with
   |nil=>have H:s=s':=A;subst H;exact Y L a w S
   |cons x r =>
    exfalso
    obtain⟨h1,h2⟩:=m x Aa
    have:x.1∈Region.ready .any ops b:=by
     refine mem_ready.2 ⟨h2,x.2.1,h1,fun e he hb => ?_⟩
     have hlt:=J x.1 x.2.1 h1 e.on (by simp[edgesOf];exact⟨e,⟨by simpa using he,hb⟩,rfl⟩)
     have hx1:x.1<ops.size:=(lW.1 h1).1
     cases hle:b.getD e.on false with
     |true=>rfl
     |false =>
      exfalso
      have M:b.getD e.on true=false:=by grind
      obtain⟨y,c,hye⟩:=g e.on Om M
      rcases fG.1 c with rfl|c
      .omega
      .grind[List.pairwise_cons]
    rw[U]at this
    cases this
  .obtain⟨R,o,ho,v⟩:=mem_ready.1 hi
   have K:i<ops.size:=(lW.1 ho).1
   obtain⟨x,hx,rfl⟩:=g i K R
   obtain⟨X,Z,rfl⟩:=List.append_of_mem hx
   have W:x.2.1=o:=by grind
   have I:∀y∈X,D6 (ops.toList.map (·.dst)) y x=true:=by
    intro y c
    have h1:=(List.pairwise_append.1 n).2.2 y c x Aa
    simp only[LV]at h1
    rcases h1 with h1|h1
    .exfalso
     have u:=MP (fun i=>b.getD i false=true) ops.toList [] (fun k j _ h=>by simp at h)
      (fun k o hk hD e he=>F k o (by simpa using hk) (by simpa using hD) e he) x.1 o (by simpa using ho)
      (fun e he=>by
       simp only[edgesOf,dP,Gl]at he
       obtain⟨e',⟨h2,h3⟩,rfl⟩:=he
       exact v e' (by simpa using h2) h3) y.1 (by simpa using h1)
     have h2:=(m y (by simp[c])).2
     have h3:y.1<b.size:=by
      have:=(lW.1 (m y (by simp[c])).1).1;omega
     simp[Array.getD,h3]at u h2
     rw[h2]at u
     cases u
    .exact h1
   obtain⟨s1,lK,G⟩:=ady A I
   rw[W]at lK
   refine as9 hT ho lK S (hd o (by rw[<-Array.mem_toList_iff.symm];exact LU ho)) (fun L' a' w' S' => ?_)
   have T:∀y∈X++Z,y.1≠x.1:=by
    intro y c
    rw[nJ,dm]at d
    have hp:=List.pairwise_append.1 d
    rcases iG.1 c with c|c
    .have:=hp.2.2 y.1 (dP.2 ⟨y,c,rfl⟩) x.1 Aa;omega
    .have:=(uz.1 hp.2.1).1 y.1 (dP.2 ⟨y,c,rfl⟩);omega
   refine ih (X++Z) (b.setIfInBounds x.1 true) s1 L' a' w' (by simp at E⊢;omega) (by simp[N]) ?_ ?_ ?_ ?_ ?_ G S'
   .intro y c
    obtain⟨h4,h5⟩:=m y (by rcases iG.1 c with h|h<;>simp[h])
    exact⟨h4,by rw[getD_set_ne true (jY (T y c))];exact h5⟩
   .intro j hj q
    by_cases p:j=x.1
    .subst p
     have:x.1<b.size:=Om
     simp[Array.getD,this]at q
    .rw[getD_set_ne true (fun e=>p e.symm)]at q
     obtain⟨y,c,rfl⟩:=g j hj q
     refine⟨y,?_,rfl⟩
     rcases iG.1 c with c|c
     .simp[c]
     .rcases fG.1 c with rfl|c
      .exact absurd rfl p
      .simp[c]
   .exact d.sublist (by simp only[nJ,dm];exact(List.Sublist.refl _).append (List.sublist_cons_self _ _))
   .intro j o' hj q e he
    by_cases p:j=x.1
    .subst p
     rw[ho]at hj
     simp only[aO]at hj
     subst hj
     simp only[edgesOf,dP,Gl]at he
     obtain⟨e',⟨h2,h3⟩,rfl⟩:=he
     exact getD_set_true (v e' (by simpa using h2) h3)
    .rw[getD_set_ne false (fun e=>p e.symm)]at q
     exact getD_set_true (F j o' hj q e he)
   .exact n.sublist ((List.Sublist.refl _).append (List.sublist_cons_self _ _))
def dC(cuts:List Nat):Dw:=⟨fun P _ ops K s=>Et P ops K s,cuts,[]⟩
instance (cuts:List Nat):Plain (dC cuts):=⟨rfl⟩
theorem Es(cuts:List Nat)(hm:P.follows .mixedOrders=true):nN P (dC cuts):=by
 intro id C ops K Q s L a w y j n h S;obtain⟨m,s',l,p,d,hK⟩:=avb ops.toList [] 0 s h;simp[qV,lL]at d;obtain⟨⟨_,r⟩,c⟩:=d;have v:Sim C s L a {w with drawn:=w.drawn+1}:=by have K:qN L L w w.drew:=⟨rfl,fun g h=>⟨h,.of rfl⟩,fun id e _ g h=>⟨⟨rfl,h⟩,rfl⟩,fun _ _ _ h=>⟨h,.of rfl⟩⟩;exact⟨S.defers,S.size,fun t=>(S.env t).whole K,fun t=>(S.hid t).whole K,fun b cs h=>(S.box b cs h).keep rfl rfl (fun _ k=>⟨k,rfl⟩) (fun _ k=>k.whole K),S.wf.mono (az _) (az _),S.kp.drew⟩
 have f:=Uc ops.toList m 0 (by simpa using l);refine wp_region_any hm (Sl y (s':=s') ?_ (Dl j) (fun L a w u=>⟨s',L,by rw[n];exact hK,u⟩) ops.size (nR 0 ops.toList m) (Array.replicate ops.size false) s L a _ ?_ Aa ?_ ?_ ?_ ?_ (Td c) p v)
 .intro i o ho e he;have hm:(o,i)∈ops.toList.zipIdx:=by grind
  grind
 .have:(nR 0 ops.toList m).length=ops.size:=by have:=mV List.length f;grind
  omega
 .intro x hx;obtain⟨_,h2⟩:=Ub ops.toList m 0 x hx;simp at h2;have q:=(lW.1 h2).1;simp_all
 .intro i hi _;have:i∈(nR 0 ops.toList m).map (·.1):=by grind
  grind
 .grind[List.pairwise_lt_range']
 .intro i o ho hl;have q:=(lW.1 ho).1;simp_all
theorem Ci(hm:P.follows .mixedOrders=true):nN P (dC []):=Es [] hm
end
def QF(P:Program)[Tb P](F:Nat->Bool)(s:St)(o:Oper)(K:Kd->St->Prop):Prop :=
 match o.dst with
 |some d=>bif F d then iP (mvE P s o.op) s (some d) (iV s o) K else aB P s o K
 |none=>aB P s o K
def vU(P:Program)[Tb P](F:Nat->Bool)(d:List (Option Nat))(ops:List Oper)(K:St->Prop):List Oper->List Kd->St->Prop
 |[],k,s=>qV ops k.reverse=true/\K s
 |o::r,k,s =>
  match o.guard with
  |none=>QF P F s o (fun κ s'=>vU P F d ops K r (κ::k) s')
  |some (j,a)=>match jT s d j with
   |some (.c (.bool b))=>if b=a then aB P s o (fun κ s'=>vU P F d ops K r (κ::k) s')else vU P F d ops K r (.p::k) (s.put o.dst (.c undef))
   |some (.c _)=>vU P F d ops K r (.p::k) (s.put o.dst (.c undef))
   |_=>False
def TM(P:Program)[Tb P](F:Nat->Bool)(ops:Array Oper)(K:St->Prop)(s:St):Prop:=vU P F (ops.toList.map (·.dst)) ops.toList K ops.toList [] s
def ass{P:Program}[Tb P]{F:Nat->Bool}{s:St}{o:Oper}{K:Kd->St->Prop}(hg:o.guard=none)(h:QF P F s o K)(a:List (Option Nat)):∃κ s',dL P a o κ s s'/\K κ s':=by
 unfold QF at h;have Ik:aB P s o K->∃κ s',dL P a o κ s s'/\K κ s':=by intro h;obtain⟨κ,s1,h1,h2⟩:=Lp h;exact⟨κ,s1,.inl (by unfold cO;rw[hg];exact h1),h2⟩
 split at h
 .rename_i d hd;cases b:F d with
  |false=>rw[b]at h;exact Ik h
  |true =>
   rw[b]at h;unfold iP at h;split at h
   .rename_i r c;exact⟨_,_,.inr ⟨hg,r,c,rfl,rfl⟩,by rw[hd];exact h⟩
   .cases h
 .grind
def avc{P:Program}[Tb P]{F:Nat->Bool}{d:List (Option Nat)}{ops:List Oper}{K:St->Prop}:∀(r:List Oper) (c:List Kd) (k:Nat) (s:St),vU P F d ops K r c s ->
  ∃a s',r.length=a.length/\BJ P d (nR k r a) s s'/\qV ops (c.reverse++a)=true/\K s':=by
 intro r
 induction r with
 |nil=>intro c k s h;exact⟨[],s,rfl,rfl,by simpa using h.1,h.2⟩
 |cons o r i =>
  intro c k s h;unfold vU at h;split at h
  .rename_i hg;obtain⟨κ,s1,h1,h2⟩:=ass hg h d;obtain⟨a,s',h3,h4,h5,f⟩:=i (κ::c) (k+1) s1 h2;exact⟨κ::a,s',by simp[h3],⟨s1,h1,h4⟩,by simpa using h5,f⟩
  .rename_i j m hg;split at h
   .rename_i b hb;split at h
    .rename_i g;obtain⟨κ,s1,h1,h2⟩:=Lp h;obtain⟨a,s',h3,h4,h5,f⟩:=i (κ::c) (k+1) s1 h2;exact⟨κ::a,s',by simp[h3],⟨s1,.inl (by unfold cO;rw[hg];exact .inl ⟨b,hb,by rw[ah g];exact h1⟩),h4⟩,by simpa using h5,f⟩
    .rename_i g;obtain⟨a,s',h3,h4,h5,f⟩:=i (.p::c) (k+1) _ h;exact⟨.p::a,s',by simp[h3],⟨_,.inl (by unfold cO;rw[hg];exact .inl ⟨b,hb,by rw[ag g];exact⟨rfl,rfl⟩⟩),h4⟩,by simpa using h5,f⟩
   .rename_i v l hb;obtain⟨a,s',h3,h4,h5,f⟩:=i (.p::c) (k+1) _ h;exact⟨.p::a,s',by simp[h3],⟨_,.inl (by unfold cO;rw[hg];exact .inr ⟨v,hb,fun b e=>l b (by rw[e]),rfl,rfl⟩),h4⟩,by simpa using h5,f⟩
   .cases h
def dF(F:Nat->Bool)(cuts:List Nat):Dw:=⟨fun P _ ops K s=>TM P F ops K s,cuts,[]⟩
instance (F:Nat->Bool) (cuts:List Nat):Plain (dF F cuts):=⟨rfl⟩
def zM{P:Program}[Tb P](F:Nat->Bool)(cuts:List Nat)(hm:P.follows .mixedOrders=true):nN P (dF F cuts):=by
 intro id C ops K Q s L a w y j n h S;obtain⟨m,s',l,p,d,hK⟩:=avc ops.toList [] 0 s h;simp[qV,lL]at d;obtain⟨⟨_,r⟩,c⟩:=d;have v:Sim C s L a {w with drawn:=w.drawn+1}:=by have K:qN L L w w.drew:=⟨rfl,fun g h=>⟨h,.of rfl⟩,fun id e _ g h=>⟨⟨rfl,h⟩,rfl⟩,fun _ _ _ h=>⟨h,.of rfl⟩⟩;exact⟨S.defers,S.size,fun t=>(S.env t).whole K,fun t=>(S.hid t).whole K,fun b cs h=>(S.box b cs h).keep rfl rfl (fun _ k=>⟨k,rfl⟩) (fun _ k=>k.whole K),S.wf.mono (az _) (az _),S.kp.drew⟩
 have f:=Uc ops.toList m 0 (by simpa using l);refine wp_region_any hm (Sl y (s':=s') ?_ (Dl j) (fun L a w u=>⟨s',L,by rw[n];exact hK,u⟩) ops.size (nR 0 ops.toList m) (Array.replicate ops.size false) s L a _ ?_ Aa ?_ ?_ ?_ ?_ (Td c) p v)
 .intro i o ho e he;have hm:(o,i)∈ops.toList.zipIdx:=by grind
  grind
 .have:(nR 0 ops.toList m).length=ops.size:=by have:=mV List.length f;grind
  omega
 .intro x hx;obtain⟨_,h2⟩:=Ub ops.toList m 0 x hx;simp at h2;have q:=(lW.1 h2).1;simp_all
 .intro i hi _;have:i∈(nR 0 ops.toList m).map (·.1):=by grind
  grind
 .grind[List.pairwise_lt_range']
 .intro i o ho hl;have q:=(lW.1 ho).1;simp_all
end Go.Pg
end
namespace Go.Pg
open Go
def bM{α:Type}(e h:Nat->α):Nat->α:=fun t=>if t%2=0 then e (t / 2)else h (t / 2)
def unE{α:Type}(f:Nat->α):Nat->α:=fun t=>f (2*t)
def unH{α:Type}(f:Nat->α):Nat->α:=fun t=>f (2*t+1)
def aP{α:Type}(e h:Nat->α):unE (bM e h)=e:=by funext t;simp only[unE,bM];grind
def aQ{α:Type}(e h:Nat->α):unH (bM e h)=h:=by grind[unH,bM]
def EO(args:List V)(s:St):St:={env:=qw args 0,bx:=s.bx,nid:=s.nid,hd:=bM s.env s.hd}
def anz(s:St):St:={env:=unE s.hd,bx:=s.bx,nid:=s.nid,hd:=unH s.hd}
def aay(a b:St):Prop:=a.env=b.env/\a.hd=b.hd/\a.bx=b.bx/\a.nid<=b.nid
def yH(P:Program)(a:List ResultVar)(s':St)(r:V)(s:St):Prop:=kH P s a=some r/\aay (anz s) s'
def JR(P:Program)(a:List ResultVar)(s':St)(r:V):Exit->St->Prop:=fun e s =>
 match e with
 | .normal | .ret=>yH P a s' r s
 |_=>False
theorem Qk(P:Program)(s:St):kH P s []=some (.tup []):=rfl
def aiF{P:Program}[Tb P]{D:Dw}(J:nN P D){f:FuncId}{fn:Func}{c:Code}{y:List ResultVar}{args:List V}{r:V}{s s':St}(hf:P.funcs[f]?=some fn)(hb:fn.body=some c)(q:fn.results=y.toArray)(M:(fn.name == "runtime.NumGoroutine")=false)
  (m:mf fn.ntmps c=true) (E:args.length<=fn.ntmps) (h:wpS D P c (JR P y s' r) (EO args s)):GoodZ P f args s s' r:=by
 intro C L a w b K S d
 refine .inl ⟨by simp[oI,hf,hb,M],?_⟩
 let l:Cx:={n:=fn.ntmps,A0:=C.A0,Wr:=C.Wr,w0:=C.w0,hid:=bM (fun t=>a.tmps.getD t undef) C.hid}
 have hl:=d.length
 have W:=S.wf
 have I:Sim l (EO args s) L {tmps:=b.toArray++Array.replicate (fn.ntmps-b.toArray.size) undef,defers:=[]} w:=by
  refine⟨rfl,by simp[l];omega,fun t => ?_,fun t => ?_,S.box,⟨W.nidO,W.nidB,W.own,W.boxW,W.injO,W.injB,W.dis,W.old,W.frz⟩,S.kp⟩
  .have:=OC args b 0 (List.replicate (fn.ntmps-b.length) undef) d [] rfl t;have e:(b++List.replicate (fn.ntmps-b.length) undef).toArray=b.toArray++Array.replicate (fn.ntmps-b.toArray.size) undef:=by apply iE;simp
   rw[iY,e]at this;exact this
  .show Rep L w (bM s.env s.hd t) (bM (fun t=>a.tmps.getD t undef) C.hid t);unfold bM;split
   .exact S.env _
   .exact S.hid _
 refine calls_of_wp hf hb (Code.wp_mono ?_ (Q8 (C:=l) J K c h m I))
 rintro e A w' ⟨s2,H,p,k⟩
 have fin:yH P y s' r s2->A.defers=[]/\∃v,(results fn A.tmps).run P w' = .ok v w'/\∃u L',Ending.returned v = .returned u/\Sim C s' L' a w'/\Rep L' w' r u:=by
  rintro⟨h1,F,k2,G,x⟩;obtain⟨u,h3,h4⟩:=Qj q h1 k;refine⟨k.defers,u,h3,u,H,rfl,?_,h4⟩;have j:=k.wf;obtain⟨R,N,T,Q⟩:=s';simp only at F k2 G x;subst F;subst k2;subst G;refine⟨S.defers,S.size,fun t => ?_,fun t => ?_,k.box,⟨fun i g h=>sF (j.nidO i g h) x,fun i g h=>sF (j.nidB i g h) x,j.own,j.boxW,j.injO,j.injB,j.dis,j.old,j.frz⟩,k.kp⟩
  .have h5:=k.hid (2*t);have e:l.hid (2*t)=a.tmps.getD t undef:=congrFun (aP (fun t=>a.tmps.getD t undef) C.hid) t;rw[e]at h5;exact h5
  .have h5:=k.hid (2*t+1);have e:l.hid (2*t+1)=C.hid t:=congrFun (aQ (fun t=>a.tmps.getD t undef) C.hid) t;rw[e]at h5;exact h5
 cases e with
 |normal=>exact fin p
 |ret=>exact fin p
 |_=>exact p.elim
def GoodX(P:Program)(g:FuncId)(args:List V)(r:V):Prop :=
 ∀(L:Lay) (w:World) (c:List Value),Reps L w args c->∃u,(callFunc g c.toArray).run P w = .ok (.value u) w/\Rep L w r u
theorem GoodX.z{P:Program}[Tb P]{g:FuncId}{args:List V}{r:V}(h:GoodX P g args r)(s:St):GoodZ P g args s s r:=by intro C L a w c _ S b;obtain⟨u,h1,h2⟩:=h L w c b;grind
end Go.Pg
section
namespace Go.Pg
open Go
theorem afN(s:St)(t:Nat):s.ev (.tmp t)=s.env t:=rfl
theorem afI(s:St)(v:Value):s.ev (.const v)=jd v:=rfl
theorem afJ(s:St)(f:FuncId):s.ev (.func f) = .fn f [] []:=rfl
theorem afK(s:St)(g:Nat):s.ev (.global g) = .c (.pointer (some ⟨g,0,none⟩)):=rfl
theorem apy(e:Nat->V)(b:BX)(n d:Nat)(h:Nat->V)(v:V):St.put ⟨e,b,n,h⟩ (some d) v=⟨upd e d v,b,n,h⟩:=rfl
def auU{α:Type}(f:Nat->α)(d:Nat)(v:α):upd f d v d=v:=by simp[upd]
section
variable (s:St) (d:Option Nat) (l:List V) (k:Kd) (K:Kd->St->Prop)
theorem Ky(r:V):iP (some r) s d l K=K (kq l r) (s.put d r):=rfl
theorem nX:iP none s d l K=False:=rfl
theorem anu(f:List V->V->Kd)(r:V):rO f (some r) s d l K=K (f l r) (s.put d r):=rfl
theorem ant(f:List V->V->Kd):rO f none s d l K=False:=rfl
theorem anw(r:V):mi (some r) s d K=K (kr r) (s.put d r):=rfl
theorem fZ:mi none s d K=False:=rfl
theorem anv(r:V)(s':St):dN (some (r,s')) d k K=K k (s'.put d r):=rfl
theorem dM:dN none d k K=False:=rfl
end
def sV:List Nat->V->V
 |[],v=>v
 |i::l,v=>sV l (frz i v)
def al0(τ:Tag->Tag)(ρ:Nat->Nat)(l:List Value):V.mapL τ ρ (l.map .c)=l.map .c:=by
 induction l with
 |nil=>rfl
 |cons x l i=>simp[V.mapL,V.map,i]
def alZ(τ:Tag->Tag)(ρ:Nat->Nat)(v:Value):(jd v).map τ ρ=jd v:=by cases v<;>first|rfl|simp[jd,V.map,al0]
def afL(s:St)(i:Nat)(x:Operand):(s.mapV (frz i)).ev x=frz i (s.ev x):=by
 cases x with
 |tmp t=>rfl
 |const v=>exact(alZ _ _ v).symm
 |global g=>rfl
 |func f=>rfl
def Uh(ids:List Nat):∀(s:St) (x:Operand),(s.freezeAll ids).ev x=sV ids (s.ev x):=by
 induction ids with
 |nil=>intro s x;rfl
 |cons i l a=>intro s x;show((s.mapV (frz i)).freezeAll l).ev x=sV l (frz i (s.ev x));rw[a,afL]
def bsF(P:Program)(s:St)(d:Option Nat)(t:TypeId)(n:Nat)(parts:List (Nat×V))(ids:List Nat)(K:Kd->St->Prop):Prop :=
 match ids with
 |[]=>False
 |i::l=>dN (qp P (s.freezeAll (i::l)) t n (parts.map fun p=>(p.1,sV (i::l) p.2))) d .z K
def stX(P:Program)(s:St)(t:TypeId)(x y:V):Option (V×St) :=
 match x with
 | .ref b off=>(oZ P s t b off y).map fun s'=>(.top,s')
 | .el (.own id _) k xs i off=>(rV P s t id k xs i off y).map fun s'=>(.top,s')
 |_=>none
def stF(P:Program)(s:St)(d:Option Nat)(t:TypeId)(x y:V)(ids:List Nat)(K:Kd->St->Prop):Prop :=
 match ids with
 |[]=>False
 |i::l=>dN (stX P (s.freezeAll (i::l)) t (sV (i::l) x) (sV (i::l) y)) d .z K
theorem adh(P:Program)(s:St)(d:Option Nat)(t:TypeId)(n:Nat)(parts:List (Nat×V))(K:Kd->St->Prop):bsF P s d t n parts [] K=False:=rfl
theorem SC(P:Program)(s:St)(d:Option Nat)(t:TypeId)(n:Nat)(parts:List (Nat×V))(i:Nat)(l:List Nat)(K:Kd->St->Prop):bsF P s d t n parts (i::l) K=dN (qp P (s.freezeAll (i::l)) t n (parts.map fun p=>(p.1,sV (i::l) p.2))) d .z K:=rfl
theorem asr(P:Program)(s:St)(d:Option Nat)(t:TypeId)(x y:V)(K:Kd->St->Prop):stF P s d t x y [] K=False:=rfl
theorem asq(P:Program)(s:St)(d:Option Nat)(t:TypeId)(x y:V)(i:Nat)(l:List Nat)(K:Kd->St->Prop):stF P s d t x y (i::l) K=dN (stX P (s.freezeAll (i::l)) t (sV (i::l) x) (sV (i::l) y)) d .z K:=rfl
theorem ast(P:Program)(s:St)(t:TypeId)(id:Nat)(e:TypeId)(k:Nat)(xs:List V)(i off:Nat)(y:V):stX P s t (.el (.own id e) k xs i off) y=(rV P s t id k xs i off y).map fun s'=>(.top,s'):=rfl
theorem agG(v:V):sV [] v=v:=rfl
theorem agF(i:Nat)(l:List Nat)(v:V):sV (i::l) v=sV l (frz i v):=rfl
section
variable (P:Program) [Tb P] (s:St) (d:Option Nat) (ty:TypeId) (pos:String) (af:Array Edge) (g:Option (Nat × Bool)) (K:Kd->St->Prop)
theorem atG(x:Operand):aB P s ⟨d,.move x,ty,pos,af,g⟩ K=K (ka [s.ev x] (s.ev x)) (s.put d (s.ev x)):=by simp[aB,kqo,rO,qv,rv,xv,zv,Op.operands,fZ,dM]
theorem atg(x:Operand):aB P s ⟨d,.assign x,ty,pos,af,g⟩ K=K (ka [s.ev x] (s.ev x)) (s.put d (s.ev x)):=by simp[aB,kqo,rO,qv,rv,xv,zv,Op.operands,fZ,dM]
theorem ath(op:BinOp)(t t2:TypeId)(x y:Operand):aB P s ⟨d,.binOp op t x y t2,ty,pos,af,g⟩ K=iP (qQ P op t (s.ev x) (s.ev y) y) s d [s.ev x,s.ev y] K:=by simp[aB,kqo,jr,qv,rv,xv,zv,Op.operands,fZ,dM]
theorem atP(op:UnOp)(t:TypeId)(x:Operand):aB P s ⟨d,.unOp op t x,ty,pos,af,g⟩ K=iP (unV op (s.ev x)) s d [s.ev x] K:=by simp[aB,kqo,jr,qv,rv,xv,zv,Op.operands,fZ,dM]
theorem atq(x:Operand)(i:Nat):aB P s ⟨d,.extract x i,ty,pos,af,g⟩ K=iP (exV (s.ev x) i) s d [s.ev x] K:=by simp[aB,kqo,jr,qv,rv,xv,zv,Op.operands,fZ,dM]
theorem atr(t:TypeId)(x:Operand)(f:Nat):aB P s ⟨d,.field t x f,ty,pos,af,g⟩ K=iP (EC P t (s.ev x) f) s d [s.ev x] K:=by simp[aB,kqo,jr,qv,rv,xv,zv,Op.operands,fZ,dM]
theorem atv(t:TypeId)(x i:Operand):aB P s ⟨d,.index t x i,ty,pos,af,g⟩ K=iP (ixV P t (s.ev x) (s.ev i)) s d [s.ev x,s.ev i] K:=by simp[aB,kqo,jr,qv,rv,xv,zv,Op.operands,fZ,dM]
theorem atw(t:TypeId)(x i:Operand):aB P s ⟨d,.indexAddr t x i,ty,pos,af,g⟩ K=rO ka (iaV P t (s.ev x) (s.ev i)) s d [s.ev x,s.ev i] K:=by simp[aB,kqo,qv,rv,xv,zv,Op.operands,fZ,dM]
theorem att(t:TypeId)(x:Operand)(f:Nat):aB P s ⟨d,.fieldAddr t x f,ty,pos,af,g⟩ K=rO ka (faV P t (s.ev x) f) s d [s.ev x] K:=by simp[aB,kqo,qv,rv,xv,zv,Op.operands,fZ,dM]
theorem atA(f:FuncId)(fs cs:Array Operand):aB P s ⟨d,.makeFunc (.func f) fs cs,ty,pos,af,g⟩ K=K (kq (fs.toList.map s.ev++cs.toList.map s.ev) (.fn f (fs.toList.map s.ev) (cs.toList.map s.ev))) (s.put d (.fn f (fs.toList.map s.ev) (cs.toList.map s.ev))):=by simp[aB,kqo,jr,qv,rv,xv,zv,Op.operands,Ky,fZ,dM]
theorem atj(t:TypeId)(parts:Array (Nat×Operand)):aB P s ⟨d,.build t parts,ty,pos,af,g⟩ K=iP (BR P t (parts.toList.map fun p=>(p.1,s.ev p.2))) s d ((parts.toList.map fun p=>p.2).map s.ev) K:=by simp[aB,kqo,jr,qv,rv,xv,zv,Op.operands,fZ,dM]
theorem ate(e:TypeId):aB P s ⟨d,.alloc e,ty,pos,af,g⟩ K=dN (BN P s e) d .x K:=by simp[aB,kqo,jr,kx,qv,rv,xv,zv,nX,fZ,dM]
theorem ati(e:TypeId)(x:Operand):aB P s ⟨d,.box e x,ty,pos,af,g⟩ K=dN (BP s e (s.ev x)) d .x K:=by simp[aB,kqo,jr,kx,qv,rv,xv,zv,nX,fZ,dM]
def bsZ(P:Program)[Tb P](s:St)(d:Option Nat)(t:TypeId)(n:Nat)(parts:List (Nat×V))(ids:List Nat)(K:Kd->St->Prop):Prop :=
 match BO P t with
 |true=>dN (EU P s t n parts) d .z K
 |false=>bsF P s d t n parts ids K
theorem atl(t:TypeId)(n:Nat)(parts:Array (Nat×Operand)):aB P s ⟨d,.buildSlice t n parts,ty,pos,af,g⟩ K=(dN (qp P s t n (parts.toList.map fun p=>(p.1,s.ev p.2))) d .n K\/bsZ P s d t n (parts.toList.map fun p=>(p.1,s.ev p.2)) (V.idsL (parts.toList.map fun p=>s.ev p.2)) K):=by
 simp[aB,kqo,jr,qv,rv,zv,nX,fZ]
 unfold bsZ
 cases BO P t with
 |true=>rfl
 |false =>
  generalize V.idsL (parts.toList.map fun p=>s.ev p.2)=ids
  cases ids with
  |nil=>rfl
  |cons i l=>simp[frX,xv,SC,Uh];rfl
theorem atC(t:TypeId)(l c:Operand):aB P s ⟨d,.makeSlice t l c,ty,pos,af,g⟩ K=dN (yO P s t (s.ev l) (s.ev c)) d .n K:=by simp[aB,kqo,jr,kx,qv,rv,xv,zv,nX,fZ,dM]
def X7(s:St)(d:Option Nat)(c x y:V)(K:Kd->St->Prop):Prop:=match c with | .c (.bool b)=>K (kq [.c (.bool b),x,y] (tV b x y)) (s.put d (tV b x y))|_=>False
theorem atI(c x y:Operand):aB P s ⟨d,.pick c x y,ty,pos,af,g⟩ K=X7 s d (s.ev c) (s.ev x) (s.ev y) K:=by
 simp[aB,qv,rv,xv,zv,Op.operands,fZ,dM]
 generalize s.ev c=v
 cases v with
 |c u=>cases u<;>rfl
 |_=>rfl
def zL(P:Program)(s:St)(d:Option Nat)(src a:TypeId)(x:V)(K:Kd->St->Prop):Prop :=
 iP (lZ P src a x) s d [x] K\/mi (pY P s src a x) s d K\/dN ((vP P src a x).map fun r=>(r,s)) d .x K\/dN (rP P s src a x) d .z K
theorem ato(src a:TypeId)(x:Operand):aB P s ⟨d,.convert src a x,ty,pos,af,g⟩ K=zL P s d src a (s.ev x) K:=by rfl
def JZ(P:Program)(s:St)(d:Option Nat)(t:TypeId)(x:V)(K:Kd->St->Prop):Prop :=
 match x with
 | .ref b off=>mi (nV P s t b off) s d K
 | .el a k xs i off=>iP ((xs[i]?).bind fun y=>y.cs.bind fun cs=>jI P t cs off) s d [.el a k xs i off] K
 |_=>False
theorem aty(t:TypeId)(x:Operand):aB P s ⟨d,.load t x,ty,pos,af,g⟩ K=JZ P s d t (s.ev x) K:=by simp[aB,kqo,jr,qv,rv,xv,zv,Op.operands,dM,JZ];grind[nX,fZ]
def stZ(P:Program)[Tb P](s:St)(d:Option Nat)(t:TypeId)(id:Nat)(e:TypeId)(k:Nat)(xs:List V)(i off:Nat)(y:V)(K:Kd->St->Prop):Prop :=
 match Tb.nest P e with
 |true=>dN ((FU P s t id e k xs i off y).map fun s'=>(.top,s')) d .z K
 |false=>stF P s d t (.el (.own id e) k xs i off) y y.ids K
def Lr(P:Program)[Tb P](s:St)(d:Option Nat)(t:TypeId)(x y:V)(K:Kd->St->Prop):Prop :=
 match x with
 | .ref b off=>dN ((oZ P s t b off y).map fun s'=>(.top,s')) d .x K
 | .el (.own id e) k xs i off=>dN ((rV P s t id k xs i off y).map fun s'=>(.top,s')) d (.w id k) K\/stZ P s d t id e k xs i off y K
 |_=>False
theorem atO(t:TypeId)(x y:Operand):aB P s ⟨d,.store t x y,ty,pos,af,g⟩ K=Lr P s d t (s.ev x) (s.ev y) K:=by
 simp[aB,kqo,jr,kx,qv,rv,xv,zv,nX,fZ,Lr]
 cases hv:s.ev x with
 |el b k xs i off =>
  cases b with
  |own id e =>
   simp only
   unfold stZ
   cases Tb.nest P e with
   |true=>rfl
   |false =>
    generalize(s.ev y).ids=ids
    cases ids with
    |nil=>rfl
    |cons a l=>simp[frX,xv,Uh,hv];rfl
  |_=>simp[dM]
 |_=>simp[dM]
def DK(P:Program)(s:St)(d:Option Nat)(t:TypeId)(x:V)(lo hi:Option V)(l:List V)(K:Kd->St->Prop):Prop :=
 match x with
 | .sl (.own id _) k xs=>if lo.all isC&&hi.all isC then dN (zf P s t id k xs lo hi) d .z K else False
 | .ref b off=>dN (Lh P s t b off lo hi) d .z K
 |x=>iP (slV P t x lo hi) s d l K
def Xr(s:St)(x:Operand)(lo hi:Option Operand):List V:=s.ev x::((lo.toList++hi.toList).map s.ev)
theorem atK(t:TypeId)(x:Operand)(lo hi:Option Operand):aB P s ⟨d,.slice t x lo hi none,ty,pos,af,g⟩ K=DK P s d t (s.ev x) (lo.map s.ev) (hi.map s.ev) (Xr s x lo hi) K:=by
 have e:(Op.slice t x lo hi none).operands.toList.map s.ev=Xr s x lo hi:=by cases lo<;>cases hi<;>rfl
 simp[aB,kqo,jr,qv,rv,xv,zv,fZ,dM,DK,e]
 generalize s.ev x=v
 cases v with
 |sl a k xs =>
  cases a with
  |fz=>simp[dM]
  |nn=>simp[dM]
  |own id e=>grind[slV,nX,dM]
 |ref b off=>simp[slV,nX]
 |_=>simp[dM]
def ES(P:Program)(s:St)(d:Option Nat)(t:TypeId)(x:V)(K:Kd->St->Prop):Prop :=
 match x with
 | .mh false b=>mi (lnB P s t b) s d K
 |x=>iP (rC P t x) s d [x] K
theorem atx(x:Operand)(t:TypeId):aB P s ⟨d,.call {callee:=.builtin .len,args:=#[x],argTypes:=#[t]},ty,pos,af,g⟩ K=ES P s d t (s.ev x) K:=by have e:(Op.call {callee:=.builtin .len,args:=#[x],argTypes:=#[t]}).operands.toList.map s.ev=[s.ev x]:=rfl;grind[aB,kqo,jr,qv,rv,xv,zv,dM,ES,rC,nX,fZ]
theorem ald(t:TypeId)(a:Tag)(k:Nat)(xs:List V):ES P s d t (.sl a k xs) K=iP (rC P t (.sl a k xs)) s d [.sl a k xs] K:=rfl
theorem alb(t:TypeId)(v:Value):ES P s d t (.c v) K=iP (rC P t (.c v)) s d [.c v] K:=rfl
theorem ala(t:TypeId)(b:Nat)(e:TypeId)(o k n:Nat):ES P s d t (.bs b e o k n) K=iP (rC P t (.bs b e o k n)) s d [.bs b e o k n] K:=rfl
theorem alc(t:TypeId)(b:Nat):ES P s d t (.mh false b) K=mi (lnB P s t b) s d K:=rfl
theorem atE(x y:Operand)(ts:Array TypeId):aB P s ⟨d,.call {callee:=.builtin .max,args:=#[x,y],argTypes:=ts},ty,pos,af,g⟩ K=iP (AC true (s.ev x) (s.ev y)) s d [s.ev x,s.ev y] K:=by have e:(Op.call {callee:=.builtin .max,args:=#[x,y],argTypes:=ts}).operands.toList.map s.ev=[s.ev x,s.ev y]:=rfl;grind[aB,kqo,jr,qv,rv,xv,zv,fZ,dM]
theorem atL(x:Operand)(ts:Array TypeId):aB P s ⟨d,.call {callee:=.builtin .unsafeSliceData,args:=#[x],argTypes:=ts},ty,pos,af,g⟩ K=iP (sdV (s.ev x)) s d [s.ev x] K:=by have e:(Op.call {callee:=.builtin .unsafeSliceData,args:=#[x],argTypes:=ts}).operands.toList.map s.ev=[s.ev x]:=rfl;grind[aB,kqo,jr,qv,rv,xv,zv,fZ,dM]
theorem atQ(x n:Operand)(p it:TypeId):aB P s ⟨d,.call {callee:=.builtin .unsafeString,args:=#[x,n],argTypes:=#[p,it]},ty,pos,af,g⟩ K=dN (usV P s p (s.ev x) (s.ev n)) d .z K:=by grind[aB,kqo,jr,qv,rv,xv,zv,nX,fZ,dM]
theorem atF(x y:Operand)(ts:Array TypeId):aB P s ⟨d,.call {callee:=.builtin .min,args:=#[x,y],argTypes:=ts},ty,pos,af,g⟩ K=iP (AC false (s.ev x) (s.ev y)) s d [s.ev x,s.ev y] K:=by have e:(Op.call {callee:=.builtin .min,args:=#[x,y],argTypes:=ts}).operands.toList.map s.ev=[s.ev x,s.ev y]:=rfl;grind[aB,kqo,jr,qv,rv,xv,zv,fZ,dM]
def apZ(P:Program)(s:St)(d:Option Nat)(t t2:TypeId)(x y:V)(K:Kd->St->Prop):Prop :=
 match JS x y with
 |true=>dN (zK P s t t2 x y) d .z K
 |false=>False
theorem atf(x y:Operand)(t t2:TypeId):aB P s ⟨d,.call {callee:=.builtin .append,args:=#[x,y],argTypes:=#[t,t2]},ty,pos,af,g⟩ K=(dN (uG P s t t2 (s.ev x) (s.ev y)) d (qO (s.ev x)) K\/apZ P s d t t2 (s.ev x) (s.ev y) K):=by
 have a:dN (match JS (s.ev x) (s.ev y)with|true=>zK P s t t2 (s.ev x) (s.ev y)|false=>none) d .z K=apZ P s d t t2 (s.ev x) (s.ev y) K:=by unfold apZ;cases JS (s.ev x) (s.ev y)<;>rfl
 rw[<-a];simp[aB,kqo,jr,qv,rv,nX,fZ];rfl
def Ko(s:St)(d:Option Nat)(x:V)(K:Kd->St->Prop):Prop:=match x with | .ref b o=>K (kq [.ref b o] (.ref b o)) (s.put d (.ref b o)) | .el t k xs i o=>K (kq [.el t k xs i o] (.el t k xs i o)) (s.put d (.el t k xs i o)) | .fn f a b=>K (kq [.fn f a b] (.fn f a b)) (s.put d (.fn f a b))|_=>False
theorem atH(x:Operand):aB P s ⟨d,.nilCheck x,ty,pos,af,g⟩ K=Ko s d (s.ev x) K:=by simp[aB,qv,rv,xv,zv,Op.operands,fZ,dM];generalize s.ev x=v;cases v<;>rfl
theorem atm(f:Operand)(args:Array Operand)(ts:Array TypeId):aB P s ⟨d,.call {callee:=.value f,args:=args,argTypes:=ts},ty,pos,af,g⟩ K=eX P (s.ev f) args.toList d s K:=rfl
end
section
variable (D:Dw) (P:Program) [Tb P]
def nD(y:Code)(Q:Exit->St->Prop):Exit->St->Prop:=nZ (fun s'=>wpS D P y Q s') Q
def EY(d:List (Option Nat))(Q:Exit->St->Prop)(r:List Oper)(_:Kd):St->Prop:=wpL P d (Q .normal) r
def qH(d:List (Option Nat))(Q:Exit->St->Prop)(ops:List Oper)(s:St):Prop:=wpL P d (Q .normal) ops s
def GR(v:V)(x y:Code)(Q:Exit->St->Prop)(s:St):Prop:=Nh v (wpS D P x Q s) (wpS D P y Q s)
def Aw(x:Code)(Q:Exit->St->Prop)(s:St):Prop:=RI (fun Q s=>wpS D P x Q s) Q s
def yE(v:Option V)(a:Bool)(d:List (Option Nat))(Q:Exit->St->Prop)(o:Oper)(r:List Oper)(s:St):Prop :=
 match v with|some (.c (.bool b))=>if b=a then aB P s o (EY P d Q r)else wpL P d (Q .normal) r (s.put o.dst (.c undef))|some (.c _)=>wpL P d (Q .normal) r (s.put o.dst (.c undef))|_=>False
def nP(d:List (Option Nat))(ops:List Oper)(Q:Exit->St->Prop)(r:List Oper)(k:List Kd)(s:St):Prop:=uu P d ops (Q .normal) r k s
def Ey(d:List (Option Nat))(ops:List Oper)(Q:Exit->St->Prop)(r:List Oper)(k:List Kd)(κ:Kd)(s:St):Prop:=uu P d ops (Q .normal) r (κ::k) s
def yg(v:Option V)(a:Bool)(d:List (Option Nat))(ops:List Oper)(Q:Exit->St->Prop)(o:Oper)(r:List Oper)(k:List Kd)(s:St):Prop :=
 match v with|some (.c (.bool b))=>if b=a then aB P s o (Ey P d ops Q r k)else uu P d ops (Q .normal) r (.p::k) (s.put o.dst (.c undef))|some (.c _)=>uu P d ops (Q .normal) r (.p::k) (s.put o.dst (.c undef))|_=>False
theorem avA(Q:Exit->St->Prop)(s:St):wpS D P .skip Q s=Q .normal s:=rfl
theorem avr(Q:Exit->St->Prop)(s:St):wpS D P .ret Q s=Q .ret s:=rfl
theorem avm(id:Nat)(Q:Exit->St->Prop)(s:St):wpS D P (.exit id) Q s=Q (.exit id) s:=rfl
theorem avn(l:Nat)(Q:Exit->St->Prop)(s:St):wpS D P (.label l) Q s=Q .normal s:=rfl
theorem avs(x y:Code)(Q:Exit->St->Prop)(s:St):wpS (dC []) P (.seq x y) Q s=wpS (dC []) P x (nD (dC []) P y Q) s:=by
 have:pI (dC []).cuts (gm y)=false:=by cases h:gm y<;>rfl
 grind[wpS,nD]
def aq5(cuts:List Nat)(x y:Code)(Q:Exit->St->Prop)(s:St):Prop:=wpS (dC cuts) P (.seq x y) Q s
theorem avt(n:Nat)(cuts:List Nat)(x y:Code)(Q:Exit->St->Prop)(s:St):wpS (dC (n::cuts)) P (.seq x y) Q s=bif pI (n::cuts) (gm y)then aq5 P (n::cuts) x y Q s else wpS (dC (n::cuts)) P x (nD (dC (n::cuts)) P y Q) s:=by
 cases h:pI (n::cuts) (gm y)with
 |true=>rfl
 |false=>grind[dC,wpS,nD]
theorem agS(id:Nat)(ops:Array Oper)(d:Bool):gm (.region id ops d)=some id:=rfl
theorem agU(x y:Code):gm (.seq x y)=gm x:=rfl
theorem agM(id:Nat)(x:Code):gm (.block id x)=gm x:=rfl
theorem agR(x:Code):gm (.loop x)=gm x:=rfl
theorem agN(c:Operand)(x y:Code):gm (.cond c x y)=none:=rfl
theorem agV:gm .skip=none:=rfl
theorem agT:gm .ret=none:=rfl
theorem agO(id:Nat):gm (.exit id)=none:=rfl
theorem agQ(id:Nat):gm (.label id)=none:=rfl
theorem agP(id:Nat):gm (.goto id)=none:=rfl
theorem aeg(cuts:List Nat)(n:Nat):pI cuts (some n)=cuts.contains n:=rfl
theorem aef(cuts:List Nat):pI cuts none=false:=rfl
def Jl{ι:Type}(S:ι->St)(I:ι->Prop)(Q:Exit->St->Prop):Exit->St->Prop:=nZ (fun s=>∃i,I i/\Weak s (S i)) Q
theorem ael{ι:Type}(S:ι->St)(I:ι->Prop)(Q:Exit->St->Prop)(s:St):Jl S I Q .ret s=Q .ret s:=rfl
theorem aei{ι:Type}(S:ι->St)(I:ι->Prop)(Q:Exit->St->Prop)(id:Nat)(s:St):Jl S I Q (.exit id) s=Q (.exit id) s:=rfl
theorem aej{ι:Type}(S:ι->St)(I:ι->Prop)(Q:Exit->St->Prop)(id:Nat)(s:St):Jl S I Q (.goto id) s=Q (.goto id) s:=rfl
def amc{ι:Type}(S:ι->St)(I:ι->Prop)(s:St):Prop:=∃i,I i/\Weak s (S i)
theorem aek{ι:Type}(S:ι->St)(I:ι->Prop)(Q:Exit->St->Prop)(s:St):Jl S I Q .normal s=amc S I s:=rfl
theorem avg(c:Operand)(x y:Code)(Q:Exit->St->Prop)(s:St):wpS D P (.cond c x y) Q s=GR D P (s.ev c) x y Q s:=rfl
theorem avf(id:Nat)(x:Code)(Q:Exit->St->Prop)(s:St):wpS D P (.block id x) Q s=wpS D P x (inB id Q) s:=rfl
theorem avo(x:Code)(Q:Exit->St->Prop)(s:St):wpS D P (.loop x) Q s=Aw D P x Q s:=rfl
theorem avq[Plain D](id:Nat)(l:List Oper)(Q:Exit->St->Prop)(s:St):wpS D P (.region id l.toArray false) Q s=qH P (l.map (·.dst)) Q l s:=by
 have h:D.ex.contains id=false:=by rw[Plain.ex (D:=D)];rfl
 simp only[wpS,qH,oq,if_false,h,cond_false]
theorem avh(cuts:List Nat)(id:Nat)(l:List Oper)(Q:Exit->St->Prop)(s:St):wpS (dC cuts) P (.region id l.toArray true) Q s=nP P (l.map (·.dst)) l Q l [] s:=by rfl
theorem aun(y:Code)(Q:Exit->St->Prop)(s:St):nD D P y Q .normal s=wpS D P y Q s:=rfl
theorem auo(y:Code)(Q:Exit->St->Prop)(s:St):nD D P y Q .ret s=Q .ret s:=rfl
theorem aum(id:Nat)(y:Code)(Q:Exit->St->Prop)(s:St):nD D P y Q (.exit id) s=Q (.exit id) s:=rfl
theorem ajy(id:Nat)(Q:Exit->St->Prop)(s:St):inB id Q .normal s=Q .normal s:=rfl
theorem ajz(id:Nat)(Q:Exit->St->Prop)(s:St):inB id Q .ret s=Q .ret s:=rfl
theorem ajx(id id':Nat)(Q:Exit->St->Prop)(s:St):inB id Q (.exit id') s=if id'=id then Q .normal s else Q (.exit id') s:=rfl
theorem auq(k:St->Prop)(Q:Exit->St->Prop)(s:St):nZ k Q .normal s=k s:=rfl
theorem aur(k:St->Prop)(Q:Exit->St->Prop)(s:St):nZ k Q .ret s=Q .ret s:=rfl
theorem aup(id:Nat)(k:St->Prop)(Q:Exit->St->Prop)(s:St):nZ k Q (.exit id) s=Q (.exit id) s:=rfl
theorem TC(x y:Code)(Q:Exit->St->Prop)(s:St):GR D P (.c (.bool true)) x y Q s=wpS D P x Q s:=by rfl
theorem TB(x y:Code)(Q:Exit->St->Prop)(s:St):GR D P (.c (.bool false)) x y Q s=wpS D P y Q s:=by rfl
theorem adQ{b:Bool}{x y:Code}{Q:Exit->St->Prop}{s:St}(h:b=true->wpS D P x Q s)(hf:b=false->wpS D P y Q s):GR D P (.c (.bool b)) x y Q s:=by
 cases b
 .grind[TB]
 .grind[TC]
theorem apV(d:List (Option Nat))(Q:Exit->St->Prop)(s:St):qH P d Q [] s=Q .normal s:=rfl
theorem apW(a:List (Option Nat))(Q:Exit->St->Prop)(s:St)(d:Option Nat)(op:Op)(ty:TypeId)(pos:String)(b:Array Edge)(r:List Oper) :
  qH P a Q (⟨d,op,ty,pos,b,none⟩::r) s=aB P s ⟨d,op,ty, "",#[],none⟩ (EY P a Q r):=by rfl
theorem apU(a:List (Option Nat))(Q:Exit->St->Prop)(s:St)(d:Option Nat)(op:Op)(ty:TypeId)(pos:String)(c:Array Edge)(j:Nat)(b:Bool)(r:List Oper) :
  qH P a Q (⟨d,op,ty,pos,c,some (j,b)⟩::r) s=yE P (jT s a j) b a Q ⟨d,op,ty, "",#[],none⟩ r s:=by rfl
theorem amE(d:List (Option Nat))(Q:Exit->St->Prop)(r:List Oper)(κ:Kd)(s:St):EY P d Q r κ s=qH P d Q r s:=rfl
theorem aiL(b:Bool)(d:List (Option Nat))(Q:Exit->St->Prop)(o:Oper)(r:List Oper)(s:St):yE P (some (.c (.bool b))) b d Q o r s=aB P s o (EY P d Q r):=by simp[yE]
theorem aiN(d:List (Option Nat))(Q:Exit->St->Prop)(o:Oper)(r:List Oper)(s:St):yE P (some (.c (.bool true))) false d Q o r s=qH P d Q r (s.put o.dst (.c undef)):=by rfl
theorem aiK(d:List (Option Nat))(Q:Exit->St->Prop)(o:Oper)(r:List Oper)(s:St):yE P (some (.c (.bool false))) true d Q o r s=qH P d Q r (s.put o.dst (.c undef)):=by rfl
theorem aiO(a:Bool)(d:List (Option Nat))(Q:Exit->St->Prop)(o:Oper)(r:List Oper)(s:St):yE P (some (.c undef)) a d Q o r s=qH P d Q r (s.put o.dst (.c undef)):=rfl
theorem afh(a:Bool)(d:List (Option Nat))(ops:List Oper)(Q:Exit->St->Prop)(o:Oper)(r:List Oper)(k:List Kd)(s:St):yg P (some (.c undef)) a d ops Q o r k s=nP P d ops Q r (.p::k) (s.put o.dst (.c undef)):=rfl
theorem ae9(d:List (Option Nat))(ops:List Oper)(Q:Exit->St->Prop)(k:List Kd)(s:St):nP P d ops Q [] k s=(qV ops k.reverse=true/\Q .normal s):=rfl
theorem afa(a:List (Option Nat))(ops:List Oper)(Q:Exit->St->Prop)(k:List Kd)(s:St)(d:Option Nat)(op:Op)(ty:TypeId)(pos:String)(b:Array Edge)(r:List Oper) :
  nP P a ops Q (⟨d,op,ty,pos,b,none⟩::r) k s=aB P s ⟨d,op,ty, "",#[],none⟩ (Ey P a ops Q r k):=by rfl
theorem ae8(a:List (Option Nat))(ops:List Oper)(Q:Exit->St->Prop)(k:List Kd)(s:St)(d:Option Nat)(op:Op)(ty:TypeId)(pos:String)(c:Array Edge)(j:Nat)(b:Bool)(r:List Oper) :
  nP P a ops Q (⟨d,op,ty,pos,c,some (j,b)⟩::r) k s=yg P (jT s a j) b a ops Q ⟨d,op,ty, "",#[],none⟩ r k s:=by rfl
theorem afi(d:List (Option Nat))(ops:List Oper)(Q:Exit->St->Prop)(r:List Oper)(k:List Kd)(κ:Kd)(s:St):Ey P d ops Q r k κ s=nP P d ops Q r (κ::k) s:=rfl
theorem afe(b:Bool)(d:List (Option Nat))(ops:List Oper)(Q:Exit->St->Prop)(o:Oper)(r:List Oper)(k:List Kd)(s:St):yg P (some (.c (.bool b))) b d ops Q o r k s=aB P s o (Ey P d ops Q r k):=by simp[yg]
theorem afg(d:List (Option Nat))(ops:List Oper)(Q:Exit->St->Prop)(o:Oper)(r:List Oper)(k:List Kd)(s:St):yg P (some (.c (.bool true))) false d ops Q o r k s=nP P d ops Q r (.p::k) (s.put o.dst (.c undef)):=by rfl
theorem afd(d:List (Option Nat))(ops:List Oper)(Q:Exit->St->Prop)(o:Oper)(r:List Oper)(k:List Kd)(s:St):yg P (some (.c (.bool false))) true d ops Q o r k s=nP P d ops Q r (.p::k) (s.put o.dst (.c undef)):=by rfl
theorem aff{b a:Bool}{d:List (Option Nat)}{ops:List Oper}{Q:Exit->St->Prop}{o:Oper}{r:List Oper}{k:List Kd}{s:St}(h:b=a->aB P s o (Ey P d ops Q r k))(hf:b = !a->nP P d ops Q r (.p::k) (s.put o.dst (.c undef))) :
  yg P (some (.c (.bool b))) a d ops Q o r k s:=by
 simp[yg]
 split
 .exact h ‹_›
 .exact hf (by cases b<;>cases a<;>simp_all)
theorem aiM{b a:Bool}{d:List (Option Nat)}{Q:Exit->St->Prop}{o:Oper}{r:List Oper}{s:St}(h:b=a->aB P s o (EY P d Q r))(hf:b = !a->qH P d Q r (s.put o.dst (.c undef))) :
  yE P (some (.c (.bool b))) a d Q o r s:=by
 simp[yE]
 split
 .exact h ‹_›
 .exact hf (by cases b<;>cases a<;>simp_all)
theorem aiT(e:Nat->V)(b:BX)(n:Nat)(h:Nat->V)(a:List (Option Nat))(j:Nat):jT ⟨e,b,n,h⟩ a j=match a[j]? with|some (some d)=>some (e d)|_=>none:=rfl
end
section
variable (P:Program) (t:TypeId) (k:IntKind) (a b:Int)
theorem acu:bU P .add t (.c (.int k a)) (.c (.int k b))=some (.c (.int k (k.wrap (a+b)))):=by simp[bU,mW]
theorem acS:bU P .sub t (.c (.int k a)) (.c (.int k b))=some (.c (.int k (k.wrap (a-b)))):=by simp[bU,mW]
theorem acE:bU P .mul t (.c (.int k a)) (.c (.int k b))=some (.c (.int k (k.wrap (a*b)))):=by simp[bU,mW]
theorem acH:bU P .quo t (.c (.int k a)) (.c (.int k b))=if b=0 then none else some (.c (.int k (k.wrap (a.tdiv b)))):=by grind[bU,mW]
theorem acI:bU P .rem t (.c (.int k a)) (.c (.int k b))=if b=0 then none else some (.c (.int k (a.tmod b))):=by grind[bU,mW]
theorem acv:bU P .and t (.c (.int k a)) (.c (.int k b))=some (.c (.int k (bits .and k a b))):=by simp[bU,mW]
theorem acG:bU P .or t (.c (.int k a)) (.c (.int k b))=some (.c (.int k (bits .or k a b))):=by simp[bU,mW]
theorem acT:bU P .xor t (.c (.int k a)) (.c (.int k b))=some (.c (.int k (bits .xor k a b))):=by simp[bU,mW]
theorem acw:bU P .andNot t (.c (.int k a)) (.c (.int k b))=some (.c (.int k (bits .andNot k a b))):=by simp[bU,mW]
theorem acz:bU P .eql t (.c (.int k a)) (.c (.int k b))=some (.c (.bool (a == b))):=by simp[bU,mW]
theorem acF:bU P .neq t (.c (.int k a)) (.c (.int k b))=some (.c (.bool (a != b))):=by simp[bU,mW]
theorem acD:bU P .lss t (.c (.int k a)) (.c (.int k b))=some (.c (.bool (decide (a<b)))):=by simp[bU,mW]
theorem acC:bU P .leq t (.c (.int k a)) (.c (.int k b))=some (.c (.bool (decide (a<=b)))):=by simp[bU,mW]
theorem acB:bU P .gtr t (.c (.int k a)) (.c (.int k b))=some (.c (.bool (decide (b<a)))):=by simp[bU,mW]
theorem acA:bU P .geq t (.c (.int k a)) (.c (.int k b))=some (.c (.bool (decide (b<=a)))):=by simp[bU,mW]
theorem acN(k2:IntKind):bU P .shl t (.c (.int k a)) (.c (.int k2 b))=if b<0 then none else some (.c (.int k (k.wrap (a*2^min b.toNat k.bits)))):=rfl
theorem acO(k2:IntKind):bU P .shr t (.c (.int k a)) (.c (.int k2 b))=if b<0 then none else some (.c (.int k (a.fdiv (2^min b.toNat k.bits)))):=rfl
theorem acx(x y:Bool):bU P .eql t (.c (.bool x)) (.c (.bool y))=if xu P t=true then some (.c (.bool (x == y)))else none:=rfl
theorem acy(x y:Bool):bU P .neq t (.c (.bool x)) (.c (.bool y))=if xu P t=true then some (.c (.bool (!(x == y))))else none:=rfl
theorem acK(x y:ByteArray):bU P .eql t (.c (.string x)) (.c (.string y))=some (.c (.bool (decide (x=y)))):=rfl
theorem acR(x y:ByteArray):bU P .neq t (.c (.string x)) (.c (.string y))=some (.c (.bool (!decide (x=y)))):=rfl
theorem acQ(x y:ByteArray):bU P .lss t (.c (.string x)) (.c (.string y))=some (.c (.bool (Op.bytesLess x.toList y.toList))):=rfl
theorem acP(x y:ByteArray):bU P .leq t (.c (.string x)) (.c (.string y))=some (.c (.bool (Op.bytesLess x.toList y.toList||decide (x=y)))):=rfl
theorem acM(x y:ByteArray):bU P .gtr t (.c (.string x)) (.c (.string y))=some (.c (.bool (!(Op.bytesLess x.toList y.toList||decide (x=y))))):=rfl
theorem acL(x y:ByteArray):bU P .geq t (.c (.string x)) (.c (.string y))=some (.c (.bool (!Op.bytesLess x.toList y.toList))):=rfl
theorem apc(c x y:Bool):tV c (.c (.bool x)) (.c (.bool y)) = .c (.bool (bif c then x else y)):=rfl
theorem apf(x y:V):tV true x y=x:=by unfold tV;split<;>rfl
theorem apd(x y:V):tV false x y=y:=by unfold tV;split<;>rfl
theorem apb(s:St)(d:Option Nat)(c:Bool)(x y:V)(K:Kd->St->Prop):X7 s d (.c (.bool c)) x y K=K (kq [.c (.bool c),x,y] (tV c x y)) (s.put d (tV c x y)):=rfl
end
end Go.Pg
end
section
namespace Go.Pg
open Go
theorem am3(k:IntKind)(n:Int):jd (.int k n) = .c (.int k n):=rfl
theorem am2(b:Bool):jd (.bool b) = .c (.bool b):=rfl
theorem am6(z:ByteArray):jd (.string z) = .c (.string z):=rfl
theorem am5(a:Option Addr)(n c:Nat):jd (.slice a n c) = .c (.slice a n c):=rfl
theorem am4(a:Option Addr):jd (.pointer a) = .c (.pointer a):=rfl
theorem am1(l:List Value):jd (.agg l.toArray) = .agg (l.map .c):=by rfl
theorem ajC(l:List V):Hr l=⟨qw l 0,fun _=>none,0,fun _=>.top⟩:=rfl
theorem ajB(k:Nat):qw [] k=fun _=>.top:=rfl
theorem ajA(x:V)(xs:List V)(k:Nat):qw (x::xs) k=upd (qw xs (k+1)) k x:=rfl
theorem ad6(k:IntKind)(n:Int):V.cs (.c (.int k n))=some [.c (.int k n)]:=rfl
theorem ad5(b:Bool):V.cs (.c (.bool b))=some [.c (.bool b)]:=rfl
theorem ad8(z:ByteArray):V.cs (.c (.string z))=some [.c (.string z)]:=rfl
theorem ad7(a:Option Addr)(n c:Nat):V.cs (.c (.slice a n c))=some [.c (.slice a n c)]:=rfl
theorem ad3(l:List V):V.cs (.agg l)=some l:=rfl
theorem aed(t:Tag)(k:Nat)(xs:List V):V.cs (.sl t k xs)=some [.sl t k xs]:=rfl
theorem aec(b o:Nat):V.cs (.ref b o)=some [.ref b o]:=rfl
theorem ad9(f:FuncId)(x y:List V):V.cs (.fn f x y)=some [.fn f x y]:=rfl
theorem ane(k:IntKind)(n:Int):V.one (.c (.int k n))=true:=rfl
theorem anc(b:Bool):V.one (.c (.bool b))=true:=rfl
theorem ang(z:ByteArray):V.one (.c (.string z))=true:=rfl
theorem anf(a:Option Addr)(n c:Nat):V.one (.c (.slice a n c))=true:=rfl
theorem anl(t:Tag)(k:Nat)(xs:List V):V.one (.sl t k xs)=true:=rfl
theorem ank(b o:Nat):V.one (.ref b o)=true:=rfl
theorem anh(f:FuncId)(x y:List V):V.one (.fn f x y)=true:=rfl
theorem ags(v:Value):V.free (.c v)=true:=rfl
theorem agu(k:Nat)(xs:List V):V.free (.sl .fz k xs)=true:=rfl
theorem agp(l:List V):V.free (.agg l) = !V.anyL Tag.isOwn (fun _=>true) true l:=rfl
theorem aa2(p:Tag->Bool)(q:Nat->Bool)(tp:Bool):V.anyL p q tp []=false:=rfl
theorem aa0(p:Tag->Bool)(q:Nat->Bool)(tp:Bool)(x:V)(xs:List V):V.anyL p q tp (x::xs)=(V.any p q tp x||V.anyL p q tp xs):=rfl
theorem aa5(p:Tag->Bool)(q:Nat->Bool)(tp:Bool)(v:Value):V.any p q tp (.c v)=false:=rfl
theorem abf(p:Tag->Bool)(q:Nat->Bool)(tp:Bool)(t:Tag)(k:Nat)(xs:List V):V.any p q tp (.sl t k xs)=p t:=rfl
theorem aa3(p:Tag->Bool)(q:Nat->Bool)(tp:Bool)(l:List V):V.any p q tp (.agg l)=V.anyL p q tp l:=rfl
theorem abh(p:Tag->Bool)(q:Nat->Bool)(tp:Bool)(l:List V):V.any p q tp (.tup l)=V.anyL p q tp l:=rfl
theorem abd(p:Tag->Bool)(q:Nat->Bool)(tp:Bool)(b o:Nat):V.any p q tp (.ref b o)=q b:=rfl
theorem aa6(p:Tag->Bool)(q:Nat->Bool)(tp:Bool)(t:Tag)(k:Nat)(xs:List V)(i o:Nat):V.any p q tp (.el t k xs i o)=p t:=rfl
theorem aa8(p:Tag->Bool)(q:Nat->Bool)(tp:Bool)(f:FuncId)(x y:List V):V.any p q tp (.fn f x y)=(V.anyL p q tp x||V.anyL p q tp y):=rfl
theorem abg(p:Tag->Bool)(q:Nat->Bool)(tp:Bool):V.any p q tp .top=tp:=rfl
theorem alU(τ:Tag->Tag)(ρ:Nat->Nat):V.mapL τ ρ []=[]:=rfl
theorem alT(τ:Tag->Tag)(ρ:Nat->Nat)(x:V)(xs:List V):V.mapL τ ρ (x::xs)=V.map τ ρ x::V.mapL τ ρ xs:=rfl
theorem alY(τ:Tag->Tag)(ρ:Nat->Nat)(v:Value):V.map τ ρ (.c v) = .c v:=rfl
theorem al7(τ:Tag->Tag)(ρ:Nat->Nat)(t:Tag)(k:Nat)(xs:List V):V.map τ ρ (.sl t k xs) = .sl (τ t) k xs:=rfl
theorem alW(τ:Tag->Tag)(ρ:Nat->Nat)(l:List V):V.map τ ρ (.agg l) = .agg (V.mapL τ ρ l):=rfl
theorem al9(τ:Tag->Tag)(ρ:Nat->Nat)(l:List V):V.map τ ρ (.tup l) = .tup (V.mapL τ ρ l):=rfl
theorem al6(τ:Tag->Tag)(ρ:Nat->Nat)(b o:Nat):V.map τ ρ (.ref b o) = .ref (ρ b) o:=rfl
theorem al1(τ:Tag->Tag)(ρ:Nat->Nat)(t:Tag)(k:Nat)(xs:List V)(i o:Nat):V.map τ ρ (.el t k xs i o) = .el (τ t) k xs i o:=rfl
theorem al2(τ:Tag->Tag)(ρ:Nat->Nat)(f:FuncId)(x y:List V):V.map τ ρ (.fn f x y) = .fn f (V.mapL τ ρ x) (V.mapL τ ρ y):=rfl
theorem al8(τ:Tag->Tag)(ρ:Nat->Nat):V.map τ ρ .top = .top:=rfl
theorem ajX(i j:Nat)(e:TypeId):Tag.is i (.own j e)=(j == i):=rfl
theorem ajV(i:Nat):Tag.is i .fz=false:=rfl
theorem ajW(i:Nat):Tag.is i .nn=false:=rfl
theorem ajS:Tag.isOwn .nn=true:=rfl
theorem amU(l:List Nat):Tag.notIn l .nn=false:=rfl
theorem ap5(l:List Nat):mr l .nn = .nn:=rfl
theorem arI(n:Nat)(k:Nat)(xs:List V):V.shift n (.sl .nn k xs) = .sl .nn k xs:=rfl
theorem ajb(k:Nat)(xs:List V):V.idb (.sl .nn k xs)=0:=rfl
theorem agf(k:Nat)(xs:List V):V.flat (.sl .nn k xs)=V.flatL xs:=rfl
theorem ajT(j:Nat)(e:TypeId):Tag.isOwn (.own j e)=true:=rfl
theorem ajR:Tag.isOwn .fz=false:=rfl
theorem amV(l:List Nat)(i:Nat)(e:TypeId):Tag.notIn l (.own i e) = !l.contains i:=rfl
theorem amT(l:List Nat):Tag.notIn l .fz=false:=rfl
theorem ap6(l:List Nat)(i:Nat)(e:TypeId):mr l (.own i e) = .own (l.idxOf i) e:=rfl
theorem ap4(l:List Nat):mr l .fz = .fz:=rfl
theorem afH(v:V):v.erase=v.map (fun _=>.fz) id:=rfl
theorem arF(n:Nat)(v:Value):V.shift n (.c v) = .c v:=rfl
theorem arJ(n id:Nat)(e:TypeId)(k:Nat)(xs:List V):V.shift n (.sl (.own id e) k xs) = .sl (.own (id+n) e) k xs:=rfl
theorem arG(n:Nat)(k:Nat)(xs:List V):V.shift n (.sl .fz k xs) = .sl .fz k xs:=rfl
theorem Qy(n:Nat)(l:List V):V.mapL (fun t=>match t with | .fz=>.fz | .nn=>.nn | .own id e=>.own (id+n) e) id l=l.map (V.shift n):=H6 _ _ _
def arE(n:Nat)(l:List V):V.shift n (.agg l) = .agg (l.map (V.shift n)):=by rw[<-Qy];rfl
def arK(n:Nat)(l:List V):V.shift n (.tup l) = .tup (l.map (V.shift n)):=by rw[<-Qy];rfl
theorem ai8(v:Value):V.idb (.c v)=0:=rfl
theorem ajc(id:Nat)(e:TypeId)(k:Nat)(xs:List V):V.idb (.sl (.own id e) k xs)=id+1:=rfl
theorem ai9(k:Nat)(xs:List V):V.idb (.sl .fz k xs)=0:=rfl
theorem ai7(l:List V):V.idb (.agg l)=V.idbL l:=rfl
theorem ajd(l:List V):V.idb (.tup l)=V.idbL l:=rfl
theorem ai6:V.idbL []=0:=rfl
theorem ai5(x:V)(xs:List V):V.idbL (x::xs)=max (V.idb x) (V.idbL xs):=rfl
theorem agb(v:Value):V.flat (.c v)=true:=rfl
theorem agh(id:Nat)(e:TypeId)(k:Nat)(xs:List V):V.flat (.sl (.own id e) k xs)=V.flatL xs:=rfl
theorem agd(k:Nat)(xs:List V):V.flat (.sl .fz k xs)=false:=rfl
theorem af9(l:List V):V.flat (.agg l)=V.flatL l:=rfl
theorem agj(l:List V):V.flat (.tup l)=V.flatL l:=rfl
theorem af8:V.flatL []=true:=rfl
theorem af7(x:V)(xs:List V):V.flatL (x::xs)=(V.flat x&&V.flatL xs):=rfl
def af6(l a:List V):V.flatL (l++a)=(V.flatL l&&V.flatL a):=by induction l<;>grind[V.flatL]
theorem amQ(v:V):v.noRef = !v.any (fun _=>false) (fun _=>true) false:=rfl
theorem anA(l:List V):ownFree l = !V.anyL Tag.isOwn (fun _=>false) false l:=rfl
theorem amR(l:List V):noRefs l = !V.anyL (fun _=>false) (fun _=>true) false l:=rfl
theorem agy(s:St):s.freezeAll []=s:=rfl
def bD(ψ:V->V)(e:Nat->V):Nat->V:=fun t=>ψ (e t)
def df(ψ:V->V)(b:BX):BX:=fun x=>(b x).map fun y=>(y.1,y.2.map ψ)
theorem abE(P:Program)(s:St)(d:Option Nat)(t t2:TypeId)(u v:Value)(K:Kd->St->Prop):apZ P s d t t2 (.c u) (.c v) K=False:=rfl
theorem abG(P:Program)(s:St)(d:Option Nat)(t t2:TypeId)(u:Value)(a:Tag)(k:Nat)(xs:List V)(K:Kd->St->Prop):apZ P s d t t2 (.c u) (.sl a k xs) K=False:=rfl
theorem abH(P:Program)(s:St)(d:Option Nat)(t t2:TypeId)(v:Value)(a:Tag)(k:Nat)(xs:List V)(K:Kd->St->Prop):apZ P s d t t2 (.sl a k xs) (.c v) K=False:=rfl
theorem abI(P:Program)(s:St)(d:Option Nat)(t t2:TypeId)(c a:Tag)(k b:Nat)(xs ys:List V)(K:Kd->St->Prop):apZ P s d t t2 (.sl c k xs) (.sl a b ys) K=False:=rfl
theorem abC(P:Program)(s:St)(d:Option Nat)(t t2:TypeId)(b:Nat)(e:TypeId)(o k n:Nat)(y:V)(K:Kd->St->Prop):apZ P s d t t2 (.bs b e o k n) y K=dN (zK P s t t2 (.bs b e o k n) y) d .z K:=rfl
theorem abD(P:Program)(s:St)(d:Option Nat)(t t2:TypeId)(u:Value)(b:Nat)(e:TypeId)(o k n:Nat)(K:Kd->St->Prop):apZ P s d t t2 (.c u) (.bs b e o k n) K=dN (zK P s t t2 (.c u) (.bs b e o k n)) d .z K:=rfl
theorem adl(P:Program)[Tb P](s:St)(d:Option Nat)(t:TypeId)(n:Nat)(parts:List (Nat×V))(ids:List Nat)(K:Kd->St->Prop):bsZ P s d t n parts ids K=match BO P t with|true=>dN (EU P s t n parts) d .z K|false=>bsF P s d t n parts ids K:=rfl
theorem acW(P:Program)[Tb P](t:TypeId):BO P t=match elemT P t with|some e=>Tb.nest P e|none=>false:=rfl
theorem asu(P:Program)[Tb P](s:St)(d:Option Nat)(t:TypeId)(id:Nat)(e:TypeId)(k:Nat)(xs:List V)(i off:Nat)(y:V)(K:Kd->St->Prop):stZ P s d t id e k xs i off y K=match Tb.nest P e with|true=>dN ((FU P s t id e k xs i off y).map fun s'=>(.top,s')) d .z K|false=>stF P s d t (.el (.own id e) k xs i off) y y.ids K:=rfl
theorem alR(ψ:V->V)(e:Nat->V)(t:Nat):bD ψ e t=ψ (e t):=rfl
theorem alO(ψ:V->V)(b:BX)(x:Nat):df ψ b x=(b x).map fun y=>(y.1,y.2.map ψ):=rfl
theorem alP(ψ:V->V):df ψ (fun _=>none)=fun _=>none:=rfl
theorem alV(e:Nat->V)(b:BX)(n:Nat)(h:Nat->V)(ψ:V->V):St.mapV ⟨e,b,n,h⟩ ψ=⟨bD ψ e,df ψ b,n,bD ψ h⟩:=rfl
theorem Yc(id:Nat)(v:V):aF id v=if v.has id then .top else v:=rfl
theorem aiV(id:Nat)(v:V):v.has id=v.any (Tag.is id) (fun _=>false) false:=rfl
theorem yt(id:Nat)(v:V):frz id v=v.map (fun t=>if t.is id then .fz else t) _root_.id:=rfl
theorem ai3(P:Program)(t:TypeId)(a:Tag)(k:Nat)(xs:List V)(i:IntKind)(n:Int):iaV P t (.sl a k xs) (.c (.int i n))=if(elemT P t).bind (tsz P)=some k/\0<=n/\n<xs.length then some (.el a k xs n.toNat 0)else none:=rfl
theorem alh(P:Program)(t:TypeId)(a:Tag)(k:Nat)(xs:List V):rC P t (.sl a k xs)=if(elemT P t).isSome then some (.c (.int .i64 xs.length))else none:=rfl
theorem alf(P:Program)(t:TypeId)(n c:Nat):rC P t (.c (.slice none n c))=if(elemT P t).isSome then some (.c (.int .i64 n))else none:=rfl
theorem ali(P:Program)(t:TypeId)(z:ByteArray):rC P t (.c (.string z))=if iU P t then some (.c (.int .i64 z.size))else none:=rfl
theorem alz(P:Program)[Tb P](s:St)(d:Option Nat)(t:TypeId)(b off:Nat)(K:Kd->St->Prop):JZ P s d t (.ref b off) K=mi (nV P s t b off) s d K:=rfl
theorem aly(P:Program)(s:St)(d:Option Nat)(t:TypeId)(a:Tag)(k:Nat)(xs:List V)(i off:Nat)(K:Kd->St->Prop):JZ P s d t (.el a k xs i off) K=iP ((xs[i]?).bind fun y=>y.cs.bind fun cs=>jI P t cs off) s d [.el a k xs i off] K:=rfl
theorem GU(P:Program)(s:St)(d:Option Nat)(src a:TypeId)(x:V)(K:Kd->St->Prop):zL P s d src a x K=(iP (lZ P src a x) s d [x] K\/mi (pY P s src a x) s d K\/dN ((vP P src a x).map fun r=>(r,s)) d .x K\/dN (rP P s src a x) d .z K):=rfl
theorem aub(P:Program)(src d:TypeId)(k:IntKind)(n:Int):vP P src d (.c (.int k n))=none:=rfl
theorem aqY(P:Program)(s:St)(src d:TypeId)(v:Value):rP P s src d (.c v)=none:=rfl
def adT(P:Program)(s:St)(d:Option Nat)(src a:TypeId)(k:IntKind)(n:Int)(K:Kd->St->Prop):zL P s d src a (.c (.int k n)) K=iP (lZ P src a (.c (.int k n))) s d [.c (.int k n)] K:=by grind[GU,vP,rP,pY,dM,fZ]
theorem afO(l:List V)(i:Nat):exV (.tup l) i=l[i]?:=rfl
theorem arZ(P:Program)(s:St)(d:Option Nat)(t:TypeId)(k:Nat)(xs:List V)(lo hi:Option V)(l:List V)(K:Kd->St->Prop):DK P s d t (.sl .fz k xs) lo hi l K=iP (slV P t (.sl .fz k xs) lo hi) s d l K:=rfl
theorem arY(P:Program)(s:St)(d:Option Nat)(t:TypeId)(v:Value)(lo hi:Option V)(l:List V)(K:Kd->St->Prop):DK P s d t (.c v) lo hi l K=iP (slV P t (.c v) lo hi) s d l K:=rfl
theorem ar0(P:Program)(s:St)(d:Option Nat)(t:TypeId)(id:Nat)(e:TypeId)(k:Nat)(xs:List V)(lo hi:Option V)(l:List V)(K:Kd->St->Prop):DK P s d t (.sl (.own id e) k xs) lo hi l K=if lo.all isC&&hi.all isC then dN (zf P s t id k xs lo hi) d .z K else False:=rfl
theorem Ld(P:Program)(t:TypeId)(k:Nat)(xs:List V)(lo hi:Option V):slV P t (.sl .fz k xs) lo hi=(bdV lo 0).bind fun l=>(bdV hi xs.length).bind fun h=>if(elemT P t).bind (tsz P)=some k/\0<=l/\l<=h/\h<=xs.length then some (.sl .fz k ((xs.take h.toNat).drop l.toNat))else none:=rfl
theorem arV(P:Program)(t:TypeId)(z:ByteArray)(lo hi:Option V):slV P t (.c (.string z)) lo hi=(bdV lo 0).bind fun l=>(bdV hi z.size).bind fun h=>if iU P t=true/\0<=l/\l<=h/\h<=z.size then some (.c (.string (z.extract l.toNat h.toNat)))else none:=rfl
theorem ab4(n:Nat):bdV none n=some (n:Int):=rfl
theorem ab3(k:IntKind)(i:Int)(n:Nat):bdV (some (.c (.int k i))) n=some i:=rfl
theorem ash(P:Program)(t:TypeId)(k:Nat)(b:Tag)(a:Nat)(ys:List V):rQ P t k (.sl b a ys)=if a=k/\(elemT P t).isSome then some ys else none:=rfl
theorem asg(P:Program)(t:TypeId)(k n:Nat):rQ P t k (.c (.slice none 0 n))=if(elemT P t).isSome then some []else none:=rfl
theorem asi(P:Program)(t:TypeId)(k:Nat)(z:ByteArray):rQ P t k (.c (.string z))=if k=1/\iU P t=true then some (uI z)else none:=rfl
def oH{P:Program}[Tb P]{g:FuncId}{args:List Operand}{d:Option Nat}{s:St}{K:Kd->St->Prop}{vs:List V}(r:V)(hg:Good P g vs r)(h:(args.map s.ev).map V.erase=vs)(h1:noRefs (args.map s.ev)=true)
  (h2:r.noRef=true) (h3:(ownFree (args.map s.ev)||r.flat)=true) (hK:K (kc (.fn g [] []::args.map s.ev) [] r) (St.put {s with nid:=s.nid+r.idb} d (r.shift s.nid))):eX P (.fn g [] []) args d s K:=by
 refine .inl ⟨[],r,?_,rfl,?_,h2,?_,hK⟩
 .grind[St.freezeAll]
 .grind[St.freezeAll]
 .assumption
section
variable (P:Program) (op:BinOp) (t:TypeId) (x y:V)
theorem acs(n:Nat):qQ P op t x y (.tmp n)=bU P op t x y:=rfl
theorem acl(k:IntKind)(n:Int):qQ P op t x y (.const (.int k n))=bU P op t x y:=rfl
theorem acr(z:ByteArray):qQ P op t x y (.const (.string z))=bU P op t x y:=rfl
theorem ack(b:Bool):qQ P op t x y (.const (.bool b))=bU P op t x y:=rfl
theorem acp(a:Option Addr)(n c:Nat):qQ P op t x y (.const (.slice a n c))=bU P op t x y:=rfl
theorem acn(a:Option Addr):qQ P op t x y (.const (.pointer a))=bU P op t x y:=rfl
theorem acj(a:Array Value):qQ P op t x y (.const (.agg a))=bU P op t x y:=rfl
theorem acm:qQ P op t x y (.const .nilIface)=Di P op t x:=rfl
theorem amG(h:tq P t=true):Di P .eql t (.c .nilIface)=some (.c (.bool true)):=ah h
theorem amL(h:tq P t=true):Di P .neq t (.c .nilIface)=some (.c (.bool false)):=ah h
theorem amF(a:TypeId)(v:Value)(h:tq P t=true):Di P .eql t (.c (.iface a v))=some (.c (.bool false)):=ah h
theorem amK(a:TypeId)(v:Value)(h:tq P t=true):Di P .neq t (.c (.iface a v))=some (.c (.bool true)):=ah h
theorem am7:jd .nilIface = .c .nilIface:=rfl
end
def pgs :=
 A8 @acs @acl @acr @ack @acp @acn @acj @acm (A8 @amG @amL @amF @amK @am7 @atL @atQ @afN (A8 @afI @afJ @afK @apy @auU @Ky @nX @anv (A8 @dM @anw @fZ @ae9 @afa @ae8 @afi @ar0 (A8 @atG @atg @ath @atP @atq @atr @atv @atw (A8 @att @atA @atj @ate @ati @atl @atC @atI (A8 @ato @aty @atO @atK @atx @ald @alb @ala (A8 @atE @atF @atf @atH @atm @avA @avr @avm (A8 @avn @avs @avt @agS @agU @agM @agR @agN (A8 @agV @agT @agO @agQ @agP @aeg @aef @ael (A8 @aei @aej @aek @avg @avf @avo @avq @avh (A8 @aun @auo @aum @ajy @ajz @ajx @auq @aur (A8 @aup @TC @TB @apV @apW @apU @amE @aiT (A8 @acu @acS @acE @acv @acG @acT @acw @acz (A8 @acF @acD @acC @acB @acA @acx @acy @acK (A8 @acR @acQ @acP @acM @acL @apc @apf @apd (A8 @apb @am3 @am2 @am6 @am5 @am4 @am1 @ajC (A8 @ajB @ajA @ad6 @ad5 @ad8 @ad7 @ad3 @aed (A8 @aec @ad9 @ane @anc @ang @anf @anl @ank (A8 @anh @ags @agu @agp @aa2 @aa0 @aa5 @abf (A8 @aa3 @abh @abd @aa6 @aa8 @abg @alU @alT (A8 @alY @al7 @alW @al9 @al6 @al1 @al2 @al8 (A8 @ajX @ajV @ajT @ajR @amV @amT @ap6 @ap4 (A8 @afH @arF @arJ @arG @Qy @arE @arK @ai8 (A8 @ajc @ai9 @ai7 @ajd @ai6 @ai5 @agb @agh (A8 @agd @af9 @agj @af8 @af7 @af6 @amQ @anA (A8 @amR @agy @alV @alR @alO @alP @Yc @aiV (A8 @yt @alh @alf @ali @alz @aly @adT @aub (A8 @aqY @afO @arZ @arY @ab4 @ab3 @ash @asg (A8 @abE @abG @abH @abI @abC @abD @adl @acW (aI @asu @asi))))))))))))))))))))))))))))))
def pgl :=
 A8 @dZ.{0,0} @zD.{0,0} @mQ.{0,0} @IX.{0,0} @Option.isSome_some.{0} @Option.all_none.{0} @Option.all_some.{0} @Gv.{0} (Ag @dm.{0,0} @dS.{0,0} @dB.{0} @o9.{0} @List.set_cons_zero.{0} @List.set_cons_succ.{0} (aI @vX.{0} (aI @zy.{0} (A8 @List.all_cons.{0} @List.all_nil.{0} @List.replicate_succ.{0} @List.replicate_zero.{0} @mO.{0} @iY.{0} @gV.{0} @List.take_zero.{0} (A8 @aaw.{0} @lX.{0} @IV.{0} @List.drop_nil.{0} @List.take_nil.{0} @xM @qi @vV (A8 @nH @Bool.or_true @Bool.or_false @Bool.true_or @Bool.false_or @vW @xN @jb (A8 @lN @and_false @false_and @sG @uF @or_true @true_or @Gj.{0,0,0} (A8 @List.mapM_nil.{0,0,0} @Option.pure_def.{0} @Option.bind_eq_bind.{0} @List.elem_nil.{0} @List.elem_cons.{0} @List.contains_cons.{0} @List.contains_nil.{0} @oq (Ac @not_true_eq_false @not_false_eq_true (@Rj.{0,0}))))))))))
end Go.Pg
end
