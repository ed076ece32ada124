/-
  Merged texts.
-/
import Derived.Test.YtopbmdnbdpjheaaGreatWAG
import Derived.Test.YtopbmdnbdpjheaaGreatWAF
import Derived.Lib.SliceRun
import Derived.Test.YtopbmdnbdpjheaaGreatWAE
import Derived.Sort.Grow
import Derived.Sort.EncStr
import Derived.Lib.AppendZerosOnto
import Derived.Lib.Overlaps
import Derived.Laws.IdiomCopy
import Derived.Shelf.Spec.SlicesInsertGrow
import Derived.Sort.Walk0
import Derived.Lib.Strings
set_option linter.all false
set_option linter.unusedVariables false
set_option linter.unusedSimpArgs false
set_option linter.unusedSectionVars false
set_option linter.defProp false
set_option maxRecDepth 100000
set_option maxHeartbeats 8000000
namespace Go.Proofs.YtopbmdnbdpjheaaGreat
open Go Go.Pg
abbrev Bx:=BX
def iM(l:List (Int×V×Nat)):List Me:=l.map fun x=>(.int .i64 x.1,x.2.1,x.2.2)
def OY(k:Int):∀(l:List (Int×V×Nat)) (i:Nat),k∉l.map (·.1)->mIx (iM l) (.int .i64 k) i=some none
 |[],_,_=>rfl
 |x::r,i,h=>by simp only[dm,fG,not_or]at h;show mIx ((.int .i64 x.1,x.2.1,x.2.2)::iM r) _ i=_;unfold mIx;simp[qY,beq_eq_false_iff_ne.2 h.1];exact OY k r (i+1) h.2
def H5(k:Int)(v:V)(t:Nat):∀(l:List (Int×V×Nat)) (i j:Nat),(l.map (·.1)).Nodup->l[j]?=some (k,v,t)->mIx (iM l) (.int .i64 k) i=some (some (i+j,v))
 |x::r,i,j,a,h=>by
  simp only[dm,Gs]at a
  show mIx ((.int .i64 x.1,x.2.1,x.2.2)::iM r) _ i=_
  unfold mIx
  cases j with
  |zero =>grind[qY]
  |succ j =>
   have hm:k∈r.map (·.1):=dP.2 ⟨_,Gp h,rfl⟩;have b:¬k=x.1:=fun e=>a.1 (e▸hm)
   simp[qY,beq_eq_false_iff_ne.2 b];rw[H5 k v t r (i+1) j a.2 h];congr 3;omega
def JP(l:List (Int×V×Nat)):(iM l).length=l.length:=by simp[iM]
structure AN where
 a:Nat
 m:Nat
 q:List (Int × Nat × Nat)
 c:Nat
def AN.D(N:AN):List Nat:=N.a::N.m::N.q.map (·.2.1)
def qM(q:List (Int×Nat×Nat)):List (Int×V×Nat):=q.map fun x=>(x.1,.ref x.2.1 0,x.2.2)
def Yo(q:List (Int×Nat×Nat)):(qM q).length=q.length:=by simp[qM]
abbrev paC(p:Pa):List V:=[vi p.1,vi p.2.1,.sl .fz 1 (bv p.2.2)]
def Qb(q:List (Int×Nat×Nat)):(qM q).map (·.1)=q.map (·.1):=by simp[qM]
structure ArAt (bx:Bx) (n:Nat) (cap:Int) (pa:List Pa) (N:AN):Prop where
 ha:bx N.a=some (228,[vi cap,.mh false N.m])
 hm:bx N.m=some (226,mpC N.c (iM (qM N.q)))
 hp:∀x∈N.q,∃p∈pa,p.1=x.1/\bx x.2.1=some (224,paC p)
 hk:∀k,k∈N.q.map (·.1)↔k∈pa.map (·.1)
 hl:N.q.length=pa.length
 nd:(N.q.map (·.1)).Nodup
 nn:N.D.Nodup
 lt:∀k∈N.D,k<n
def ArAt.am{bx:Bx}{n:Nat}{cap:Int}{pa:List Pa}{N:AN}(H:ArAt bx n cap pa N):N.a<n/\N.m<n/\N.a≠N.m:=by have h:=H.nn;simp[AN.D]at h;exact⟨H.lt _ (by simp[AN.D]),H.lt _ (by simp[AN.D]),h.1.1⟩
def ArAt.page{bx:Bx}{n:Nat}{cap:Int}{pa:List Pa}{N:AN}(H:ArAt bx n cap pa N)(u:(pa.map (·.1)).Nodup)(k:Int)(i:Nat)(hi:i<pa.length)(hx:ixA k pa 0=i) :
  ∃j b t,mIx (iM (qM N.q)) (.int .i64 k) 0=some (some (j,.ref b 0))/\N.q[j]?=some (k,b,t)/\bx b=some (224,paC (pa.getD i (0,0,[])))/\b<n/\b≠N.a/\b≠N.m/\(pa.getD i (0,0,[])).1=k:=by
 have c:k∈pa.map (·.1):=by
  refine o8 fun h => ?_
  have:=(Aq k pa 0).2 h;omega
 obtain⟨z,A,_,C,v⟩:=CW k pa 0 c
 have:z=i:=Om
 subst this
 have m:=v (0,0,[])
 rw[Nat.sub_zero]at m
 obtain⟨x,a,g⟩:=dP.1 ((H.hk k).2 c)
 obtain⟨j,hj⟩:=Gn.1 a
 obtain⟨p,q,d,f⟩:=H.hp x a
 obtain⟨x1,b,t⟩:=x
 simp only at g d f
 subst g
 have r:p=pa.getD z (0,0,[]):=by
  rw[gW,dY hi,Gv]at m⊢;obtain⟨y,l⟩:=Gn.1 q;obtain⟨s,l⟩:=qK.1 l;have:y=z:=by refine(List.getElem_inj (h₀:=by simpa using s) (h₁:=by simpa using hi) u).1 ?_;simp only[List.getElem_map,l,d,m]
  subst this;exact l.symm
 have hd:=H.nn
 simp only[AN.D,Gs,fG,not_or,dP,not_exists,not_and]at hd
 refine⟨j,b,t,?_,hj,by rw[<-r];exact f,H.lt b (by simp only[AN.D,fG,dP];exact .inr (.inr ⟨_,a,rfl⟩)),fun e=>hd.1.2 _ a e,fun e=>hd.2.1 _ a e,m⟩
 have:=H5 x1 (.ref b 0) t (qM N.q) 0 j (by rw[Qb];exact H.nd) (by simp[qM,hj])
 rwa [nM]at this
def Az:ny Tryz.prog 226=some (3,229):=Za
def xm:kS Tryz.prog 3=some .i64:=Za
def FX:lV Tryz.prog 229=some (.pointer none):=Za
def aoH(e:Nat->V)(bx:Bx)(n:Nat)(h:Nat->V){cap:Int}{pa:List Pa}{N:AN}(H:ArAt bx n cap pa N):Gxz 202 [.ref N.a 0] ⟨e,bx,n,h⟩ ⟨e,bx,n,h⟩ (vi pa.length):=by have h1:=H.ha;have h2:=H.hm;have h3:=H.hl;refine gZ oW ?_;(repeat' first|refine wQ (A8 @aK @aH @aG @pgp @h1 @h2 @tH @Az (Ac @JP @Yo @h3)) ?_|refine tS ?_ ?_<;>intro a|fail);refine bC (aW _ _ _) ?_;rw[aP,aQ]
def Rz{n b o:Nat}(h:b<n):Fr n (.ref b o):=by grind[Fr,V.any]
def Rw{n b:Nat}{i:Bool}(h:b<n):Fr n (.mh i b):=by grind[Fr,V.any]
theorem Ry{n:Nat}:∀(ps:List Me),(∀p∈ps,Fr n p.2.1)->∀v∈mpF ps,Fr n v
 |(k,x,t)::r,hp,v,h=>by
  simp[mpF]at h;rcases h with rfl|rfl|rfl|h
  .rfl
  .simp_all
  .rfl
  .exact Ry r (fun p hm=>hp p (DZ _ hm)) v h
def Rx{n c:Nat}{ps:List Me}(hp:∀p∈ps,Fr n p.2.1):∀v∈mpC c ps,Fr n v:=by
 intro v h;simp[mpC]at h;rcases h with rfl|rfl|h
 .rfl
 .rfl
 .grind[Ry]
def only(D:List Nat)(bx:Bx):Bx:=fun k=>if k∈D then bx k else none
def iC{D:List Nat}{bx:Bx}{b:Nat}{x:TypeId×List V}(h:only D bx b=some x):b∈D/\bx b=some x:=by grind[only]
def yU{D:List Nat}{bx bx':Bx}(h:∀b x,only D bx b=some x->bx' b=some x){k:Nat}(hk:k∈D){x:TypeId×List V}(hx:bx k=some x):bx' k=some x:=by grind[only,hx]
def ArAt.fr{bx:Bx}{n:Nat}{cap:Int}{pa:List Pa}{N:AN}(H:ArAt bx n cap pa N):∀b x,only N.D bx b=some x->∀v∈x.2,Fr n v:=by
 intro b x h;obtain⟨h1,h2⟩:=iC h;simp only[AN.D,fG,dP]at h1;rcases h1 with rfl|rfl|⟨y,a,rfl⟩
 .rw[H.ha]at h2;cases h2
  intro v hv;simp at hv;rcases hv with rfl|rfl
  .rfl
  .exact Rw H.am.2.1
 .rw[H.hm]at h2;cases h2
  refine Rx fun p hp => ?_
  simp only[iM,qM,zA,dP]at hp;obtain⟨z,c,rfl⟩:=hp;exact Rz (H.lt _ (by simp only[AN.D,fG,dP];exact .inr (.inr ⟨z,c,rfl⟩)))
 .obtain⟨p,_,_,h3⟩:=H.hp y a;rw[h3]at h2;cases h2
  intro v hv;simp at hv;rcases hv with rfl|rfl|rfl<;>rfl
def ArAt.of{bx bx':Bx}{n n':Nat}{cap:Int}{pa:List Pa}{N:AN}(H:ArAt bx n cap pa N)(h:n<=n')(hb:∀k,k∈N.D->bx' k=bx k):ArAt bx' n' cap pa N where
 ha:=by rw[hb _ (by simp[AN.D])];exact H.ha
 hm:=by rw[hb _ (by simp[AN.D])];exact H.hm
 hp:=fun x hx=>by obtain⟨p,h1,h2,h3⟩:=H.hp x hx;grind[AN.D]
 hk:=H.hk
 hl:=H.hl
 nd:=H.nd
 nn:=H.nn
 lt:=fun k hk=>sF (H.lt k hk) h
theorem ArAt.some'{bx:Bx}{n:Nat}{cap:Int}{pa:List Pa}{N:AN}(H:ArAt bx n cap pa N):∀k∈N.D,∃x,bx k=some x:=by
 intro k hk;simp only[AN.D,fG,dP]at hk;rcases hk with rfl|rfl|⟨y,h,rfl⟩
 .exact⟨_,H.ha⟩
 .exact⟨_,H.hm⟩
 .obtain⟨p,_,_,h3⟩:=H.hp y h;exact⟨_,h3⟩
def ArAt.on{bx bx':Bx}{n:Nat}{cap:Int}{pa:List Pa}{N:AN}(H:ArAt bx n cap pa N)(h:∀b x,only N.D bx b=some x->bx' b=some x):ArAt bx' n cap pa N:=H.of (az _) fun k hk=>by obtain⟨x,hx⟩:=H.some' k hk;rw[hx];exact yU h hk hx
theorem aoF(e:Nat->V)(bx:Bx)(n:Nat)(h:Nat->V){cap:Int}{pa:List Pa}{N:AN}(H:ArAt bx n cap pa N)(hn:(pa.map (·.1)).Nodup)(k:Int)(i:Nat)(hi:i<pa.length)(hx:ixA k pa 0=i)(hs:(pa.getD i (0,0,[])).2.2.length<=1048576) :
  Gxz 131 [.ref N.a 0,vi k] ⟨e,bx,n,h⟩ ⟨e,bx,n,h⟩ (.tup [fzb (pa.getD i (0,0,[])).2.2,vi 0]):=by
 refine GoodZ.rd (r := .tup [.sl (AP (bv (pa.getD i (0,0,[])).2.2) (n+1) 5) 1 (bv (pa.getD i (0,0,[])).2.2),vi 0]) (only N.D bx) H.fr ?_ ?_ e bx h (fun b x hb=>(iC hb).2)
 .cases bv (pa.getD i (0,0,[])).2.2<;>simp [V.any,V.anyL,AP,Tag.lo]
 intro e bx' h hE hB hH hb
 have H':=H.on hb
 obtain⟨j,b,t,h1,_,h2,h3,_,_,_⟩:=H'.page hn k i hi hx
 have ha:=H'.ha
 have hm:=H'.hm
 generalize pa.getD i (0,0,[])=p at *
 obtain⟨p1,p2,d⟩:=p
 simp only at *
 have hF:Fits (bv d).length 1:=by rw[aA];exact⟨by simp only[maxLen];omega,by omega⟩
 refine⟨n+2,bx',fun _ _=>rfl, ?_⟩
 refine gZ oW ?_
 (repeat' first|refine wP (aI @aK (aI @aH (aI @aG (aI @pgp (aI @apa (aI @abq (aI @ha (aI @hm (aI @tH (aI @Az (aI @h1 (aI @h2 (aI @hF (aI @FX @xm)))))))))))))) ae ?_|refine tS ?_ ?_<;>intro hc|fail)
 exact ng (jW _ _ _ _) (aP _ _) (aQ _ _) rfl (by omega)
def AMod(N:AN)(n:Nat)(cap:Int)(pa:List Pa)(r:V)(bx':Bx)(n':Nat)(r':V):Prop:=r'=r/\n<=n'/\∃N',N'.a=N.a/\(∀k∈N'.D,k∈N.D\/n<=k)/\ArAt bx' n' cap pa N'
def AN.q_inj{N:AN}(hd:N.D.Nodup){x y:Int×Nat×Nat}(hx:x∈N.q)(c:y∈N.q)(h:x.2.1=y.2.1):x=y:=by simp only[AN.D,Gs]at hd;obtain⟨i,hi⟩:=Gn.1 hx;obtain⟨j,hj⟩:=Gn.1 c;obtain⟨a,hi⟩:=qK.1 hi;obtain⟨b,hj⟩:=qK.1 hj;have:i=j:=(List.getElem_inj (h₀:=by simpa using a) (h₁:=by simpa using b) hd.2.2).1 (by simp only[List.getElem_map,hi,hj,h]);subst this;rw[<-hi,hj]
def aoG(e:Nat->V)(bx:Bx)(n:Nat)(h:Nat->V){cap:Int}{pa:List Pa}{N:AN}(H:ArAt bx n cap pa N)(J:(pa.map (·.1)).Nodup)(k:Int)(i:Nat)(hi:i<pa.length)(hx:ixA k pa 0=i)(Q:0<=(pa.getD i (0,0,[])).2.1/\(pa.getD i (0,0,[])).2.1<=1000000000) :
  GoodE Tryz.prog 117 [.ref N.a 0,vi k] ⟨e,bx,n,h⟩ (Chg e bx n h N.D (AMod N n cap (nT i pa) (vi 0))):=by
 obtain⟨j,b,t,h1,f,h2,h3,h4,h5,g⟩:=H.page J k i hi hx
 have ha:=H.ha
 have hm:=H.hm
 have hA:ArAt (upd bx b (some (224,paC ((pa.getD i (0,0,[])).1,(pa.getD i (0,0,[])).2.1+1,(pa.getD i (0,0,[])).2.2)))) n cap (nT i pa) N:=by
  have L:=Gp f;have s:pa.getD i (0,0,[])=pa[i]:=by simp[List.getD,hi]
  refine⟨by rw[aV _ _ _ _ (jY h4)];exact ha,by rw[aV _ _ _ _ (jY h5)];exact hm,fun x hx => ?_,fun k=>by rw[Oz];exact H.hk k,by simpa[nT]using H.hl,H.nd,H.nn,H.lt⟩;by_cases hb:x.2.1=b
  .have:=AN.q_inj H.nn hx L hb;subst this;exact⟨((pa.getD i (0,0,[])).1,(pa.getD i (0,0,[])).2.1+1,(pa.getD i (0,0,[])).2.2),by unfold nT;exact List.mem_set hi _,g,by rw[bW]⟩
  .obtain⟨p,F,C,M⟩:=H.hp x hx;refine⟨p,?_,C,by rw[aV _ _ _ _ hb];exact M⟩;have r:p≠pa[i]:=by rintro rfl;rw[s]at g;have u:x.1=k:=C.symm.trans g;obtain⟨G,l⟩:=Gn.1 hx;obtain⟨m,E⟩:=qK.1 l;obtain⟨q,c⟩:=qK.1 f;have:G=j:=(List.getElem_inj (h₀:=by simpa using m) (h₁:=by simpa using q) H.nd).1 (by simp only[List.getElem_map,E,c,u]);subst this;rw[E]at c;rw[c]at hb;exact hb rfl
   obtain⟨y,a⟩:=Gn.1 F;obtain⟨A,a⟩:=qK.1 a;have v:i≠y:=by rintro rfl;exact r a.symm
   unfold nT;exact Gp (i:=y) (by rw[L6 v,dY A,a])
 have I:b∈N.D:=by simp only[AN.D,fG,dP];exact .inr (.inr ⟨_,Gp f,rfl⟩)
 generalize K:pa.getD i (0,0,[])=p at *
 obtain⟨F,C,d⟩:=p
 simp only at *
 refine lg (fJ [] mix) Tryz.func117 rfl Tryz.results117 rfl Za (fP Za) ?_
 (repeat' first|refine wU (A8 @pgE @aK @bu @bz @pgp @ha @hm @tH (Ae @Az @h1 @h2 @FX @xm)) ?_|refine tE ?_ ?_<;>intro P|fail)
 refine kz ?_ (ng (aW _ _ _) (aP _ _) (aQ _ _) rfl (az _))
 exact⟨_,_,rfl,fun k _ hk=>by rw[aV];rintro rfl;exact hk I,rfl,az _,N,rfl,fun k hk=>.inl hk,hA⟩
def ArAt.page'{bx:Bx}{n:Nat}{cap:Int}{pa:List Pa}{N:AN}(H:ArAt bx n cap pa N)(k:Int)(hx:0<=ixA k pa 0):∃j b,mIx (iM (qM N.q)) (.int .i64 k) 0=some (some (j,.ref b 0)):=by
 have h:k∈pa.map (·.1):=by grind[Aq]
 obtain⟨x,c,a⟩:=dP.1 ((H.hk k).2 h);obtain⟨j,hj⟩:=Gn.1 c;obtain⟨x1,b,t⟩:=x;subst a;exact⟨_,b,H5 x1 (.ref b 0) t (qM N.q) 0 j (by rw[Qb];exact H.nd) (by simp[qM,hj])⟩
theorem ArAt.none'{bx:Bx}{n:Nat}{cap:Int}{pa:List Pa}{N:AN}(H:ArAt bx n cap pa N)(k:Int)(hx:ixA k pa 0<0):mIx (iM (qM N.q)) (.int .i64 k) 0=some none:=by refine OY k _ 0 ?_;rw[Qb,H.hk];intro h;have:=(Aq k pa 0).1 h;omega
def WH{ps:List Me}{c:Nat}{k:Value}{x:V}(h:mIx ps k 0=some none):yN ps c k x=some (c+1,ps++[(k,x,c)]):=by grind[yN]
def UI{n id:Nat}{v:V}(h:Fr n v)(hi:n<=id):frz id v=v:=by
 have c:∀t:Tag,Tag.gf n t=false->(if t.is id then Tag.fz else t)=t:=by
  intro t a
  cases t with
  |own i e=>grind[Tag.gf,Tag.is]
  |_=>rfl
 have A:(∀v:V,v.any (Tag.gf n) (fun b=>decide (n<=b)) false=false->v.map (fun t=>if t.is id then .fz else t) _root_.id=v)/\(∀l,V.anyL (Tag.gf n) (fun b=>decide (n<=b)) false l=false->V.mapL (fun t=>if t.is id then .fz else t) _root_.id l=l):=by refine V.ind ?_ ?_ ?_ ?_ ?_ ?_ ?_ ?_ ?_ ?_ ?_ ?_ ?_;all_goals(simp_all only[V.any,V.anyL,V.map,V.mapL,qh,id_eq,implies_true])
 exact A.1 v h
theorem kT{n id:Nat}{e:Nat->V}(h:FrE n e)(hi:n<=id):bD (frz id) e=e:=alQ fun t=>UI (h t) hi
def uZ{n id:Nat}{b:Bx}(h:FrB n b)(hi:n<=id):df (frz id) b=b:=WJ fun k x hx v hv=>UI (h k x hx v hv) hi
def jl{n:Nat}{e h:Nat->V}(he:FrE n e)(a:FrE n h):FrE n (bM e h):=fun t=>by
 unfold bM;split
 .exact he _
 .exact a _
def AMod.st{N:AN}{n:Nat}{cap:Int}{pa:List Pa}{r:V}:∀b a m r',(∀k,(k∈N.D\/n<=k)->b k=a k)->AMod N n cap pa r b m r'->AMod N n cap pa r a m r':=by rintro b a m r' hb ⟨h1,h2,N',h3,h4,h5⟩;exact⟨h1,h2,N',h3,h4,h5.of (az _) fun k hk=>(hb k (h4 k hk)).symm⟩
def fV(ψ:V->V)(b:Bx)(k:Nat)(x:TypeId×List V):df ψ (upd b k (some x))=upd (df ψ b) k (some (x.1,x.2.map ψ)):=by grind[only,df,upd]
def apG(q:List (Int×Nat×Nat))(k:Int)(b c:Nat):iM (qM q)++[(.int .i64 k,.ref b 0,c)]=iM (qM (q++[(k,b,c)])):=by simp[iM,qM]
def UJ{id:Nat}:∀ps:List Me,(∀p∈ps,frz id p.2.1=p.2.1)->(mpF ps).map (frz id)=mpF ps
 |[],_=>rfl
 |(k,x,t)::r,h=>by show frz id (.c k)::frz id x::frz id (.c _)::(mpF r).map (frz id)=_;rw[UJ r fun p hp=>h p (DZ _ hp),h (k,x,t) (List.mem_cons_self ..)];rfl
theorem agJ{id c:Nat}(q:List (Int×Nat×Nat)):(mpC c (iM (qM q))).map (frz id)=mpC c (iM (qM q)):=by show frz id _::frz id _::(mpF _).map _=_;rw[UJ _ fun p hp=>by simp only[iM,qM,zA,dP]at hp;obtain⟨x,_,rfl⟩:=hp;rfl];rfl
theorem ArAt.add{bx:Bx}{n n' b:Nat}{cap:Int}{pa:List Pa}{N:AN}(H:ArAt bx n cap pa N)(p:Pa)(hp:p.1∉pa.map (·.1))(hb:n<=b)(f:b<n')(bx':Bx)(h1:bx' b=some (224,paC p))(h2:bx' N.m=some (226,mpC (N.c+1) (iM (qM (N.q++[(p.1,b,N.c)])))))(h3:∀k,k<n->k≠N.m->bx' k=bx k) :
  ArAt bx' n' cap (jH p pa) ⟨N.a,N.m,N.q++[(p.1,b,N.c)],N.c+1⟩:=by
 obtain⟨g,r,m⟩:=H.am
 have c:∀x∈N.q,x.2.1<n:=fun x hx=>H.lt _ (by simp only[AN.D,fG,dP];exact .inr (.inr ⟨x,hx,rfl⟩))
 have h:=H.nn
 simp only[AN.D,Gs,fG,not_or,dP,not_exists,not_and]at h
 refine⟨by rw[h3 _ g m];exact H.ha,h2,fun x hx => ?_,fun k => ?_,by simp[OE,H.hl],?_,?_,fun k hk => ?_⟩
 .rcases iG.1 hx with hx|hx
  .obtain⟨q,i,j,l⟩:=H.hp x hx;exact⟨q,by simp[jH,xW,i],j,by rw[h3 _ (c x hx) (fun e=>h.2.1 x hx e)];exact l⟩
  .obtain rfl:=jX.1 hx;exact⟨p,by simp[jH,xW],rfl,h1⟩
 .have:=H.hk k;simp only[nJ,dm,dS,iG,jX,this,jH,dP,aav,xW];constructor
  .rintro(⟨y,a,rfl⟩|rfl)
   .exact⟨y,.inr a,rfl⟩
   .exact⟨p,.inl rfl,rfl⟩
  .rintro⟨y,rfl|a,rfl⟩
   .exact .inr rfl
   .exact .inl ⟨y,a,rfl⟩
 .rw[nJ,List.nodup_append];refine⟨H.nd,by simp,fun x hx y a => ?_⟩;have a:y=p.1:=by simpa using a
  subst a;rintro rfl;exact hp ((H.hk _).1 hx)
 .simp only[AN.D,Gs,fG,not_or,dP,iG,BH,sG,not_exists,not_and];refine⟨⟨m,fun x hx => ?_⟩,fun x hx => ?_,?_⟩
  .rcases hx with hx|rfl
   .exact h.1.2 x hx
   .show ¬b=N.a;omega
  .rcases hx with hx|rfl
   .exact h.2.1 x hx
   .show ¬b=N.m;omega
  .rw[nJ,List.nodup_append];refine⟨h.2.2,by simp,fun x hx y a => ?_⟩;have a:y=b:=by simpa using a
   subst a;obtain⟨z,d,rfl⟩:=dP.1 hx;have:=c z d;omega
 .simp only[AN.D,fG,nJ,iG,dm,dS,BH,sG]at hk;rcases hk with rfl|rfl|hk|rfl
  .omega
  .omega
  .obtain⟨z,d,rfl⟩:=dP.1 hk;have:=c z d;omega
  .exact f
def XN(e:Nat->V)(bx:Bx)(n:Nat)(h:Nat->V){cap:Int}{pa:List Pa}{N:AN}(H:ArAt bx n cap pa N)(d:List Nat)(u:0<d.length)(hd:d.length<=1024)(l:(pa.length:Int)<cap)(hl:pa.length<=100000) :
  GoodE Tryz.prog 107 [.ref N.a 0,.sl .fz 1 (bv d)] ⟨e,bx,n,h⟩ (Chg e bx n h N.D (AMod N n cap (jH ((alN pa:Nat),1,d) pa) (.tup [vi (alN pa:Nat),vi 0]))):=by
 refine GoodE.fr (only N.D bx) H.fr N.D _ AMod.st ?_ e bx h (fun b x hb=>(iC hb).2)
 intro e bx' h P hB R hb
 have f:=H.on hb
 clear hb H
 rename_i bx0
 clear bx0
 have ha:=f.ha
 have hm:=f.hm
 have p:=f.hl
 have Q:Fits (bv d).length 1:=by rw[aA];exact⟨by simp only[maxLen];omega,by omega⟩
 obtain⟨F,G,I,W⟩:=I9 pa
 refine lg (fJ [] mix) Tryz.func107 rfl Tryz.results107 rfl Za (fP Za) ?_
 (repeat' first|refine wU (A8 @pgE @aK @bu @bz @pgp @aA @ha @hm (Ag @tH @Az @JP @Yo p @FX @xm)) ?_|refine tE ?_ ?_<;>intro l|fail)
 refine CX (ι:=Nat) (fun m=>⟨ja [(0,.ref N.a 0),(1,.sl .fz 1 (bv d)),(6,vi m)],bx',n,bM e h⟩) (fun m=>1<=m/\m<=alN pa) (fun m=>alN pa-m) 1 ?_ ⟨az _,F⟩ ?_
 .refine mJ (lI ?_) (fun c=>.inl rfl) (az _);((try simp only[lu,lw,jQ,kW,pgo,simprocAttr,jb,lN]);try(repeat'(first|exact ae|rfl|apply aI)))
 rintro m ⟨A,T⟩
 rcases au m (alN pa)with q|S
 .obtain⟨j,b,h1⟩:=f.page' m (G m A q);(repeat' first|refine wU (A8 @pgE @bu @bz @pgp @ha @hm @tH @Az (Ac @h1 @FX @xm)) ?_|refine tE ?_ ?_<;>intro l|fail);refine wz (m+1) ⟨by omega,q⟩ (by show alN pa-(m+1)<alN pa-m;omega) (mJ (lI ?_) (fun c=>.inl rfl) (az _));((try simp only[lu,lw,jQ,kW,pgo,simprocAttr,jb,lN]);try(repeat'(first|exact ae|rfl|apply aI)))
 .have:m=alN pa:=Om;subst this;have h1:=f.none' _ I;have h2:=WH (c:=N.c) (x:=.ref (n+10) 0) h1;(repeat' first|refine wV (A8 @pgE @bu @bz @pgp @ha @hm @tH @Az (Ac @h1 @FX @xm)) ?_|refine tE ?_ ?_<;>intro l|fail);refine oh mix ?_
  have C:∀i e,AP (bv d) i e = .own i e:=fun i e=>by
   cases d with
   |nil=>simp at u
   |cons x r=>rfl
  obtain⟨J,L,M⟩:=f.am;have E:(N.m=n+10)=False:=eq_false Om;(repeat'(first|(simp(disch:=first|exact dqz|fail) only[pgz,simprocAttr,pgE,alF,xB,bu,bz,pgp,ha,hm,tH,Az,h1,h2,Q,FX,xm,E,C])|(refine tE ?_ ?_<;>intro l)|refine xK ?_|fail));refine Jh [N.a,n+10,N.m] [.q,.q,.q,.rb 0,.q,.q,.q,.q,.q,.q,.xb 1,.xb 2] (by simp;omega) ?_ rfl Za;(repeat' first|refine wV (Ac @pgE @bu @bz) ?_|refine tE ?_ ?_<;>intro l|fail);have U:=apG N.q (alN pa:Nat) (n+10) N.c;rw[U];generalize hK:((alN pa:Nat):Int)=K at *;have g:=kT (jl P R) (show n<=n+8 by omega)
  have t:df (frz (n+8)) (upd (upd bx' (n+10) (some (224,[vi K,vi 1,.sl (.own (n+8) 5) 1 (bv d)]))) N.m (some (226,mpC (N.c+1) (iM (qM (N.q++[(K,n+10,N.c)]))))))=upd (upd bx' (n+10) (some (224,paC (K,1,d)))) N.m (some (226,mpC (N.c+1) (iM (qM (N.q++[(K,n+10,N.c)]))))):=by
   rw[fV,fV,uZ hB Om,agJ];have:frz (n+8) (.sl (.own (n+8) 5) 1 (bv d)) = .sl .fz 1 (bv d):=by simp[frz,V.map,Tag.is]
   simp only[dm,dS,this];rfl
  have a:K∉pa.map (·.1):=fun s=>by have:=(Aq K pa 0).1 s;omega
  refine Aj (DV _ [n+8]) (kz (s':=⟨e,upd (upd bx' (n+10) (some (224,paC (K,1,d)))) N.m (some (226,mpC (N.c+1) (iM (qM (N.q++[(K,n+10,N.c)]))))),n+12,h⟩) (r:=.tup [vi K,vi 0]) ?_ ⟨jW _ _ _ _,?_,?_,t,az _⟩)
  .refine⟨_,_,rfl,fun k hk v => ?_,rfl,by omega,⟨N.a,N.m,N.q++[(K,n+10,N.c)],N.c+1⟩,rfl,fun k hk => ?_,f.add (K,1,d) a (b:=n+10) Om Om _ ?_ (bW _ _ _) fun k hk y => ?_⟩
   .rw[aV _ _ _ _ (fun e=>v (by simp[AN.D,e])),aV _ _ _ _ Om]
   .simp only[AN.D,fG,nJ,iG,dm,dS,BH,sG]at hk⊢;rcases hk with hk|hk|hk|hk
    .exact .inl (.inl hk)
    .exact .inl (.inr (.inl hk))
    .exact .inl (.inr (.inr hk))
    .exact .inr Om
   .rw[aV _ _ _ _ Om,bW]
   .rw[aV _ _ _ _ y,aV _ _ _ _ Om]
  .show unE (bD (frz (n+8)) (bM e h))=e;rw[g,aP]
  .show unH (bD (frz (n+8)) (bM e h))=h;rw[g,aQ]
def XU(b:Bd)(c:Int):Gxx 199 [.agg (bdF b),vi c] (vb (gQ b.f b.t c)):=by
 obtain⟨n,o,f,t⟩:=b;unfold gQ;by_cases h1:f<=c
 .by_cases h2:c<t
  .simp only[h1,h2,decide_true,Bool.true_or,xJ];refine gI oW ?_;(repeat' first|refine wO ?_|refine tS ?_ ?_<;>intro h|fail);exact rE []
  .simp only[h1,h2,decide_true,decide_false,Bool.false_or,qi];refine gI oW ?_;(repeat' first|refine wO ?_|refine tS ?_ ?_<;>intro h|fail);exact rE []
 .simp only[h1,decide_false,nH];refine gI oW ?_;(repeat' first|refine wO ?_|refine tS ?_ ?_<;>intro h|fail);exact rE []
def Fp(l:List Bd)(k:List Nat)(c:Int)(hl:l.length<=1000000):Gxx 122 [.sl .fz 4 (aS l),vs k,vi c] (.tup [vi (lkA k c l).1,vb (lkA k c l).2]):=by
 generalize j:lkA k c l=E;refine gI oW ?_;(repeat' first|refine wQ @aj.{0,0} ?_|refine tS ?_ ?_<;>intro d|fail);refine aJ (fun i:Nat=>mkA [(1,vs k),(2,vi c),(10,.sl .fz 4 (aS l)),(11,vi l.length),(12,vi i)] [] 0 (fun _=>.top)) (fun i=>i<=l.length/\lkA k c (l.drop i)=E) (fun i=>l.length-i) 0 [] [] ?_ ⟨ax _,j⟩ ?_
 .exact kX
 .rintro i ⟨hi,he⟩;rcases au i l.length with a|m
  .have hg:=jZ l i a;rw[Wn k c l i a]at he;have f:=XU (l.getD i bd0) c;by_cases b:sB (l.getD i bd0).n=sB k
   .cases g:gQ (l.getD i bd0).f (l.getD i bd0).t c
    .rw[g]at he f;rw[ag (fun h=>by cases h.2)]at he;(repeat' first|refine wP (Ac @aj.{0,0} @hg b) f ?_|refine tS ?_ ?_<;>intro d|fail);exact bX (i+1) [] [] ⟨a,he⟩
    .rw[g]at he f;rw[ah ⟨b,rfl⟩]at he;subst he;(repeat' first|refine wP (Ac @aj.{0,0} @hg b) f ?_|refine tS ?_ ?_<;>intro d|fail);exact rE []
   .rw[ag (fun h=>b h.1)]at he;(repeat' first|refine wQ (Ac @aj.{0,0} @hg b) ?_|refine tS ?_ ?_<;>intro d|fail);exact bX (i+1) [] [] ⟨a,he⟩
  .have:i=l.length:=Om;subst this;rw[jM]at he;have he:(0,false)=E:=he;subst he;(repeat' first|refine wQ @aj.{0,0} ?_|refine tS ?_ ?_<;>intro d|fail);exact rE []
structure SN where
 o:Nat
 bo:List Nat
 co:Nat
 A:AN
def SN.D(N:SN)(b:Nat):List Nat:=b::N.o::N.A.D
def oM(ob:List (Int×List Vr))(bo:List Nat):List (Int×V×Nat):=(ob.zip bo).map fun x=>(x.1.1,.sl .fz 4 (vrV x.1.2),x.2)
abbrev stC(s:Sto)(N:SN):List V:=[vi s.c.se,vi s.c.na,vi s.c.pg,vi s.c.z,vi s.c.pn,vi s.c.cm,vi s.c.ch,vi s.m,.mh false N.o,vi s.la,.sl .fz 4 (aS s.bi),.sl .fz 2 (pnV s.pi),.ref N.A.a 0]
structure StAt (bx:Bx) (n b:Nat) (s:Sto) (N:SN):Prop where
 hb:bx b=some (139,stC s N)
 ho:bx N.o=some (136,mpC N.co (iM (oM s.ob N.bo)))
 hbo:N.bo.length=s.ob.length
 hA:ArAt bx n s.c.pg s.pa N.A
 nn:(N.D b).Nodup
 lt:b<n/\N.o<n
theorem StAt.ne{bx:Bx}{n b:Nat}{s:Sto}{N:SN}(H:StAt bx n b s N):b≠N.o/\b∉N.A.D/\N.o∉N.A.D:=by have h:=H.nn;grind[SN.D]
def StAt.fr{bx:Bx}{n b:Nat}{s:Sto}{N:SN}(H:StAt bx n b s N):∀k x,only (N.D b) bx k=some x->∀v∈x.2,Fr n v:=by
 intro k x h;obtain⟨h1,h2⟩:=iC h;simp[SN.D,fG]at h1;rcases h1 with rfl|rfl|h1
 .rw[H.hb]at h2;cases h2
  intro v hv;simp at hv;rcases hv with rfl|rfl|rfl|rfl|rfl|rfl|rfl|rfl|rfl|rfl|rfl|rfl|rfl<;>first|rfl|exact Rw H.lt.2|exact Rz H.hA.am.1
 .rw[H.ho]at h2;cases h2
  refine Rx fun p hp => ?_
  simp only[iM,oM,zA,dP]at hp;obtain⟨z,_,rfl⟩:=hp;rfl
 .exact H.hA.fr k x (by simp[only,h1,h2])
def StAt.of{bx bx':Bx}{n n' b:Nat}{s:Sto}{N:SN}(H:StAt bx n b s N)(h:n<=n')(hb:∀k,k∈N.D b->bx' k=bx k):StAt bx' n' b s N where
 hb:=by rw[hb _ (by simp[SN.D])];exact H.hb
 ho:=by rw[hb _ (by simp[SN.D])];exact H.ho
 hbo:=H.hbo
 hA:=H.hA.of h fun k hk=>hb k (by simp[SN.D,hk])
 nn:=H.nn
 lt:=⟨sF H.lt.1 h,sF H.lt.2 h⟩
theorem StAt.on{bx bx':Bx}{n b:Nat}{s:Sto}{N:SN}(H:StAt bx n b s N)(h:∀k x,only (N.D b) bx k=some x->bx' k=some x):StAt bx' n b s N:=H.of (az _) fun k hk=>by
 have:∃x,bx k=some x:=by
  simp[SN.D]at hk;rcases hk with rfl|rfl|hk
  .exact⟨_,H.hb⟩
  .exact⟨_,H.ho⟩
  .exact H.hA.some' k hk
 obtain⟨x,hx⟩:=this;rw[hx];exact yU h hk hx
def KD(e:Nat->V)(bx:Bx)(n:Nat)(h:Nat->V){b:Nat}{s:Sto}{N:SN}(H:StAt bx n b s N):Gxz 106 [.ref b 0] ⟨e,bx,n,h⟩ ⟨e,bx,n,h⟩ (vi s.pa.length):=by
 have h1:=H.hb;have k:=fun e h=>aoH e bx n h H.hA
 refine gZ oW ?_;(repeat' first|refine wQ (Ad @aK @aH @aG @h1) ?_|refine aU _ (k _ _) rfl ?_|refine tS ?_ ?_<;>intro a|fail);refine bC (aW _ _ _) ?_;rw[aP,aQ]
def PE(e:Nat->V)(bx:Bx)(n:Nat)(h:Nat->V){b:Nat}{s:Sto}{N:SN}(H:StAt bx n b s N)(hl:s.pi.length<=100000)(hv:vPn s.pi):Gxz 44 [.ref b 0] ⟨e,bx,n,h⟩ ⟨e,bx,n,h⟩ (vi (sumP s.pi s.pi.length)):=by have h1:=H.hb;have k:=aoy s.pi Om hv;refine gZ oW ?_;(repeat' first|refine wP (Ad @aK @aH @aG @h1) k ?_|refine tS ?_ ?_<;>intro a|fail);refine bC (aW _ _ _) ?_;rw[aP,aQ]
def AV(e:Nat->V)(bx:Bx)(n:Nat)(h:Nat->V){b:Nat}{s:Sto}{N:SN}(H:StAt bx n b s N):Gxz 105 [.ref b 0] ⟨e,bx,n,h⟩ ⟨e,bx,n,h⟩ (vb (decide (s.c.cm<=s.m))):=by have h1:=H.hb;refine gZ oW ?_;(repeat' first|refine wQ (Ad @aK @aH @aG @h1) ?_|refine tS ?_ ?_<;>intro a|fail);refine bC (aW _ _ _) ?_;rw[aP,aQ]
def Fv(e:Nat->V)(bx:Bx)(n:Nat)(h:Nat->V){b:Nat}{s:Sto}{N:SN}(H:StAt bx n b s N)(hl:s.bi.length<=100000)(k:List Nat):Gxz 103 [.ref b 0,vs k] ⟨e,bx,n,h⟩ ⟨e,bx,n,h⟩ (vb (lkA k s.m s.bi).2):=by have h1:=H.hb;have a:=Fp s.bi k s.m Om;refine gZ oW ?_;(repeat' first|refine wP (Ad @aK @aH @aG @h1) a ?_|refine tS ?_ ?_<;>intro c|fail);refine bC (aW _ _ _) ?_;rw[aP,aQ]
def KC(e:Nat->V)(bx:Bx)(n:Nat)(h:Nat->V){b:Nat}{s:Sto}{N:SN}(H:StAt bx n b s N):Gxz 26 [.ref b 0] ⟨e,bx,n,h⟩ ⟨e,bx,n,h⟩ (vi s.m):=by have h1:=H.hb;refine gZ oW ?_;(repeat' first|refine wQ (Ad @aK @aH @aG @h1) ?_|refine tS ?_ ?_<;>intro a|fail);refine bC (aW _ _ _) ?_;rw[aP,aQ]
def ixP{α:Type}(p:α->Bool):List α->Nat->Int
 |[],_ => -1
 |x::r,i=>if p x=true then i else ixP p r (i+1)
def V3{α:Type}(p:α->Bool)(d:α)(l:List α)(i:Nat)(h:i<l.length):ixP p (l.drop i) i=if p (l.getD i d)=true then(i:Int)else ixP p (l.drop (i+1)) (i+1):=by rw[zx h,gW,dY h];rfl
def aw3(e:Nat->V)(bx:Bx)(n:Nat)(h:Nat->V)(g:FuncId)(cs:List V)(p:Int×Int->Bool)(l:List (Int×Int))(hl:l.length<=1000000)
  (b:∀i,i<l.length->∀e h,Gxz g (.agg [vi (l.getD i (0,0)).1,vi (l.getD i (0,0)).2]::cs) ⟨e,bx,n,h⟩ ⟨e,bx,n,h⟩ (vb (p (l.getD i (0,0))))) :
  Gxz 300 [.sl .fz 2 (pnV l),.fn g [] cs] ⟨e,bx,n,h⟩ ⟨e,bx,n,h⟩ (vi (ixP p l 0)):=by
 generalize f:ixP p l 0=E
 refine gZ oW ?_
 (repeat' first|refine wQ (Ad @aK @aH @aG @aj.{0,0}) ?_|refine tS ?_ ?_<;>intro c|fail)
 refine rF (fun i:Nat=>[(0,.sl .fz 2 (pnV l)),(1,.fn g [] cs),(7,vi l.length),(8,vi i)]) (fun _=>bx) (fun _=>n) (fun _=>bM e h) (fun i=>i<=l.length/\ixP p (l.drop i) i=E) (fun i=>l.length-i) 0 ?_ (fun _=>.inl rfl) (az _) rfl ⟨ax _,f⟩ ?_
 .exact eE
 .rintro i ⟨hi,he⟩;rcases au i l.length with a|j
  .have hg:=qE l i a;have b:=b i a;rw[V3 p (0,0) l i a]at he;cases d:p (l.getD i (0,0))
   .rw[d]at b he;rw[ag Aa]at he;(repeat' first|refine wQ (Ad @aj.{0,0} @hg @aH @aG) ?_|refine cY (b _ _) ?_|refine tS ?_ ?_<;>intro c|fail);refine qo (i+1) ⟨a,he⟩ Om ?_ (fun _=>.inl rfl) (az _) rfl;((try simp only[lu,lw,jQ,kW,pgo,simprocAttr,jb,lN]);try(repeat'(first|exact ae|rfl|apply aI)))
   .rw[d]at b he;rw[ah rfl]at he;subst he;(repeat' first|refine wQ (Ad @aj.{0,0} @hg @aH @aG) ?_|refine cY (b _ _) ?_|refine tS ?_ ?_<;>intro c|fail);(refine iL (by first|rfl|skip) (by first|omega|skip))
  .have:i=l.length:=Om;subst this;rw[jM]at he;have he : -1=E:=he;subst he;(repeat' first|refine wQ (Ac @aj.{0,0} @aH @aG) ?_|refine tS ?_ ?_<;>intro c|fail);(refine iL (by first|rfl|skip) (by first|omega|skip))
def V5(c:Int):∀(l:List (Int×Int)) (i:Nat),decide (0<=ixP (fun p=>decide (p.1=c)) l i)=pnB c l
 |[],_=>rfl
 |x::r,i=>by
  unfold ixP pnB;by_cases h:x.1=c
  .grind
  .rw[ag (by simp[h]),ag h];exact V5 c r (i+1)
def awX(e:Nat->V)(bx:Bx)(n:Nat)(h:Nat->V)(g:FuncId)(cs:List V)(p:Int×Int->Bool)(l:List (Int×Int))(hl:l.length<=1000000)
  (a:∀i,i<l.length->∀e h,Gxz g (.agg [vi (l.getD i (0,0)).1,vi (l.getD i (0,0)).2]::cs) ⟨e,bx,n,h⟩ ⟨e,bx,n,h⟩ (vb (p (l.getD i (0,0))))) :
  Gxz 257 [.sl .fz 2 (pnV l),.fn g [] cs] ⟨e,bx,n,h⟩ ⟨e,bx,n,h⟩ (vb (decide (0<=ixP p l 0))):=by
 have k:=fun e h=>aw3 e bx n h g cs p l hl a
 refine gZ oW ?_
 (repeat' first|refine wQ (Ac @aK @aH @aG) ?_|refine aU _ (k _ _) rfl ?_|refine tS ?_ ?_<;>intro b|fail)
 refine bC (aW _ _ _) ?_
 rw[aP,aQ]
def axa(c:Nat)(k a b:Int)(e:Nat->V)(bx:Bx)(n:Nat)(h:Nat->V)(hb:bx c=some (3,[vi k]))(g:c<n):Gxz 258 [.agg [vi a,vi b],.ref c 0] ⟨e,bx,n,h⟩ ⟨e,bx,n,h⟩ (vb (decide (a=k))):=by
 refine GoodZ.rdc (only ([c]) bx) (fun i x hx => ?_) ?_ e bx h (fun b x hb=>(iC hb).2)
 .obtain⟨h1,h2⟩:=iC hx;rw[jX.1 h1,hb]at h2;cases h2
  intro v hv;rw[jX.1 hv];rfl
 intro e bx' h j hB l hx;have d:=yU hx (jX.2 rfl) hb;have f:(c=n)=False:=eq_false Om;refine⟨n+1,upd bx' n (some (145,[vi a,vi b])),fun k hk=>aV _ _ _ _ Om,?_⟩;refine gZ oW ?_;(repeat' first|refine wQ (Ae @aK @aH @aG d f) ?_|refine tS ?_ ?_<;>intro g|fail);refine bC (aW _ _ _) ?_;rw[aP,aQ]
def ao3(e:Nat->V)(bx:Bx)(n:Nat)(h:Nat->V){b:Nat}{s:Sto}{N:SN}(H:StAt bx n b s N)(hl:s.pi.length<=100000)(c:Int):Gxz 177 [.ref b 0,vi c] ⟨e,bx,n,h⟩ ⟨e,bx,n,h⟩ (vb (pnB c s.pi)):=by
 refine GoodZ.rdc (only (N.D b) bx) H.fr ?_ e bx h (fun b x hb=>(iC hb).2);intro e bx' h j hB l hx;have d:=H.on hx;have h1:=d.hb;have g:=d.lt.1;have a:(b=n)=False:=eq_false Om;have f:=fun e h=>awX e (upd bx' n (some (3,[vi c]))) (n+1) h 258 [.ref n 0] (fun p=>decide (p.1=c)) s.pi Om (fun i hi e h=>axa n c _ _ e _ (n+1) h (bW _ _ _) Om)
 rw[V5]at f;refine⟨n+1,upd bx' n (some (3,[vi c])),fun k hk=>aV _ _ _ _ Om,?_⟩;refine gZ oW ?_;(repeat' first|refine wQ (Ae @aK @aH @aG @h1 a) ?_|refine aU _ (f _ _) rfl ?_|refine tS ?_ ?_<;>intro m|fail);refine bC (aW _ _ _) ?_;rw[aP,aQ]
def KH(e:Nat->V)(bx:Bx)(n:Nat)(h:Nat->V){b:Nat}{s:Sto}{N:SN}(H:StAt bx n b s N)(hl:s.pi.length<=100000)(c:Int):Gxz 81 [.ref b 0,vi c] ⟨e,bx,n,h⟩ ⟨e,bx,n,h⟩ (vi (nG s c)):=by
 have h1:=H.hb;have k:=fun e h=>ao3 e bx n h H hl c
 unfold nG;by_cases d:0<=c
 .by_cases f:c<=s.m
  .rw[ah ⟨d,f⟩];by_cases q:c=s.m
   .rw[ah (.inl q)];refine gZ oW ?_;(repeat' first|refine wQ (Ae @aK @aH @aG @h1 q) ?_|refine tS ?_ ?_<;>intro a|fail);refine bC (aW _ _ _) ?_;rw[aP,aQ]
   .cases g:pnB c s.pi
    .rw[ag (by simp[q])];rw[g]at k;refine gZ oW ?_;(repeat' first|refine wQ (Ad @aK @aH @aG @h1) ?_|refine aU _ (k _ _) rfl ?_|refine tS ?_ ?_<;>intro a|fail);refine bC (aW _ _ _) ?_;rw[aP,aQ]
    .rw[ah (.inr rfl)];rw[g]at k;refine gZ oW ?_;(repeat' first|refine wQ (Ad @aK @aH @aG @h1) ?_|refine aU _ (k _ _) rfl ?_|refine tS ?_ ?_<;>intro a|fail);refine bC (aW _ _ _) ?_;rw[aP,aQ]
  .rw[ag (fun h=>f h.2)];refine gZ oW ?_;(repeat' first|refine wQ (Ad @aK @aH @aG @h1) ?_|refine tS ?_ ?_<;>intro a|fail);refine bC (aW _ _ _) ?_;rw[aP,aQ]
 .rw[ag (fun h=>d h.1)];refine gZ oW ?_;(repeat' first|refine wQ (Ad @aK @aH @aG @h1) ?_|refine tS ?_ ?_<;>intro a|fail);refine bC (aW _ _ _) ?_;rw[aP,aQ]
def ajY:iU Tryz.prog 9=true:=Za
def alj(n:Nat)(h:n<256):∃m:Nat,m<=255/\ixV Tryz.prog 9 (.c (.string {data:=((([0,1,2,2,3,3,3,3,4,4,4,4,4,4,4,4,5,5,5,5,5,5,5,5,5,5,5,5,5,5,5,5,6,6,6,6,6,6,6,6,6,6,6,6,6,6,6,6,6,6,6,6,6,6,6,6,6,6,6,6,6,6,6,6].append [7,7,7,7,7,7,7,7,7,7,7,7,7,7,7,7,7,7,7,7,7,7,7,7,7,7,7,7,7,7,7,7,7,7,7,7,7,7,7,7,7,7,7,7,7,7,7,7,7,7,7,7,7,7,7,7,7,7,7,7,7,7,7,7]).append ([8,8,8,8,8,8,8,8,8,8,8,8,8,8,8,8,8,8,8,8,8,8,8,8,8,8,8,8,8,8,8,8,8,8,8,8,8,8,8,8,8,8,8,8,8,8,8,8,8,8,8,8,8,8,8,8,8,8,8,8,8,8,8,8].append [8,8,8,8,8,8,8,8,8,8,8,8,8,8,8,8,8,8,8,8,8,8,8,8,8,8,8,8,8,8,8,8,8,8,8,8,8,8,8,8,8,8,8,8,8,8,8,8,8,8,8,8,8,8,8,8,8,8,8,8,8,8,8,8]))).toArray})) (.c (.int .u8 (n:Int)))=some (.c (.int .u8 (m:Nat))):=by rw[V6 _ _ _ _ _ Om (by show(n:Int)<256;omega),ajY,ah rfl];exact⟨_,Nat.le_of_lt_succ (UInt8.toNat_lt _),rfl⟩
def aoi(x:Nat)(hx:x<256):∃m:Nat,m<=255/\Gxx 151 [vu x] (vi m):=by
 obtain⟨m,hm,a⟩:=alj x hx;have k:Gxx 238 [vu x] (vi m):=by refine gI oW ?_;(repeat' first|refine wQ a ?_|refine tS ?_ ?_<;>intro h|fail);(refine rT [] ?_;first|rfl|simp only[pgo,simprocAttr]|skip);all_goals first|(congr 2;omega)|skip
 refine⟨m,hm,?_⟩;refine gI oW ?_;(repeat' first|refine wP ae k ?_|refine tS ?_ ?_<;>intro h|fail);(refine rT [] ?_;first|rfl|simp only[pgo,simprocAttr]|skip)
def XV(x:List Nat):Gxx 337 [vs x] (vb false):=by refine gI oW ?_;(repeat' first|refine wO ?_|refine tS ?_ ?_<;>intro h|fail);exact rE []
def aoj(x y:List Nat):Gxx 319 [vs x,vs y] (vb (kl x y)):=by
 have k:=XV x;have k2:=XV y;cases q:kl x y
 .refine gI oW ?_;(repeat' first|refine wP (aI @iO q) (aI k k2) ?_|refine tS ?_ ?_<;>intro h|fail);exact rE []
 .refine gI oW ?_;(repeat' first|refine wP (aI @iO q) (aI k k2) ?_|refine tS ?_ ?_<;>intro h|fail);exact rE []
def GG(l:List (List Nat)):Prop:=∀i,i+1<l.length->kl (l.getD (i+1) []) (l.getD i [])=false/\sB (l.getD (i+1) [])≠sB (l.getD i [])
def axb(e:Nat->V)(bx:BX)(n:Nat)(h:Nat->V)(id:Nat)(l:List (List Nat))(hl:l.length<=12)(ha:GG l):Gxz 313 [.sl (.own id 9) 1 (ssV l),vi 0,vi l.length] ⟨e,bx,n,h⟩ ⟨e,bx,n,h⟩ (.tup []):=by
 refine gZ oW ?_;(repeat' first|refine wQ (Ac @aK @aH @aG) ?_|refine tS ?_ ?_<;>intro c|fail);refine rF (fun i:Nat=>[(0,.sl (.own id 9) 1 (ssV l)),(1,vi 0),(2,vi l.length),(6,vi ((i:Int)+1))]) (fun _=>bx) (fun _=>n) (fun _=>bM e h) (fun i=>i<=l.length) (fun i=>l.length-i) 0 ?_ (fun _=>.inl rfl) (az _) rfl (ax _) ?_
 .exact eE
 .rintro i hi;rcases au (i+1) l.length with b|p
  .have a:((i:Int)+1<(l.length:Int))=True:=eq_true Om;obtain⟨d,q⟩:=ha i b;have k:=aoj (l.getD (i+1) []) (l.getD i []);rw[d]at k;have j:=DL l (i+1) b;have m:=DL l i Om;have f:((i:Int)+1).toNat=i+1:=Om;have g:((i:Int)+1-1).toNat=i:=Om;(repeat' first|refine wQ (Ac @aH @aG a) ?_|refine tS ?_ ?_<;>intro c|fail);refine rF (fun _:Unit=>[(0,.sl (.own id 9) 1 (ssV l)),(1,vi 0),(2,vi l.length),(6,vi ((i:Int)+1)),(7,vi ((i:Int)+1))]) (fun _=>bx) (fun _=>n) (fun _=>bM e h) (fun _=>True) (fun _=>0) () ?_ (fun _=>.inl rfl) (az _) rfl ae ?_
   .exact eE
   .rintro _ _;(repeat' first|refine wP (Af @aH @aG j m f g) k ?_|refine tS ?_ ?_<;>intro c|fail);refine qo (i+1) ?_ ?_ ?_ (fun _=>.inl rfl) (az _) rfl
    .show i+1<=l.length;omega
    .show l.length-(i+1)<l.length-i;omega
    .exact eE
  .have a:((i:Int)+1<(l.length:Int))=False:=eq_false Om;(repeat' first|refine wQ (Ac @aH @aG a) ?_|refine tS ?_ ?_<;>intro c|fail);refine bC (Qk _ _) ?_;rw[aP,aQ]
def axf(e:Nat->V)(bx:BX)(n:Nat)(h:Nat->V)(id:Nat)(l:List (List Nat))(hl:l.length<=12)(ha:GG l)(m:Int):Gxz 282 [.sl (.own id 9) 1 (ssV l),vi 0,vi l.length,vi m] ⟨e,bx,n,h⟩ ⟨e,bx,n,h⟩ (.tup []):=by
 have k:=fun e h=>axb e bx n h id l hl ha
 refine gZ oW ?_;(repeat' first|refine wQ (Ac @aK @aH @aG) ?_|refine tS ?_ ?_<;>intro a|fail);refine rF (fun _:Unit=>[(0,.sl (.own id 9) 1 (ssV l)),(1,vi 0),(2,vi l.length),(3,vi m),(8,vb true),(9,vb true)]) (fun _=>bx) (fun _=>n) (fun _=>bM e h) (fun _=>True) (fun _=>0) () ?_ (fun _=>.inl rfl) (az _) rfl ae ?_
 .exact eE
 .rintro _ _;(repeat' first|refine wQ (aI @aH @aG) ?_|refine aU _ (k _ _) rfl ?_|refine tS ?_ ?_<;>intro a|fail);refine bC (Qk _ _) ?_;rw[aP,aQ]
def aw5(e:Nat->V)(bx:BX)(n:Nat)(h:Nat->V)(id:Nat)(l:List (List Nat))(hl:l.length<=12)(ha:GG l):Gxz 200 [.sl (.own id 9) 1 (ssV l)] ⟨e,bx,n,h⟩ ⟨e,bx,n,h⟩ (.tup []):=by
 obtain⟨m,_,k⟩:=aoi l.length Om;have a:=fun e h=>axf e bx n h id l hl ha m
 refine gZ oW ?_;(repeat' first|refine wP (Ad @aK @aH @aG @aj.{0,0}) k ?_|refine aU _ (a _ _) rfl ?_|refine tS ?_ ?_<;>intro b|fail);refine bC (Qk _ _) ?_;rw[aP,aQ]
def awW(e:Nat->V)(bx:BX)(n:Nat)(h:Nat->V)(id:Nat)(l:List (List Nat))(hl:l.length<=12)(ha:GG l):Gxz 201 [.sl (.own id 9) 1 (ssV l)] ⟨e,bx,n,h⟩ ⟨e,bx,n,h⟩ (.sl (.own id 9) 1 (ssV l)):=by
 rcases au l.length 2 with h2|h2
 .refine gZ oW ?_;(repeat' first|refine wQ (Ad @aK @aH @aG @aj.{0,0}) ?_|refine tS ?_ ?_<;>intro c|fail);refine bC (aW _ _ _) ?_;rw[aP,aQ]
 .refine gZ oW ?_;(repeat' first|refine wQ (Ad @aK @aH @aG @aj.{0,0}) ?_|refine tS ?_ ?_<;>intro c|fail);refine rF (fun i:Nat=>[(0,.sl (.own id 9) 1 (ssV l)),(3,vi ((i:Int)+1))]) (fun _=>bx) (fun _=>n) (fun _=>bM e h) (fun i=>i<l.length) (fun i=>l.length-i) 0 ?_ (fun _=>.inl rfl) (az _) rfl Om ?_
  .exact eE
  .rintro i hi;rcases au (i+1) l.length with b|p
   .have a:((i:Int)+1<(l.length:Int))=True:=eq_true Om;obtain⟨q,d⟩:=ha i b;have f:decide (sB (l.getD (i+1) [])=sB (l.getD i []))=false:=dK d;have k:=DL l (i+1) b;have m:=DL l i Om;have g:((i:Int)+1).toNat=i+1:=Om;have j:((i:Int)+1-1).toNat=i:=Om;(repeat' first|refine wQ (A8 @aH @aG @aj.{0,0} a k m g j f) ?_|refine tS ?_ ?_<;>intro c|fail);refine qo (i+1) ?_ ?_ ?_ (fun _=>.inl rfl) (az _) rfl
    .exact b
    .show l.length-(i+1)<l.length-i;omega
    .exact eE
   .have a:((i:Int)+1<(l.length:Int))=False:=eq_false Om;(repeat' first|refine wQ (Ad @aH @aG @aj.{0,0} a) ?_|refine tS ?_ ?_<;>intro c|fail);(refine iL (by first|rfl|skip) (by first|omega|skip))
def anL(x:Int×Int)(l:List (Int×Int))(hl:l.length<=1000000):Gxx 63 [.sl .fz 2 (pnV (x::l))] (.sl (.own 0 145) 2 (pnV (x::l))):=by
 have b:Fits (pnV (x::l)).length 16:=by rw[aj,dB];exact⟨by simp only[maxLen];omega,by omega⟩
 have hp:0<(pnV (x::l)).length:=by rw[aj,dB];omega
 have a:=fun(e:Nat->V) (bx:BX) (nn:Nat) (h:Nat->V)=>Gz e bx nn h 145 2 16 2 (pnV (x::l)) b hp
 refine gI oW ?_;(repeat' first|refine wQ a ?_|refine tS ?_ ?_<;>intro c|fail);exact rE [1]
def anJ(x:Bd)(l:List Bd)(hl:l.length<=1000000):Gxx 62 [.sl .fz 4 (aS (x::l))] (.sl (.own 0 142) 4 (aS (x::l))):=by
 have b:Fits (aS (x::l)).length 40:=by rw[aj,dB];exact⟨by simp only[maxLen];omega,by omega⟩
 have hp:0<(aS (x::l)).length:=by rw[aj,dB];omega
 have a:=fun(e:Nat->V) (bx:BX) (nn:Nat) (h:Nat->V)=>Gz e bx nn h 142 4 40 4 (aS (x::l)) b hp
 refine gI oW ?_;(repeat' first|refine wQ a ?_|refine tS ?_ ?_<;>intro c|fail);exact rE [1]
def anK(x:Int)(l:List Int)(hl:l.length<=1000000):Gxx 66 [.sl .fz 1 ((x::l).map vi)] (.sl (.own 0 3) 1 ((x::l).map vi)):=by
 have b:Fits ((x::l).map vi).length 8:=by rw[aj,dB];exact⟨by simp only[maxLen];omega,by omega⟩
 have hp:0<((x::l).map vi).length:=by rw[aj,dB];omega
 have a:=fun(e:Nat->V) (bx:BX) (nn:Nat) (h:Nat->V)=>Gz e bx nn h 3 1 8 1 ((x::l).map vi) b hp
 refine gI oW ?_;(repeat' first|refine wQ a ?_|refine tS ?_ ?_<;>intro c|fail);exact rE [1]
end Go.Proofs.YtopbmdnbdpjheaaGreat
namespace Go.Proofs.YtopbmdnbdpjheaaGreat
open Go Go.Pg Go.RowKit Go.Lib
def O3:Tryz.prog.follows .mixedOrders=true:=Za
theorem clG{P:Program}[Tb P]{f:FuncId}{T:TypeId}{k:Nat}(d:oI P f=true)(H:∀(a:Option Addr) (c:Nat) (w:World),Calls P f #[.slice a 0 c] w fun e' w'=>(e' = .returned (.slice none 0 0)/\w'=w)\/(e' = .returned (.slice (some ⟨w.heap.size,0,none⟩) 0 0)/\w'=w.alloc (.cells #[] T))) :
  Pg.Good P f [.sl .fz k []] (.sl (.own 0 T) k []):=by
 refine⟨d,?_⟩
 rintro A w b m hA ⟨u,r,rfl,⟨ad,cap,cells,rfl,h2,h3⟩,l⟩
 subst l
 refine(H ad cap w).mono ?_
 rintro e' w' (⟨rfl,rfl⟩|⟨rfl,rfl⟩)
 .exact⟨_,⟨A,fun _=>none,fun _=>none⟩,rfl,⟨none,0,[],rfl,rfl,.inl ⟨rfl,rfl,rfl⟩⟩,Kp.refl _ _ _,fun g h=>.inl h,fun i g h=>(by cases h),fun i j g h=>(by cases h)⟩
 .refine⟨_,⟨A,fun i=>if i=0 then some w.heap.size else none,fun _=>none⟩,rfl,⟨_,0,[],rfl,rfl,.inr ⟨w.heap.size,#[],rfl,rfl,heap_alloc_new w _,az _,ax _,by simp,by simp⟩⟩,(Grow.alloc w _).kp _ (az _),fun g h=>.inl h,fun i g h => ?_,fun i j g h k => ?_⟩
  .simp only at h;split at h
   .simp at h;subst h;exact⟨az _,by simp,fun h=>by have:=hA _ h;omega⟩
   .cases h
  .grind
def akw(a:Option Addr)(c:Nat)(w:World):Calls Tryz.prog 62 #[.slice a 0 c] w fun e' w'=>(e' = .returned (.slice none 0 0)/\w'=w)\/(e' = .returned (.slice (some ⟨w.heap.size,0,none⟩) 0 0)/\w'=w.alloc (.cells #[] 142)):=by
 have m:=O3
 have q:∀(w:World) (a:Option Addr) (n c n' b:Nat),(binOp .eql 27 (.slice a n c) (.slice none n' b)).run Tryz.prog w = .ok (.bool a.isNone) w:=fun w a n c n' b=>Lib.run_eql_slice_nil w _ 142 a n c n' b (iw Za)
 cases a with
 |none =>go_enter Tryz.func62,Tryz.ntmps62;go_wp2;go_ret;exact .inl ⟨rfl,rfl⟩
 |some a =>go_enter Tryz.func62,Tryz.ntmps62;go_wp2;go_ret;exact .inr ⟨rfl,rfl⟩
def Qc(l:List Bd)(hl:l.length<=1000000):Gxx 62 [.sl .fz 4 (aS l)] (.sl (.own 0 142) 4 (aS l)):=by
 cases l with
 |nil=>exact clG Za akw
 |cons x l=>exact anJ x l (by simp at hl;omega)
def aky(a:Option Addr)(c:Nat)(w:World):Calls Tryz.prog 63 #[.slice a 0 c] w fun e' w'=>(e' = .returned (.slice none 0 0)/\w'=w)\/(e' = .returned (.slice (some ⟨w.heap.size,0,none⟩) 0 0)/\w'=w.alloc (.cells #[] 145)):=by
 have m:=O3
 have q:∀(w:World) (a:Option Addr) (n c n' b:Nat),(binOp .eql 28 (.slice a n c) (.slice none n' b)).run Tryz.prog w = .ok (.bool a.isNone) w:=fun w a n c n' b=>Lib.run_eql_slice_nil w _ 145 a n c n' b (iw Za)
 cases a with
 |none =>go_enter Tryz.func63,Tryz.ntmps63;go_wp2;go_ret;exact .inl ⟨rfl,rfl⟩
 |some a =>go_enter Tryz.func63,Tryz.ntmps63;go_wp2;go_ret;exact .inr ⟨rfl,rfl⟩
def Yq(l:List (Int×Int))(hl:l.length<=1000000):Gxx 63 [.sl .fz 2 (pnV l)] (.sl (.own 0 145) 2 (pnV l)):=by
 cases l with
 |nil=>exact clG Za aky
 |cons x l=>exact anL x l (by simp at hl;omega)
def akx(a:Option Addr)(c:Nat)(w:World):Calls Tryz.prog 66 #[.slice a 0 c] w fun e' w'=>(e' = .returned (.slice none 0 0)/\w'=w)\/(e' = .returned (.slice (some ⟨w.heap.size,0,none⟩) 0 0)/\w'=w.alloc (.cells #[] 3)):=by
 have m:=O3
 have q:∀(w:World) (a:Option Addr) (n c n' b:Nat),(binOp .eql 22 (.slice a n c) (.slice none n' b)).run Tryz.prog w = .ok (.bool a.isNone) w:=fun w a n c n' b=>Lib.run_eql_slice_nil w _ 3 a n c n' b (iw Za)
 cases a with
 |none =>go_enter Tryz.func66,Tryz.ntmps66;go_wp2;go_ret;exact .inl ⟨rfl,rfl⟩
 |some a =>go_enter Tryz.func66,Tryz.ntmps66;go_wp2;go_ret;exact .inr ⟨rfl,rfl⟩
def Yp(l:List Int)(hl:l.length<=1000000):Gxx 66 [.sl .fz 1 (l.map vi)] (.sl (.own 0 3) 1 (l.map vi)):=by
 cases l with
 |nil=>exact clG Za akx
 |cons x l=>exact anK x l (by simp at hl;omega)
end Go.Proofs.YtopbmdnbdpjheaaGreat
section
namespace Go.Pg
open Go
structure TurnAt (w w':World) (g:Nat):Prop where
 os:w'.os=w.os
 tape:w'.tape=w.tape
 output:w'.output=w.output
 size:w.heap.size<=w'.heap.size
 block:∀k,k<w.heap.size->k≠g->w'.heap[k]?=w.heap[k]?
 drawn:w.drawn<=w'.drawn
section
variable {P:Program} {C:Cx} {s:St} {L L':Lay} {a:Act} {w w':World}
end
end Go.Pg
end
section
namespace Go.Pg
open Go
structure InsEnd (w w':World) (o:Option Nat):Prop where
 os:w'.os=w.os
 tape:w'.tape=w.tape
 output:w'.output=w.output
 size:w.heap.size<=w'.heap.size
 block:∀k,k<w.heap.size->o≠some k->w'.heap[k]?=w.heap[k]?
 drawn:w.drawn<=w'.drawn
def kR(w:World)(o:Option Nat)(e:TypeId)(k n:Nat)(cells:List Value)(u:Value)(w':World):Prop :=
 InsEnd w w' o/\∃g cap arr,u = .slice (some ⟨g,0,none⟩) n cap/\w'.heap[g]?=some (.cells arr e (0,0))/\n<=cap/\cap<=maxLen/\arr.size=cap*k/\arr.toList.take (n*k)=cells/\(o=some g\/w.heap.size<=g)
structure InsArg (P:Program) (w:World) (o:Option Nat) (e:TypeId) (k bytes n cap:Nat) (cells vs:List Value) (ad:Addr) (xc:Nat):Prop where
 row:(o=none/\n=0/\cap=0/\cells=[])\/∃g arr,o=some g/\w.heap[g]?=some (.cells arr e (0,0))/\n<=cap/\cap<=maxLen/\arr.size=cap*k/\arr.toList.take (n*k)=cells/\ad.block≠g
 adw:∃arr t fr,w.heap[ad.block]?=some (.cells arr t fr)/\arr.size≠0
 spot:ad.spot=none
 len:cells.length=n*k
 vlen:vs.length=k
 xc:1<=xc
 vsw:∀j v,vs[j]?=some v->w.cell? (ad.add j)=some v
 c1:∀v∈cells,v.oneCell'=true
 v1:∀v∈vs,v.oneCell'=true
 fit:Fits (n+1) bytes
 kpos:0<k
section
variable {P:Program} {C:Cx} {s:St} {L:Lay} {a:Act} {w w':World}
theorem Bj{dT sT ty e e':TypeId}{i:TypeInfo}(d:P.underlying dT=some (.slice e))(hi:P.info? e=some i){g o dLen dCap sLen sCap:Nat}{arr:Array Value}{ad:Addr}{cs:List Value}
  (hg:w.heap[g]?=some (.cells arr e' (0,0))) (c:cs.length=Nat.min sLen dLen*i.size) (a:∀j v,cs[j]?=some v->w.cell? (ad.add j)=some v) (h:o+cs.length<=arr.size) (h1:∀v∈cs,v.oneCell'=true) :
  (Builtin.copy_ #[dT,sT] ty #[.slice (some ⟨g,o,none⟩) dLen dCap,.slice (some ad) sLen sCap]).run P w = .ok (goInt (Nat.min sLen dLen)) (w.setRow g (arr.toList.take o++cs++arr.toList.drop (o+cs.length)).toArray):=by
 have hl:=run_loadCells_list (P:=P) w ad cs a
 have b:=run_storeCells_at P g o e' cs 0 arr w hg (by simpa using h) h1
 simp only[Nat.add_zero]at b
 simp[Builtin.copy_,run_underlying d,Builtin.lenOf,Builtin.firstCells,sizeOf,typeInfo,hi,<-c,hl,b]
theorem YN{tS K e:TypeId}(x:P.underlying tS=some (.slice e)){i:TypeInfo}(hi:P.info? e=some i)(a b:Addr)(la E l F:Nat)(k:a.block≠b.block)
  (ha:∃arr t fr,w.heap[a.block]?=some (.cells arr t fr)/\arr.size≠0) (hb:∃arr t,w.heap[b.block]?=some (.cells arr t (0,0))/\arr.size≠0) :
  (Extern.SlicesOverlaps.overlaps #[tS,tS] #[K] #[.slice (some a) la E,.slice (some b) l F]).run P w = .ok (.bool false) w:=by
 obtain⟨c,I,G,hA,v⟩:=ha
 obtain⟨A,p⟩:∃m,c.size=m+1:=⟨c.size-1,by omega⟩
 obtain⟨d,J,hB,H⟩:=hb
 obtain⟨m,hm⟩:∃m,d.size=m+1:=⟨d.size-1,by omega⟩
 have q:(a.block != b.block)=true:=by simpa using k
 have j:(a.block == b.block)=false:=by simpa using k
 have r:w.shape? a.block=some (I,A+1):=by simp[World.shape?,hA,p]
 have s:w.shape? b.block=some (J,m+1):=by simp[World.shape?,hB,hm]
 have f:∀o C,w.frozen? ⟨b.block,o,C⟩=false:=fun o C=>by simp[World.frozen?,hB]
 have g:w.frozen? b=false:=f b.off b.spot
 have y:∀w,(Go.sizeOf e).run P w = .ok i.size w:=fun w=>by simp[sizeOf,typeInfo,hi]
 change Sem.run P (α:=Value) (do
  let some t:=(#[tS,tS]:Array TypeId)[0]?|stuck "slices.overlaps: no parameter types"
  let .slice elem <-underlying t|stuck "slices.overlaps: slice type expected"
  let size <-sizeOf elem
  match(some a:Option Addr),(some b:Option Addr)with
  |some a,some b =>
   if la=0\/l=0\/size=0 then pure (Value.bool false)
   else if a.block != b.block&&(<-frozen a)&&(<-frozen b)then unsupported .addressObserved
   else do
    if a.block != b.block then do
     noView a;noView b
     if <-mayBeOne a b then return Value.bool ((<-choose (.extern "sameAddr.stringBytes" 2)) == 1)
    pure (Value.bool (a.block == b.block&&a.off<b.off+l*size&&b.off<a.off+la*size))
  |_,_=>pure (Value.bool false)) w=_
 by_cases u:la=0\/l=0\/i.size=0
 .simp[run_underlying x,y,u]
 .cases n:w.frozen? a<;>cases h:w.frozen? {block:=a.block,off:=A+1,spot:=none} <;>
   simp[run_underlying x,y,u,q,j,frozen,noView,viewAt,mayBeOne,stringish,shape,Sem.run,r,s,g,f,n,h]
theorem ajL{id:Nat}{o:Option Nat}{g:Nat}{e:TypeId}{arr:Array Value}(S:Sim C s L a w)(ho:∀j,o=some j->L.own id=some j)(T:InsEnd w w' o)
  (hg:w'.heap[g]?=some (.cells arr e (0,0))) (d:o=some g\/w.heap.size<=g):Wf C (max s.nid (id+1)) (L.addOwn id g) w':=by
 have W:=S.wf
 have f:=(lW.1 hg).1
 have hA:∀h,o=some h->¬L.A h:=fun h e=>(W.own id h (ho h e)).2.2
 have q:¬L.A g:=d.elim (hA g) (fun h k=>by have:=W.old g k;omega)
 have r:C.B<=g\/C.Wr g:=d.elim (fun h=>(W.own id g (ho g h)).2.1) (fun h=>.inl (by have:=S.hB;omega))
 have p:∀j,L.own j=some g->j=id:=fun j hj=>d.elim (fun h=>W.injO j id g hj (ho g h)) (fun h=>by have:=(W.own j g hj).1;omega)
 have t:∀b,L.box b=some g->False:=fun b hb=>d.elim (fun h=>W.dis id b g (ho g h) hb) (fun h=>by have:=(W.boxW b g hb).1;omega)
 have v:∀j h,L.own j=some h->j≠id->o≠some h:=fun j h hj l e=>l (W.injO j id h hj (ho h e))
 have x:∀b h,L.box b=some h->o≠some h:=fun b h hb e=>W.dis id b h (ho h e) hb
 have c:∀j h,(L.addOwn id g).own j=some h->(j=id/\h=g)\/(j≠id/\L.own j=some h):=by
  intro j h hj;simp only[Lay.addOwn,upd]at hj;split at hj
  .simp only[aO]at hj;exact .inl ⟨by assumption,hj.symm⟩
  .exact .inr ⟨by assumption,hj⟩
 exact{
  nidO:=fun j h hj=>by rcases c j h hj with⟨rfl,_⟩|⟨_,h2⟩<;>first|omega|(have:=W.nidO j h h2;omega)
  nidB:=fun j h hj=>by have:=W.nidB j h hj;omega
  own:=fun j h hj=>by
   rcases c j h hj with⟨_,rfl⟩|⟨_,h2⟩
   .exact⟨f,r,q⟩
   .obtain⟨m,k2,n⟩:=W.own j h h2;exact⟨sF m T.size,k2,n⟩
  boxW:=fun b h hb=>by obtain⟨m,k2,n⟩:=W.boxW b h hb;exact⟨sF m T.size,k2,n⟩
  injO:=fun i j h hi hj=>by
   rcases c i h hi with⟨rfl,h1⟩|⟨_,h2⟩<;>rcases c j h hj with⟨rfl,h3⟩|⟨_,h4⟩
   .rfl
   .subst h1;exact(p j h4).symm
   .subst h3;exact p i h2
   .exact W.injO i j h h2 h4
  injB:=W.injB
  dis:=fun i j h hi hj=>by
   rcases c i h hi with⟨_,rfl⟩|⟨_,h2⟩
   .exact t j hj
   .exact W.dis i j h h2 hj
  old:=fun h u=>sF (W.old h u) T.size
  frz:=W.frz}
theorem VH{id:Nat}{o:Option Nat}{g:Nat}{e:TypeId}{k:Nat}{ys:List V}{cells:List Value}{arr:Array Value}{cap:Nat}(S:Sim C s L a w)(ho:∀j,o=some j->L.own id=some j)(T:InsEnd w w' o)
  (hg:w'.heap[g]?=some (.cells arr e (0,0))) (i:o=some g\/w.heap.size<=g) (y:RepE L w k ys cells) (hl:ys.length<=cap) (hm:cap<=maxLen) (A:arr.size=cap*k) (l:arr.toList.take (ys.length*k)=cells) :
  Sim C {s.mapV (aF id)with nid:=max s.nid (id+1)} (L.addOwn id g) a w'/\Rep (L.addOwn id g) w' (.sl (.own id e) k ys) (.slice (some ⟨g,0,none⟩) ys.length cap):=by
 have W:=S.wf
 have x:=(lW.1 hg).1
 have hA:∀h,o=some h->¬L.A h:=fun h e=>(W.own id h (ho h e)).2.2
 have F:¬L.A g:=i.elim (hA g) (fun h k=>by have:=W.old g k;omega)
 have G:C.B<=g\/C.Wr g:=i.elim (fun h=>(W.own id g (ho g h)).2.1) (fun h=>.inl (by have:=S.hB;omega))
 have H:∀j,L.own j=some g->j=id:=fun j hj=>i.elim (fun h=>W.injO j id g hj (ho g h)) (fun h=>by have:=(W.own j g hj).1;omega)
 have I:∀b,L.box b=some g->False:=fun b hb=>i.elim (fun h=>W.dis id b g (ho g h) hb) (fun h=>by have:=(W.boxW b g hb).1;omega)
 have E:∀j h,L.own j=some h->j≠id->o≠some h:=fun j h hj c e=>c (W.injO j id h hj (ho h e))
 have r:∀b h,L.box b=some h->o≠some h:=fun b h hb e=>W.dis id b h (ho h e) hb
 have m:∀j h,(L.addOwn id g).own j=some h->(j=id/\h=g)\/(j≠id/\L.own j=some h):=by
  intro j h hj;simp only[Lay.addOwn,upd]at hj;split at hj
  .simp only[aO]at hj;exact .inl ⟨by assumption,hj.symm⟩
  .exact .inr ⟨by assumption,hj⟩
 have hid:(L.addOwn id g).own id=some g:=by simp[Lay.addOwn,upd]
 have K:Trans (Tag.is id) (fun _=>false) _root_.id _root_.id L (L.addOwn id g) w w' :=
  ⟨rfl,fun h f=>⟨f,.of (T.block h (W.old h f) (fun e=>hA h e f))⟩,fun j e hj h d=>by
    have c:j≠id:=fun e=>by subst e;simp[Tag.is]at hj
    exact⟨⟨rfl,by simp[Lay.addOwn,upd,c,d]⟩,T.block h (W.own j h d).1 (E j h d c)⟩,
   fun b _ h d=>⟨d,.of (T.block h (W.boxW b h d).1 (r b h d))⟩⟩
 have wf:Wf C (max s.nid (id+1)) (L.addOwn id g) w':=ajL S ho T hg i
 refine⟨S.mapV (fun v u h=>Io K h) (fun b h hb=>⟨hb,T.block h (W.boxW b h hb).1 (r b h hb)⟩) wf ⟨T.os,T.tape,T.output,T.size,fun h d t=>T.block h (by have:=S.hB;omega) (fun e => ?_),T.drawn⟩,
  some ⟨g,0,none⟩,cap,cells,rfl,y.trans (p:=Tag.is id) (q:=fun _=>false) rfl K,.inr ⟨g,arr,hid,rfl,hg,hl,hm,A,l⟩⟩
 rcases(W.own id h (ho h e)).2.1 with n|n
 .omega
 .exact t n
end
section
variable {P:Program} [Tb P]
theorem VI{f:FuncId}{e:TypeId}{k bytes:Nat}(M:oI P f=true)(A:0<k)
  (H:∀(w:World) (o:Option Nat) (n cap i:Nat) (cells vs:List Value) (ad:Addr) (xc:Nat),i<=n->InsArg P w o e k bytes n cap cells vs ad xc ->
   Calls P f #[.slice (o.map fun g=>⟨g,0,none⟩) n cap,.int .i64 i,.slice (some ad) 1 xc] w fun e' w'=>∃u,e' = .returned u/\kR w o e k (n+1) (cells.take (i*k)++vs++cells.drop (i*k)) u w')
  (id:Nat) (xs:List V) (x:V) (t:Tag) (ht:t = .fz\/∃j Y,t = .own j Y/\j≠id) (i:Nat) (s:St) (hi:i<=xs.length) (hf:Fits (xs.length+1) bytes) :
  GoodZ P f [.sl (.own id e) k xs,.c (.int .i64 (i:Int)),.sl t k [x]] s {s.mapV (aF id)with nid:=max s.nid (id+1)} (.sl (.own id e) k (xs.take i++[x]++xs.drop i)):=by
 rintro C L a w G hT S ⟨u,r,rfl,⟨ad,cap,cells,rfl,h2,h3⟩,⟨u2,r2,rfl,y,⟨u3,r3,rfl,⟨xa,xc,vs,rfl,d,l⟩,hr⟩⟩⟩
 simp only[Reps,Rep]at hr y
 subst hr
 subst y
 refine .inl ⟨M,?_⟩
 have K:=h2.length
 have m:=d.length
 have W:=S.wf
 obtain⟨c,ox,rfl,p,b,hA⟩:∃c ox,xa=some ⟨c,ox,none⟩/\1<=xc/\Row w c ox vs/\∀g,L.own id=some g->c≠g:=by
  rcases ht with rfl|⟨j,Y,rfl,hj⟩
  .obtain⟨p,l⟩:=l;obtain⟨c,ox,rfl,hA,b⟩:=l.resolve_left (by simp);exact⟨c,ox,rfl,p,b,fun g hg e=>by subst e;exact(W.own id _ hg).2.2 hA⟩
  .rcases l with⟨I,_⟩|⟨g,arr,Q,rfl,R,U,k5,k6,k7⟩
   .simp at I
   .refine⟨g,0,rfl,U,⟨arr,_,_,R,?_⟩,fun g' hg e=>hj (W.injO j id g Q (e▸hg))⟩;rw[m];exact k7
 have key:∀o,(∀j,o=some j->L.own id=some j)->ad=(o.map fun g=>(⟨g,0,none⟩:Addr))->InsArg P w o e k bytes xs.length cap cells vs ⟨c,ox,none⟩ xc ->
   Calls P f #[.slice ad xs.length cap,.int .i64 i,.slice (some ⟨c,ox,none⟩) 1 xc] w fun e' w'=>∃u L',e' = .returned u/\Sim C {s.mapV (aF id)with nid:=max s.nid (id+1)} L' a w'/\Rep L' w' (.sl (.own id e) k (xs.take i++[x]++xs.drop i)) u:=by
  intro o ho J hI
  subst J
  refine(H w o xs.length cap i cells vs ⟨c,ox,none⟩ xc hi hI).mono ?_
  rintro e' w' ⟨u,rfl,T,g,X,arr,rfl,Q,k2,R,U,k5,k6⟩
  have q:(xs.take i++[x]++xs.drop i).length=xs.length+1:=by simp;omega
  have:=VH (ys:=xs.take i++[x]++xs.drop i) S ho T Q k6 (((h2.take i).append d).append (h2.drop i)) (by rw[q];exact k2) R U (by rw[q];exact k5)
  rw[q]at this
  exact⟨_,_,rfl,this.1,this.2⟩
 have E:∀j v,vs[j]?=some v->w.cell? ((⟨c,ox,none⟩:Addr).add j)=some v:=fun j v hj=>by rw[jO];exact b.cell hj
 have F:∃arr t fr,w.heap[c]?=some (.cells arr t fr)/\arr.size≠0:=by obtain⟨arr,t,fr,h,Z⟩:=b;refine⟨arr,t,fr,h,fun I => ?_⟩;have e0:arr.toList=[]:=kJ (by simpa using I);rw[e0]at Z;have:=mV List.length Z;simp at this;simp at m;omega
 rcases h3 with⟨h4,rfl,rfl⟩|⟨g,arr,h4,rfl,h5,h6,h7,h8,h9⟩
 .have N:xs=[]:=kJ h4;subst N;simp only[RepE]at h2;subst h2;exact key none (fun j h=>by cases h) rfl ⟨.inl ⟨rfl,rfl,rfl,rfl⟩,F,rfl,by simp,by simpa using m,p,E,by simp,d.one,hf,A⟩
 .refine key (some g) (fun j h=>by cases h;exact h4) rfl ⟨.inr ⟨g,arr,rfl,h5,h6,h7,h8,h9,fun e => ?_⟩,F,rfl,K,by simpa using m,p,E,h2.one,d.one,hf,A⟩;simp only at e;exact hA g h4 e
end
end Go.Pg
end
namespace Go.Proofs.YtopbmdnbdpjheaaGreat
open Go Go.Pg Go.RowKit Go.Lib
def Ls:tapp Tryz.prog 142=some (4,40):=Za
theorem xI:Tryz.prog.underlying 27=some (.slice 142):=iw Za
def ZK:Tryz.prog.underlying 3=some (.int .i64):=Za
def yQ:Tryz.prog.follows .mixedOrders=true:=Za
def tJ{a b:Nat}(h:a<=b):Nat.min a b=a:=by grind
def Kr{a b:Nat}(h:b<=a):Nat.min a b=b:=by grind
def OH{w w':World}{o:Option Nat}(h:InsEnd w w' o):InsEnd w w'.drew o:=⟨h.os,h.tape,h.output,h.size,h.block,Nat.le_succ_of_le h.drawn⟩
def Hu(w:World)(o:Option Nat):InsEnd w w o:=⟨rfl,rfl,rfl,az _,fun _ _ _=>rfl,az _⟩
def Ak{w w':World}{g:Nat}(o:Option Nat)(h:InsEnd w w' o)(hg:o=some g\/w.heap.size<=g)(A:Array Value):InsEnd w (w'.setRow g A) o :=
 ⟨h.os,h.tape,h.output,by simpa using h.size,fun k hk ho=>by rw[setRow_other w' g k A (fun e=>by subst e;rcases hg with h1|h1;exact ho h1;omega)];exact h.block k hk ho,h.drawn⟩
def akE(g n c i m xc:Nat)(arr:Array Value)(cs vs:List Value)(ad:Addr)(w:World)(hi:i<n)(hm:0<m)(hroom:n+m<=c)(hc:c<=9223372036854775807)(hg:w.heap[g]?=some (.cells arr 142 (0,0)))
  (has:arr.size=c*4) (htk:arr.toList.take (n*4)=cs) (hne:ad.block≠g) (had:∃arr t fr,w.heap[ad.block]?=some (.cells arr t fr)/\arr.size≠0) (hvl:vs.length=m*4) (hvs:∀j v,vs[j]?=some v->w.cell? (ad.add j)=some v)
  (h1c:∀v∈cs,v.oneCell'=true) (h1v:∀v∈vs,v.oneCell'=true) :
  Calls Tryz.prog 286 #[.slice (some ⟨g,0,none⟩) n c,.int .i64 i,.slice (some ad) m xc] w fun e w'=>∃u,e = .returned u/\kR w (some g) 142 4 (n+m) (cs.take (i*4)++vs++cs.drop (i*4)) u w':=by
 obtain⟨i0,z,hi0,hz,hzs,hz3,hzb,hpos⟩:=pW Ls
 have hcl:cs.length=n*4:=by rw[<-htk,bI,iQ,has];omega
 have hrow:Row w g 0 cs:=⟨arr,_,_,hg,by rw[hcl];simpa using htk⟩
 have hdl:(cs.drop (i*4)).length=(n-i)*4:=by rw[eH,hcl];omega
 obtain⟨A1,hA1⟩:∃A1,A1=(arr.toList.take ((i+m)*4)++cs.drop (i*4)++arr.toList.drop ((i+m)*4+(cs.drop (i*4)).length)).toArray:=⟨_,rfl⟩
 obtain⟨A2,hA2⟩:∃A2,A2=(A1.toList.take (i*4)++vs++A1.toList.drop (i*4+vs.length)).toArray:=⟨_,rfl⟩
 have hs1:A1.size=arr.size:=by rw[hA1];simp only[ou,aN,bI,eH,iQ,hcl,has];omega
 have hs2:A2.size=arr.size:=by rw[hA2];simp only[ou,aN,bI,eH,iQ,hvl,hs1,has];omega
 have hg1:∀W:World,W.heap=w.heap->(W.setRow g A1).heap[g]?=some (.cells A1 142 (0,0)):=fun W hW=>setRow_heap W g arr A1 _ _ (by rw[hW];exact hg)
 have hov:∀(W:World) lb cb,W.heap=w.heap->(callFunc 322 #[.slice (some ad) m xc,.slice (some ⟨g,(i+m)*4,none⟩) lb cb]).run Tryz.prog W = .ok (.value (.bool false)) W:=fun W lb cb hW=>by
  rw[run_callFunc_extern Tryz.func322 Za Za Za (e:=Extern.SlicesOverlaps.overlaps #[27,27] #[4]) Za,
   YN xI hi0 ad ⟨g,(i+m)*4,none⟩ m xc lb cb hne (by rw[hW];exact had) ⟨arr,_,by rw[hW];exact hg,by rw[has];omega⟩]
  rfl
 have hcell:∀W:World,W.heap=w.heap->∀j v,(cs.drop (i*4))[j]?=some v->W.cell? ((⟨g,i*4,none⟩:Addr).add j)=some v:=fun W hW j v hj=>by rw[jO];rw[LZ]at hj;have h:=hrow.cell hj;simp only[World.cell?,hW]at h⊢;simpa using h
 have hcp1:∀ty dc sc,(Builtin.copy_ #[27,27] ty #[.slice (some ⟨g,(i+m)*4,none⟩) (n+m-(i+m)) dc,.slice (some ⟨g,i*4,none⟩) (n+m-i) sc]).run Tryz.prog w.drew = .ok (goInt ((n-i:Nat):Int)) (w.drew.setRow g A1):=fun ty dc sc=>by
  have h:=Bj (P:=Tryz.prog) (ty:=ty) (w:=w.drew) (dCap:=dc) (sCap:=sc) (sT:=27) xI hi0 (g:=g) (o:=(i+m)*4) (dLen:=n+m-(i+m)) (sLen:=n+m-i) (arr:=arr) (ad:=⟨g,i*4,none⟩) (cs:=cs.drop (i*4)) hg
   (by rw[hdl,hz3,Kr Om,Nat.add_sub_add_right]) (hcell w.drew rfl) (by rw[hdl,has];omega) (fun v hv=>h1c v (BG hv))
  rw[<-hA1,show Nat.min (n+m-i) (n+m-(i+m))=n-i by rw[Kr Om,Nat.add_sub_add_right]]at h;exact h
 have hcp2:∀(W:World),W.heap=(w.drew.setRow g A1).heap->∀ty dc,(Builtin.copy_ #[27,27] ty #[.slice (some ⟨g,i*4,none⟩) (n+m-i) dc,.slice (some ad) m xc]).run Tryz.prog W = .ok (goInt ((m:Nat):Int)) (W.setRow g A2):=fun W hW ty dc=>by
  have h:=Bj (P:=Tryz.prog) (ty:=ty) (w:=W) (dCap:=dc) (sCap:=xc) (sT:=27) xI hi0 (g:=g) (o:=i*4) (dLen:=n+m-i) (sLen:=m) (arr:=A1) (ad:=ad) (cs:=vs) (by rw[hW];exact hg1 w.drew rfl)
   (by rw[hvl,hz3,tJ Om]) (fun j v hj=>by
    have h:=hvs j v hj
    have hb:(ad.add j).block=ad.block:=by unfold Addr.add;split<;>rfl
    have h2:=cell_setRow_other w.drew g A1 (ad.add j) (by rw[hb];exact hne)
    simp only[World.cell?,hW]at h h2⊢
    rw[h2];exact h) (by rw[hvl,hs1,has];omega) h1v
  rw[<-hA2,show Nat.min m (n+m-i)=m from tJ Om]at h;exact h
 have hend:kR w (some g) 142 4 (n+m) (cs.take (i*4)++vs++cs.drop (i*4)) (.slice (some ⟨g,0,none⟩) (n+m) c) ((w.drew.setRow g A1).setRow g A2):=by
  refine⟨Ak _ (Ak _ (OH (Hu w _)) (.inl rfl) A1) (.inl rfl) A2,g,c,A2,rfl,setRow_heap _ g A1 A2 _ _ (hg1 w.drew rfl),hroom,hc,by rw[hs2,has],?_,.inl rfl⟩;have e1:arr.toList.take (i*4)=cs.take (i*4):=by rw[<-htk,uA];congr 1;omega
  have e2:A1.toList.take (i*4)=arr.toList.take (i*4):=by rw[hA1];simp only[bZ];rw[axk (by simp only[bI,iQ,has];omega),uA];congr 1;omega
  have e3:(A1.toList.drop (i*4+vs.length)).take ((n-i)*4)=cs.drop (i*4):=by
   rw[hA1,hvl,show i*4+m*4=(i+m)*4 by omega,bZ];show List.take _ (List.drop _ (_++_))=_;have hl:(arr.toList.take ((i+m)*4)).length=(i+m)*4:=by simp only[bI,iQ,has];omega
   rw[List.drop_append_of_le_length (by rw[hl];exact az _),BF (by rw[hl];exact az _),iY];rw[<-hdl];exact pq
  rw[hA2,<-e1,<-e2,<-e3];have hl:(A1.toList.take (i*4)).length=i*4:=by simp only[bI,iQ,hs1,has];omega
  show List.take _ (A1.toList.take (i*4)++vs++_)=_;rw[Gt,oz (by simp only[aN,hl,hvl];omega)];congr 2;simp only[aN,hl,hvl];omega
 have hz1:¬((m:Int)=0):=Om
 have hz2:¬((i:Int)=(n:Int)):=Om
 have hw1:IntKind.i64.wrap ((i:Int)+(m:Int))=(i:Int)+(m:Int):=by rw[IntKind.wrap_i64];omega
 have hw2:IntKind.i64.wrap ((n:Int)+(m:Int))=(n:Int)+(m:Int):=by rw[IntKind.wrap_i64];omega
 have hb1:(0:Int)<=(i:Int)+(m:Int):=Om
 have hin:i<=n:=Om
 have htn:((i:Int)+(m:Int)).toNat=i+m:=Om
 have hb2:¬(c=i+m):=Om
 have hb3:(i:Int)<=(n:Int)+(m:Int):=Om
 have hb4:¬(c=i):=Om
 have mixed:=yQ
 clear hA1 hA2 hs1 hs2 hrow hcl htk has hdl hvl hcell hg1
 go_enter Tryz.func286,Tryz.ntmps286
 go_wp2_with (simp only[hov])
 go_region_law_o (refine step_copy_runI rfl _ _ 27 27 rfl _ _ (by simp[Act.eval,Act.put]) (by simp[Act.eval,Act.put]) (hcp1 _ _ _) ?_)
 go_wp2_with (at_builtin;refine wpList_copy_runI _ rfl _ _ 27 27 rfl _ _ rfl rfl (hcp2 _ rfl _ _) ?_)
 go_ret
 exact⟨_,rfl,hend⟩
def VF{w W:World}{o:Option Nat}{e:TypeId}{n cap:Nat}{cells:List Value}{A:Array Value}(h1:W.os=w.os)(h2:W.tape=w.tape)(h3:W.output=w.output)(h4:w.drawn<=W.drawn)(h5:w.heap.size<=W.heap.size)(h:∀k,k<w.heap.size->W.heap[k]?=w.heap[k]?)
  (a:W.heap[w.heap.size]?=some (.cells A e (0,0))) (c:n<=cap) (b:cap<=maxLen) (d:A.size=cap*4) (f:A.toList.take (n*4)=cells):kR w o e 4 n cells (.slice (some ⟨w.heap.size,0,none⟩) n cap) W :=
 ⟨⟨h1,h2,h3,h5,fun k hk _=>h k hk,h4⟩,w.heap.size,cap,A,rfl,a,c,b,d,f,.inr (az _)⟩
def akC(g n c m xc:Nat)(arr:Array Value)(cs vs:List Value)(ad:Addr)(w:World)(hm:0<m)(h:n+m<=c)(y:c<=9223372036854775807)(hg:w.heap[g]?=some (.cells arr 142 (0,0)))
  (has:arr.size=c*4) (f:arr.toList.take (n*4)=cs) (a:vs.length=m*4) (r:∀j v,vs[j]?=some v->w.cell? (ad.add j)=some v) (p:∀v∈vs,v.oneCell'=true) :
  Calls Tryz.prog 286 #[.slice (some ⟨g,0,none⟩) n c,.int .i64 n,.slice (some ad) m xc] w fun e w'=>∃u,e = .returned u/\kR w (some g) 142 4 (n+m) (cs++vs) u w':=by
 obtain⟨s,z,q,G,F,b,E,x⟩:=pW Ls
 have i:cs.length=n*4:=by rw[<-f,bI,iQ,has];omega
 have d:Src Tryz.prog s.size 27 (.slice (some ad) m xc) m vs w:=Src.ofSlice w xI ad m xc vs (by rw[a,b]) r p
 obtain⟨A,hA⟩:∃A,A=(arr.toList.take (n*s.size)++vs++arr.toList.drop (n*s.size+vs.length)).toArray:=⟨_,rfl⟩
 have l:∀ty,(Builtin.append_ #[27,27] ty #[.slice (some ⟨g,0,none⟩) n c,.slice (some ad) m xc]).run Tryz.prog w = .ok (.slice (some ⟨g,0,none⟩) (n+m) c) (w.setRow g A):=fun ty=>by rw[hA];exact IA (P:=Tryz.prog) (ty:=ty) xI q hg d h (by rw[b,a,has];omega)
 have k:kR w (some g) 142 4 (n+m) (cs++vs) (.slice (some ⟨g,0,none⟩) (n+m) c) (w.setRow g A):=by
  refine⟨Ak _ (Hu w _) (.inl rfl) A,g,c,A,rfl,setRow_heap _ g arr A _ _ hg,h,y,?_,?_,.inl rfl⟩
  .rw[hA,b];simp only[ou,aN,bI,eH,iQ,a,has];omega
  .rw[hA,b,f];show List.take _ (cs++vs++_)=_;rw[show(n+m)*4=(cs++vs).length by rw[aN,i,a];omega];exact pq
 have C:¬((m:Int)=0):=Om
 have t:=yQ
 clear hA d f has a i
 go_enter Tryz.func286,Tryz.ntmps286
 go_wp2_with (at_builtin;refine Lib.wpList_append_run _ rfl _ _ _ _ rfl _ _ rfl rfl _ _ (l _) ?_)
 go_ret
 exact⟨_,rfl,k⟩
def VX(base:Option Addr)(n c m xc:Nat)(cs vs:List Value)(ad:Addr)(w:World)(hm:0<m)(hnc:n<=c)(hroom:c<n+m)(hfit:Fits (n+m) 40)(hcl:cs.length=n*4)(hnil:base=none->n=0)
  (hcs:∀a,base=some a->∀j v,cs[j]?=some v->w.cell? (a.add j)=some v) (hvl:vs.length=m*4) (hvs:∀j v,vs[j]?=some v->w.cell? (ad.add j)=some v) (h1v:∀v∈vs,v.oneCell'=true) (o:Option Nat) :
  Calls Tryz.prog 286 #[.slice base n c,.int .i64 n,.slice (some ad) m xc] w fun e w'=>∃u,e = .returned u/\kR w o 142 4 (n+m) (cs++vs) u w':=by
 obtain⟨i0,z,hi0,hz,hzs,hz3,hzb,hpos⟩:=pW Ls
 have hsrc:Src Tryz.prog i0.size 27 (.slice (some ad) m xc) m vs w:=Src.ofSlice w xI ad m xc vs (by rw[hvl,hz3]) hvs h1v
 have hold:(Builtin.firstCells i0.size n (.slice base n c)).run Tryz.prog w.drew = .ok cs.toArray w.drew:=by
  cases base with
  |none =>have h0:=hnil rfl;subst h0;have hc0:cs=[]:=kJ (by simpa using hcl);rw[hc0];exact run_firstCells_none w.drew _ 0 0 c
  |some a=>exact run_firstCells_some w.drew i0.size n a n c cs (by rw[hcl,hz3]) (fun j v hj=>hcs a rfl j v hj)
 obtain⟨hf1,hf2⟩:=hfit
 have hrun:∀ty,(Builtin.append_ #[27,27] ty #[.slice base n c,.slice (some ad) m xc]).run Tryz.prog w = .ok (.slice (some ⟨w.heap.size,0,none⟩) (n+m) (grownCap w (n+m) c 142)) (w.drew.alloc (iJ w cs vs (n+m) c 142 z)):=fun ty =>
  run_append_grow_src (P:=Tryz.prog) w 27 27 ty 142 i0 z xI hi0 hz base n c cs hold _ m vs hsrc hroom (by simp only[maxLen]at hf1;omega) (by rw[hzb];exact growslice_fits hroom hf2)
 obtain⟨G,hG⟩:∃G,G=grownCap w (n+m) c 142:=⟨_,rfl⟩
 have hge:n+m<=G:=by rw[hG];exact grownCap_ge w _ _ _
 have hgm:G<=maxLen:=by rw[hG];exact grownCap_le_maxLen w _ _ _ hf1
 have hend:kR w o 142 4 (n+m) (cs++vs) (.slice (some ⟨w.heap.size,0,none⟩) (n+m) G) (w.drew.alloc (iJ w cs vs (n+m) c 142 z)):=by
  refine VF (A:=(cs++vs).toArray++Builtin.zeroCells z.cells (grownCap w (n+m) c 142-(n+m))) rfl rfl rfl (by show w.drawn<=w.drawn+1;omega) Aa (fun k hk=>RowKit.Below.heap_alloc _ _ _ (by simpa using hk)) (heap_alloc_new w.drew _) hge hgm ?_ ?_
  .rw[<-hG];simp only[Ri,ou,size_zeroCells,hzs,aN,hcl,hvl];omega
  .rw[IR,show(n+m)*4=(cs++vs).length by rw[aN,hcl,hvl];omega];exact pq
 rw[<-hG]at hrun
 have hz1:¬((m:Int)=0):=Om
 have mixed:=yQ
 clear hsrc hold hG hvl hcl hf1 hf2
 generalize w.drew.alloc (iJ w cs vs (n+m) c 142 z)=W at hrun hend
 go_enter Tryz.func286,Tryz.ntmps286
 cases base with
 |none =>have h0:=hnil rfl;subst h0;go_wp2_with (at_builtin;refine Lib.wpList_append_run _ rfl _ _ _ _ rfl _ _ rfl rfl _ _ (hrun _) ?_);go_ret;rw[nM]at hend;exact⟨_,rfl,hend⟩
 |some a =>obtain⟨ab,ao,asp⟩:=a;go_wp2_with (at_builtin;refine Lib.wpList_append_run _ rfl _ _ _ _ rfl _ _ rfl rfl _ _ (hrun _) ?_);all_goals(go_ret;exact⟨_,rfl,hend⟩)
def akA(g n c i m xc:Nat)(arr:Array Value)(cs vs:List Value)(ad:Addr)(w:World)(hi:i<n)(hm:0<m)(hnc:n<=c)(hroom:c<n+m)(hfit:Fits (n+m) 40)(hg:w.heap[g]?=some (.cells arr 142 (0,0)))
  (has:arr.size=c*4) (htk:arr.toList.take (n*4)=cs) (hvl:vs.length=m*4) (hvs:∀j v,vs[j]?=some v->w.cell? (ad.add j)=some v) (hva:∃v,w.cell? ad=some v)
  (h1c:∀v∈cs,v.oneCell'=true) (h1v:∀v∈vs,v.oneCell'=true) (o:Option Nat) :
  Calls Tryz.prog 286 #[.slice (some ⟨g,0,none⟩) n c,.int .i64 i,.slice (some ad) m xc] w fun e w'=>∃u,e = .returned u/\kR w o 142 4 (n+m) (cs.take (i*4)++vs++cs.drop (i*4)) u w':=by
 obtain⟨i0,z,hi0,hz,hzs,hz3,hzb,hpos⟩:=pW Ls
 have hcl:cs.length=n*4:=by rw[<-htk,bI,iQ,has];omega
 have hrow:Row w g 0 cs:=⟨arr,_,_,hg,by rw[hcl];simpa using htk⟩
 have hdl:(cs.drop (i*4)).length=(n-i)*4:=by rw[eH,hcl];omega
 have hgw:g<w.heap.size:=(lW.1 hg).1
 have haw:ad.block<w.heap.size:=by obtain⟨v,hv⟩:=hva;exact World.block_lt_of_cell? _ _ hv
 obtain⟨hf1,hf2⟩:=hfit
 have hkk:(n:Int)+(m:Int)-(i:Int)=((n+m-i:Nat):Int):=Om
 have hik:i+(n+m-i)=n+m:=Om
 have hold:(Builtin.firstCells i0.size i (.slice (some ⟨g,0,none⟩) i c)).run Tryz.prog w.drew = .ok (cs.take (i*4)).toArray w.drew :=
  run_firstCells_some w.drew i0.size i ⟨g,0,none⟩ i c (cs.take (i*4)) (by rw[bI,hcl,hz3];omega) (fun j v hj=>by
   rw[jO,World.cell?_drew]
   rw[aat]at hj
   split at hj
   .exact hrow.cell hj
   .cases hj)
 obtain⟨G,hG⟩:∃G,G=grownCap w (n+m) c 142:=⟨_,rfl⟩
 have hge:n+m<=G:=by rw[hG];exact grownCap_ge w _ _ _
 have hgm:G<=maxLen:=by rw[hG];exact grownCap_le_maxLen w _ _ _ hf1
 obtain⟨ROW,hROW⟩:∃ROW:Array Value,ROW=(cs.take (i*4)).toArray++Builtin.zeroCells z.cells (n+m-i)++Builtin.zeroCells z.cells (G-(n+m)):=⟨_,rfl⟩
 have hrz:∀ty,(Builtin.append_ #[27,3] ty #[.slice (some ⟨g,0,none⟩) i c,.int .i64 ((n:Int)+(m:Int)-(i:Int))]).run Tryz.prog w = .ok (.slice (some ⟨w.heap.size,0,none⟩) (n+m) G) (w.drew.alloc (.cells ROW 142)):=fun ty=>by have h:=Lib.run_append_grow_zeros (P:=Tryz.prog) w 27 3 ty 142 i0 z .i64 .i64 xI ZK hi0 hz (some ⟨g,0,none⟩) i c (cs.take (i*4)) hold (n+m-i) Om Om Om (by simp only[maxLen]at hf1;omega) (by rw[hzb];omega) (by rw[hzb,hik];exact growslice_fits hroom hf2);rw[hik,<-hG,<-hROW]at h;rw[hkk];exact h
 have hRs:ROW.size=G*4:=by rw[hROW];simp only[Ri,ou,size_zeroCells,hzs,bI,hcl];omega
 have hRt:ROW.toList.take (i*4)=cs.take (i*4):=by
  rw[hROW,Array.append_assoc,IR];have hl:(cs.take (i*4)).length=i*4:=by rw[bI,hcl];omega
  have:=@pq Value (cs.take (i*4)) (Builtin.zeroCells z.cells (n+m-i)++Builtin.zeroCells z.cells (G-(n+m))).toList;rw[hl]at this;exact this
 obtain⟨N,hN⟩:∃N,N=w.heap.size:=⟨_,rfl⟩
 obtain⟨W1,hW1⟩:∃W1,W1=w.drew.alloc (.cells ROW 142):=⟨_,rfl⟩
 have hWN:W1.heap[N]?=some (.cells ROW 142 (0,0)):=by rw[hW1,hN];exact heap_alloc_new w.drew _
 have hWo:∀k,k<N->W1.heap[k]?=w.heap[k]?:=fun k hk=>by rw[hW1];exact RowKit.Below.heap_alloc _ _ _ (by subst hN;simpa using hk)
 obtain⟨A1,hA1⟩:∃A1,A1=(ROW.toList.take (i*4)++vs++ROW.toList.drop (i*4+vs.length)).toArray:=⟨_,rfl⟩
 obtain⟨A2,hA2⟩:∃A2,A2=(A1.toList.take ((i+m)*4)++cs.drop (i*4)++A1.toList.drop ((i+m)*4+(cs.drop (i*4)).length)).toArray:=⟨_,rfl⟩
 have hs1:A1.size=G*4:=by rw[hA1];simp only[ou,aN,bI,eH,iQ,hvl,hRs];omega
 have hs2:A2.size=G*4:=by rw[hA2];simp only[ou,aN,bI,eH,iQ,hcl,hs1];omega
 have hc1:∀W:World,W.heap=W1.heap->∀x:Addr,x.block<N->W.cell? x=w.cell? x:=fun W hW x hx=>by simp only[World.cell?,hW,hWo _ hx]
 have hc2:∀W:World,W.heap=(W1.setRow N A1).heap->∀x:Addr,x.block<N->W.cell? x=w.cell? x:=fun W hW x hx=>by have h:=setRow_other W1 N x.block A1 Om;simp only[World.cell?,hW,h,hWo _ hx]
 have hab:∀(x:Addr) j,(x.add j).block=x.block:=fun x j=>by unfold Addr.add;split<;>rfl
 have hcpA:∀(W:World),W.heap=W1.heap->∀ty dc,(Builtin.copy_ #[27,27] ty #[.slice (some ⟨N,i*4,none⟩) (n+m-i) dc,.slice (some ad) m xc]).run Tryz.prog W = .ok (goInt ((m:Nat):Int)) (W.setRow N A1):=fun W hW ty dc=>by
  have h:=Bj (P:=Tryz.prog) (ty:=ty) (w:=W) (dCap:=dc) (sCap:=xc) (sT:=27) xI hi0 (g:=N) (o:=i*4) (dLen:=n+m-i) (sLen:=m) (arr:=ROW) (ad:=ad) (cs:=vs) (by rw[hW];exact hWN)
   (by rw[hvl,hz3,tJ Om]) (fun j v hj=>by rw[hc1 W hW _ (by rw[hab,hN];exact haw)];exact hvs j v hj) (by rw[hvl,hRs];omega) h1v
  rw[<-hA1,show Nat.min m (n+m-i)=m from tJ Om]at h;exact h
 have hcpB:∀(W:World),W.heap=(W1.setRow N A1).heap->∀ty dc sc,(Builtin.copy_ #[27,27] ty #[.slice (some ⟨N,(i+m)*4,none⟩) (n+m-(i+m)) dc,.slice (some ⟨g,i*4,none⟩) (n-i) sc]).run Tryz.prog W = .ok (goInt ((n-i:Nat):Int)) (W.setRow N A2):=fun W hW ty dc sc=>by
  have h:=Bj (P:=Tryz.prog) (ty:=ty) (w:=W) (dCap:=dc) (sCap:=sc) (sT:=27) xI hi0 (g:=N) (o:=(i+m)*4) (dLen:=n+m-(i+m)) (sLen:=n-i) (arr:=A1) (ad:=⟨g,i*4,none⟩) (cs:=cs.drop (i*4)) (by rw[hW];exact setRow_heap W1 N ROW A1 _ _ hWN)
   (by rw[hdl,hz3,tJ Om]) (fun j v hj=>by
    rw[hc2 W hW _ (by rw[hab,hN];exact hgw),jO]
    rw[LZ]at hj
    have h:=hrow.cell hj
    simpa using h) (by rw[hdl,hs1];omega) (fun v hv=>h1c v (BG hv))
  rw[<-hA2,show Nat.min (n-i) (n+m-(i+m))=n-i from tJ Om]at h;exact h
 have hend:∀W:World,W.os=w.os->W.tape=w.tape->W.output=w.output->w.drawn<=W.drawn->W.heap=((W1.setRow N A1).setRow N A2).heap->kR w o 142 4 (n+m) (cs.take (i*4)++vs++cs.drop (i*4)) (.slice (some ⟨N,0,none⟩) (n+m) G) W:=by
  intro W h1 h2 h3 h4 h5;subst hN;refine VF (A:=A2) h1 h2 h3 h4 (by rw[h5];simp[hW1]) (fun k hk=>by rw[h5,setRow_other _ _ _ _ Om,setRow_other _ _ _ _ Om,hWo k hk]) (by rw[h5];exact setRow_heap _ _ A1 A2 _ _ (setRow_heap W1 _ ROW A1 _ _ hWN)) hge hgm hs2 ?_;have e1:A1.toList.take ((i+m)*4)=cs.take (i*4)++vs:=by rw[hA1,hRt];show List.take _ (cs.take (i*4)++vs++_)=_;rw[show(i+m)*4=(cs.take (i*4)++vs).length by rw[aN,bI,hcl,hvl];omega];exact pq
  rw[hA2,e1];show List.take _ (cs.take (i*4)++vs++cs.drop (i*4)++_)=_;rw[show(n+m)*4=(cs.take (i*4)++vs++cs.drop (i*4)).length by rw[aN,aN,bI,hcl,hvl,hdl];omega];exact pq
 have hz1:¬((m:Int)=0):=Om
 have hz2:¬((i:Int)=(n:Int)):=Om
 have hz3':(c:Int)<(n:Int)+(m:Int):=Om
 have hw1:IntKind.i64.wrap ((i:Int)+(m:Int))=(i:Int)+(m:Int):=by rw[IntKind.wrap_i64];simp only[maxLen]at hf1;omega
 have hw2:IntKind.i64.wrap ((n:Int)+(m:Int))=(n:Int)+(m:Int):=by rw[IntKind.wrap_i64];simp only[maxLen]at hf1;omega
 have hw3:IntKind.i64.wrap ((n:Int)+(m:Int)-(i:Int))=(n:Int)+(m:Int)-(i:Int):=by rw[IntKind.wrap_i64];simp only[maxLen]at hf1;omega
 have hb1:(0:Int)<=(i:Int)+(m:Int):=Om
 have hin:i<=n:=Om
 have hic:(i:Int)<=(c:Int):=Om
 have htn:((i:Int)+(m:Int)).toNat=i+m:=Om
 have hb3:(i:Int)<=(n:Int):=Om
 have hb5:(i:Int)<=(n:Int)+(m:Int):=Om
 have hGi:¬(G=i):=Om
 have hGim:¬(G=i+m):=Om
 have hci:¬(c=i):=Om
 have mixed:=yQ
 rw[<-hW1,<-hN]at hrz
 have hdw:w.drawn<=W1.drawn:=by rw[hW1];show w.drawn<=w.drawn+1;omega
 have hos:W1.os=w.os:=by rw[hW1];rfl
 have htp:W1.tape=w.tape:=by rw[hW1];rfl
 have hou:W1.output=w.output:=by rw[hW1];rfl
 clear hkk hik hold hROW hG hRs hRt hA1 hA2 hs1 hs2 hrow hcl htk has hdl hvl hc1 hc2 hWN hWo hab hN hW1 hf1 hf2 hgm
 go_enter Tryz.func286,Tryz.ntmps286
 go_wp2_with (first
  |(at_builtin;refine Lib.wpList_append_run _ rfl _ _ _ _ rfl _ _ rfl rfl _ _ (hrz _) ?_)
  |(at_builtin;refine wpList_copy_runI _ rfl _ _ 27 27 rfl _ _ rfl rfl (hcpA _ rfl _ _) ?_))
 go_region_law_o (refine step_copy_runI rfl _ _ 27 27 rfl (.slice (some ⟨N,(i+m)*4,none⟩) (n+m-(i+m)) (G-(i+m))) (.slice (some ⟨g,i*4,none⟩) (n-i) (c-i)) (by simp[Act.eval,Act.put]) (by simp[Act.eval,Act.put]) (hcpB (W1.setRow N A1).drew rfl 3 (G-(i+m)) (c-i)) ?_)
 go_wp2
 go_ret
 exact⟨_,rfl,hend _ hos htp hou (by show w.drawn<=W1.drawn+1;omega) rfl⟩
def aft:oI Tryz.prog 286=true:=Za
def awZ:∀(w:World) (o:Option Nat) (n cap i:Nat) (cells vs:List Value) (ad:Addr) (xc:Nat),i<=n->InsArg Tryz.prog w o 142 4 40 n cap cells vs ad xc ->
   Calls Tryz.prog 286 #[.slice (o.map fun g=>⟨g,0,none⟩) n cap,.int .i64 i,.slice (some ad) 1 xc] w fun e' w'=>∃u,e' = .returned u/\kR w o 142 4 (n+1) (cells.take (i*4)++vs++cells.drop (i*4)) u w':=by
 rintro w o n cap i cells vs ad xc L ⟨d,E,A,s,G,N,f,r,m,k,M⟩
 have c:vs.length=1*4:=G
 have F:∃v,w.cell? ad=some v:=by
  have C:0<vs.length:=Om;have h:=f 0 vs[0] (by rw[dY C]);have H:ad.add 0=ad:=by obtain⟨b,of,P⟩:=ad;simp only at A;subst A;rw[jO];rfl
  rw[H]at h;exact⟨_,h⟩
 rcases au i n with x|K
 .rcases d with⟨_,C,_⟩|⟨g,arr,rfl,hg,q,p,has,l,y⟩
  .omega
  .rcases au cap (n+1)with h|h
   .exact akA g n cap i 1 xc arr cells vs ad w x Om q h k hg has l c f F r m (some g)
   .exact akE g n cap i 1 xc arr cells vs ad w x Om h p hg has l y E c f r m
 .have t:i=n:=Om;subst t;have I:cells.take (i*4)=cells:=oz Om;have J:cells.drop (i*4)=[]:=BF Om;rw[I,J,gV];rcases d with⟨rfl,C,h1,h2⟩|⟨g,arr,rfl,hg,q,p,has,l,y⟩
  .subst C;subst h1;subst h2;exact VX none 0 0 1 xc [] vs ad w Om Om Om k Aa (fun _=>rfl) (fun a h=>by cases h) c f m none
  .rcases au cap (i+1)with h|h
   .refine VX (some ⟨g,0,none⟩) i cap 1 xc cells vs ad w Om q h k s (fun h=>by cases h) (fun a ha j v hj => ?_) c f m (some g);cases ha
    rw[jO];have d:Row w g 0 cells:=⟨arr,_,_,hg,by rw[s];simpa using l⟩;exact d.cell hj
   .exact akC g i cap 1 xc arr cells vs ad w Om h p hg has l c f m
def aw1(e:Nat->V)(bx:BX)(n:Nat)(h:Nat->V)(id:Nat)(xs:List V)(x:V)(t:Tag)(i:Nat)(hid:id<n)(hi:i<=xs.length)(hf:Fits (xs.length+1) 40)(b:t = .fz\/∃j a,t = .own j a/\j≠id) :
  Gxz 286 [.sl (.own id 142) 4 xs,.c (.int .i64 (i:Int)),.sl t 4 [x]] ⟨e,bx,n,h⟩ ⟨bD (aF id) e,df (aF id) bx,n,bD (aF id) h⟩ (.sl (.own id 142) 4 (xs.take i++[x]++xs.drop i)):=by
 have key:∀s:St,Gxz 286 [.sl (.own id 142) 4 xs,.c (.int .i64 (i:Int)),.sl t 4 [x]] s {s.mapV (aF id)with nid:=max s.nid (id+1)} (.sl (.own id 142) 4 (xs.take i++[x]++xs.drop i)):=fun s=>by refine VI (bytes:=40) aft dX ?_ id xs x t b i s hi hf;exact@awZ
 have k:=key ⟨e,bx,n,h⟩
 have hm:max n (id+1)=n:=Om
 simp only[hm]at k
 exact k
end Go.Proofs.YtopbmdnbdpjheaaGreat
namespace Go.Proofs.YtopbmdnbdpjheaaGreat
open Go Go.Pg
def aan(e:Nat->V)(bx:Bx)(n:Nat)(h:Nat->V)(g:FuncId)(cs:List V)(p:Bd->Bool)(l:List Bd)(hl:l.length<=1000000)
  (b:∀i,i<l.length->∀e h,Gxz g (.agg (bdF (l.getD i bd0))::cs) ⟨e,bx,n,h⟩ ⟨e,bx,n,h⟩ (vb (p (l.getD i bd0)))) :
  Gxz 285 [.sl .fz 4 (aS l),.fn g [] cs] ⟨e,bx,n,h⟩ ⟨e,bx,n,h⟩ (vi (ixP p l 0)):=by
 generalize f:ixP p l 0=E
 refine gZ oW ?_
 (repeat' first|refine wQ (Ad @aK @aH @aG @aj.{0,0}) ?_|refine tS ?_ ?_<;>intro c|fail)
 refine rF (fun i:Nat=>[(0,.sl .fz 4 (aS l)),(1,.fn g [] cs),(7,vi l.length),(8,vi i)]) (fun _=>bx) (fun _=>n) (fun _=>bM e h) (fun i=>i<=l.length/\ixP p (l.drop i) i=E) (fun i=>l.length-i) 0 ?_ (fun _=>.inl rfl) (az _) rfl ⟨ax _,f⟩ ?_
 .exact eE
 .rintro i ⟨hi,he⟩;rcases au i l.length with a|j
  .have hg:=jZ l i a;have b:=b i a;rw[V3 p bd0 l i a]at he;cases d:p (l.getD i bd0)
   .rw[d]at b he;rw[ag Aa]at he;(repeat' first|refine wQ (Ad @aj.{0,0} @hg @aH @aG) ?_|refine cY (b _ _) ?_|refine tS ?_ ?_<;>intro c|fail);refine qo (i+1) ⟨a,he⟩ Om ?_ (fun _=>.inl rfl) (az _) rfl;((try simp only[lu,lw,jQ,kW,pgo,simprocAttr,jb,lN]);try(repeat'(first|exact ae|rfl|apply aI)))
   .rw[d]at b he;rw[ah rfl]at he;subst he;(repeat' first|refine wQ (Ad @aj.{0,0} @hg @aH @aG) ?_|refine cY (b _ _) ?_|refine tS ?_ ?_<;>intro c|fail);(refine iL (by first|rfl|skip) (by first|omega|skip))
  .have:i=l.length:=Om;subst this;rw[jM]at he;have he : -1=E:=he;subst he;(repeat' first|refine wQ (Ac @aj.{0,0} @aH @aG) ?_|refine tS ?_ ?_<;>intro c|fail);(refine iL (by first|rfl|skip) (by first|omega|skip))
def Rh(e:Nat->V)(bx:Bx)(n:Nat)(h:Nat->V)(g:FuncId)(cs:List V)(p:Bd->Bool)(l:List Bd)(hl:l.length<=1000000)
  (a:∀i,i<l.length->∀e h,Gxz g (.agg (bdF (l.getD i bd0))::cs) ⟨e,bx,n,h⟩ ⟨e,bx,n,h⟩ (vb (p (l.getD i bd0)))) :
  Gxz 205 [.sl .fz 4 (aS l),.fn g [] cs] ⟨e,bx,n,h⟩ ⟨e,bx,n,h⟩ (vb (decide (0<=ixP p l 0))):=by
 have k:=fun e h=>aan e bx n h g cs p l hl a
 refine gZ oW ?_
 (repeat' first|refine wQ (Ac @aK @aH @aG) ?_|refine aU _ (k _ _) rfl ?_|refine tS ?_ ?_<;>intro b|fail)
 refine bC (aW _ _ _) ?_
 rw[aP,aQ]
def OM{α:Type}(p:α->Bool)(d:α):∀(l:List α) (i:Nat),(∀j,j<l.length->p (l.getD j d)=false)->ixP p l i = -1
 |[],_,_=>rfl
 |x::r,i,h=>by unfold ixP;have a:=h 0 Aa;rw[ag (by rw[show x=(x::r).getD 0 d from rfl,a];simp)];exact OM p d r (i+1) fun j hj=>h (j+1) (by simp;omega)
def aw8(c:Nat)(k:Int)(x:Bd)(e:Nat->V)(bx:Bx)(n:Nat)(h:Nat->V)(hb:bx c=some (3,[vi k]))(f:c<n)(h1:x.f<=k)(h2:x.t<=k):Gxz 284 [.agg (bdF x),.ref c 0] ⟨e,bx,n,h⟩ ⟨e,bx,n,h⟩ (vb false):=by
 refine GoodZ.rdc (only ([c]) bx) (fun m y hx => ?_) ?_ e bx h (fun b x hb=>(iC hb).2)
 .obtain⟨h1,h2⟩:=iC hx;rw[jX.1 h1,hb]at h2;cases h2
  intro v hv;rw[jX.1 hv];rfl
 intro e bx' h p hB q hx;have a:=yU hx (jX.2 rfl) hb;have d:(c=n)=False:=eq_false Om;obtain⟨i,j,g,l⟩:=x;refine⟨n+1,upd bx' n (some (142,[vs i,vi j,vi g,vi l])),fun k hk=>aV _ _ _ _ Om,?_⟩;simp only at h1 h2;refine gZ oW ?_;(repeat' first|refine wQ (Ae @aK @aH @aG a d) ?_|refine tS ?_ ?_<;>intro f|fail);refine bC (aW _ _ _) ?_;rw[aP,aQ]
def PS(l:List Bd)(c:Int)(hl:l.length<=1000000)(a:xy l c):Gxx 204 [.sl .fz 4 (aS l),vi c] (vb false):=by
 have k:=fun e h=>Rh e (upd (fun _=>none) 0 (some (3,[vi c]))) 1 h 284 [.ref 0 0] (fun _=>false) l hl (fun i hi e h=>aw8 0 c _ e _ 1 h (bW _ _ _) Om (a i hi).1 (a i hi).2)
 rw[OM _ bd0 l 0 (fun _ _=>rfl)]at k;refine gI oW ?_;(repeat' first|refine wO ?_|refine aU _ (k _ _) rfl ?_|refine tS ?_ ?_<;>intro b|fail);exact rE []
def aw9(c:Nat)(k:List Nat)(x:Bd)(e:Nat->V)(bx:Bx)(n:Nat)(h:Nat->V)(hb:bx c=some (9,[vs k]))(j:c<n):Gxz 287 [.agg (bdF x),.ref c 0] ⟨e,bx,n,h⟩ ⟨e,bx,n,h⟩ (vb (decide (sB x.n=sB k/\x.t=0))):=by
 refine GoodZ.rdc (only ([c]) bx) (fun r y hx => ?_) ?_ e bx h (fun b x hb=>(iC hb).2)
 .obtain⟨h1,h2⟩:=iC hx;rw[jX.1 h1,hb]at h2;cases h2
  intro v hv;rw[jX.1 hv];rfl
 intro e bx' h s hB t hx;have a:=yU hx (jX.2 rfl) hb;have d:(c=n)=False:=eq_false Om;obtain⟨i,p,m,l⟩:=x;refine⟨n+1,upd bx' n (some (142,[vs i,vi p,vi m,vi l])),fun k hk=>aV _ _ _ _ Om,?_⟩;simp only;by_cases f:sB i=sB k
 .have q:decide (sB i=sB k)=true:=eU f;by_cases g:l=0
  .rw[eU ⟨f,g⟩];refine gZ oW ?_;(repeat' first|refine wQ (Ag @aK @aH @aG a d q g) ?_|refine tS ?_ ?_<;>intro j|fail);refine bC (aW _ _ _) ?_;rw[aP,aQ]
  .rw[dK (fun h=>g h.2)];refine gZ oW ?_;(repeat' first|refine wQ (Ag @aK @aH @aG a d q g) ?_|refine tS ?_ ?_<;>intro j|fail);refine bC (aW _ _ _) ?_;rw[aP,aQ]
 .have q:decide (sB i=sB k)=false:=dK f;rw[dK (fun h=>f h.1)];refine gZ oW ?_;(repeat' first|refine wQ (Af @aK @aH @aG a d q) ?_|refine tS ?_ ?_<;>intro j|fail);refine bC (aW _ _ _) ?_;rw[aP,aQ]
def V4(k:List Nat):∀(l:List Bd) (i:Nat),ixP (fun x=>decide (sB x.n=sB k/\x.t=0)) l i=opA k l i
 |[],_=>rfl
 |x::r,i=>by
  unfold ixP opA;by_cases h:sB x.n=sB k/\x.t=0
  .rw[ah (eU h),ah h]
  .rw[ag (by simpa using h),ag h];exact V4 k r (i+1)
def PT(l:List Bd)(k:List Nat)(hl:l.length<=1000000):Gxx 219 [.sl .fz 4 (aS l),vs k] (vi (opA k l 0)):=by
 have a:=fun e h=>aan e (upd (fun _=>none) 0 (some (9,[vs k]))) 1 h 287 [.ref 0 0] (fun x=>decide (sB x.n=sB k/\x.t=0)) l hl (fun i hi e h=>aw9 0 k _ e _ 1 h (bW _ _ _) Om)
 rw[V4]at a;refine gI oW ?_;(repeat' first|refine wO ?_|refine aU _ (a _ _) rfl ?_|refine tS ?_ ?_<;>intro b|fail);exact rE []
def SA:∀a b:List UInt8,Op.bytesLess a b=true->Op.bytesLess b a=false
 |[],[],h=>by simp[Op.bytesLess]at h
 |[],_::_,_=>rfl
 |_::_,[],h=>by simp[Op.bytesLess]at h
 |x::a,y::b,h=>by have i:=SA a b;simp only[Op.bytesLess]at h⊢;grind
theorem V8{a b:List Nat}(h:kl a b=true):kl b a=false:=SA _ _ h
def ao2(a b:Bd)(h:(a.t≠0/\a.t<=b.f)\/(b.t≠0/\b.t<=a.f)):Gxx 283 [.agg (bdF a),.agg (bdF b)] (vb false):=by
 obtain⟨g,i,c,at'⟩:=a;obtain⟨bn,bo,f,bt⟩:=b;simp only at h;by_cases q:at'=0
 .have h2:bt≠0/\bt<=c:=Om;obtain⟨h2,h3⟩:=h2;refine gI oW ?_;(repeat' first|refine wQ q ?_|refine tS ?_ ?_<;>intro d|fail);exact rE []
 .by_cases j:f<at'
  .have h2:bt≠0/\bt<=c:=Om;obtain⟨h2,h3⟩:=h2;refine gI oW ?_;(repeat' first|refine wQ q ?_|refine tS ?_ ?_<;>intro d|fail);exact rE []
  .refine gI oW ?_;(repeat' first|refine wQ q ?_|refine tS ?_ ?_<;>intro d|fail);exact rE []
def PP(l:List Bd)(hl:l.length<=100000)(hv:vBd l):Gxx 203 [.sl .fz 4 (aS l)] (vi 0):=by
 refine gI oW ?_;(repeat' first|refine wQ @aj.{0,0} ?_|refine tS ?_ ?_<;>intro c|fail);refine aJ (fun i:Nat=>mkA [(0,.sl .fz 4 (aS l)),(10,.sl .fz 4 (aS l)),(11,vi l.length),(12,vi i)] [] 0 (fun _=>.top)) (fun i=>i<=l.length) (fun i=>l.length-i) 0 [] [] ?_ (ax _) ?_
 .exact kX
 .rintro i hi;rcases au i l.length with h|y
  .have hg:=jZ l i h;obtain⟨⟨⟨F,h1⟩,h2,h3,h4,h5⟩,g,L⟩:=hv i h;have j:=yC (l.getD i bd0).n F;rw[h1]at j;generalize l.getD i bd0=b at *;obtain⟨bn,bo,x,bt⟩:=b;simp only at hg F h1 h2 h3 h4 h5 j;rcases gG i with C|C
   .subst C;rcases h5 with h5|h5
    ·(repeat' first|refine wP (aI @aj.{0,0} @hg) j ?_|refine tS ?_ ?_<;>intro c|fail);exact bX (0+1) [] [] h
    .have G:bt≠0:=Om;(repeat' first|refine wP (aI @aj.{0,0} @hg) j ?_|refine tS ?_ ?_<;>intro c|fail);exact bX (0+1) [] [] h
   .have f:=jZ l (i-1) Om;have m:((i:Int)-1).toNat=i-1:=Om;have g:=g C;generalize l.getD (i-1) bd0=a at *;obtain⟨r,v,E,at'⟩:=a;unfold Fh at g;simp only at f g;rcases g with⟨g,u⟩|⟨g,u,H,I,J⟩
    .have s:kl bn r=false:=V8 g;have t:decide (sB bn=sB r)=false:=dK (fun e=>u e.symm);rcases h5 with h5|h5
     ·(repeat' first|refine wP (Ag @aj.{0,0} @hg f m @iO s t) j ?_|refine tS ?_ ?_<;>intro c|fail);exact bX (i+1) [] [] h
     .have G:bt≠0:=Om;(repeat' first|refine wP (Ag @aj.{0,0} @hg f m @iO s t) j ?_|refine tS ?_ ?_<;>intro c|fail);exact bX (i+1) [] [] h
    .have s:kl bn r=false:=by unfold kl at u⊢;rw[<-g]at u⊢;exact u
     have t:decide (sB bn=sB r)=true:=eU g.symm;rcases h5 with h5|h5
     ·(repeat' first|refine wP (Ag @aj.{0,0} @hg f m @iO s t) j ?_|refine tS ?_ ?_<;>intro c|fail);exact bX (i+1) [] [] h
     .have G:bt≠0:=Om;(repeat' first|refine wP (Ag @aj.{0,0} @hg f m @iO s t) j ?_|refine tS ?_ ?_<;>intro c|fail);exact bX (i+1) [] [] h
  .have:i=l.length:=Om;subst this;(repeat' first|refine wQ @aj.{0,0} ?_|refine tS ?_ ?_<;>intro c|fail);refine aJ (fun i:Nat=>mkA [(0,.sl .fz 4 (aS l)),(86,.sl .fz 4 (aS l)),(87,vi l.length),(88,vi i)] [] 0 (fun _=>.top)) (fun i=>i<=l.length) (fun i=>l.length-i) 0 [] [] ?_ (ax _) ?_
   .exact kX
   .rintro i hi;rcases au i l.length with h|y
    .have hg:=jZ l i h;have d:=(hv i h).2.2;have A:slV Tryz.prog 27 (.sl .fz 4 (aS l)) none (some (vi i))=some (.sl .fz 4 ((aS l).take i)):=by rw[QB _ _ _ _ _ _ Om (by rw[aj];omega),ah Za,fC]
     have q:((aS l).take i).length=i:=by rw[bI,aj];omega
     generalize hb:l.getD i bd0=b at *;obtain⟨bn,bo,x,bt⟩:=b;(repeat' first|refine wQ (Ad @aj.{0,0} @hg A q) ?_|refine tS ?_ ?_<;>intro c|fail);refine aJ (fun k:Nat=>mkA [(0,.sl .fz 4 (aS l)),(7,.ref 0 0),(86,.sl .fz 4 (aS l)),(87,vi l.length),(88,vi i),(95,.sl .fz 4 ((aS l).take i)),(96,vi i),(97,vi k)] [(0,(142,[vs bn,vi bo,vi x,vi bt]))] 1 (fun _=>.top)) (fun k=>k<=i) (fun k=>i-k) 0 [] [0] ?_ (ax _) ?_
     .exact kX
     .rintro k hk;rcases au k i with n|K
      .have p:((aS l).take i)[k]?=some (.agg [vs (l.getD k bd0).n,vi (l.getD k bd0).o,vi (l.getD k bd0).f,vi (l.getD k bd0).t]):=by rw[List.getElem?_take_of_lt n];exact jZ l k Om
       have d:=d k n;generalize l.getD k bd0=a at *;unfold D9 at d;obtain⟨r,v,E,at'⟩:=a;simp only at p d;by_cases ho:v=bo
       .have j:=ao2 ⟨r,v,E,at'⟩ ⟨bn,bo,x,bt⟩ (d ho);subst ho;(repeat' first|refine wP (aI q p) j ?_|refine tS ?_ ?_<;>intro c|fail);exact bX (k+1) [] [0] n
       ·(repeat' first|refine wQ (Ac q p @ho) ?_|refine tS ?_ ?_<;>intro c|fail);exact bX (k+1) [] [0] n
      .have:k=i:=Om;subst this;(repeat' first|refine wO ?_|refine tS ?_ ?_<;>intro c|fail);exact bX (k+1) [] [] h
    .have:i=l.length:=Om;subst this;(repeat' first|refine wQ @aj.{0,0} ?_|refine tS ?_ ?_<;>intro c|fail);exact rE []
def uB(x:List Nat):List UInt8:=(sB x).data.toList
theorem akV(a b:List Nat):kl a b=decide (uB a<uB b):=by unfold kl;rw[Go.Proofs.bytesLess_eq,Lib.toList_data,Lib.toList_data];rfl
def SE{α:Type}(lt:α->α->Bool)(x:α)(d:List α):∀c:List α,(∀y∈c,lt x y=true)->fH lt x (c++d)=c++fH lt x d
 |[],_=>rfl
 |y::c,h=>by show fH lt x (y::(c++d))=_;rw[fH,ah (h y Aa),SE lt x d c fun z a=>h z (by simp[a])];rfl
def ajM{α:Type}(lt:α->α->Bool)(x:α)(l:List α)(d:α)(p:Nat)(hp:p<=l.length)(h1:∀i,p<=i->i<l.length->lt x (l.getD i d)=true)(h2:0<p->lt x (l.getD (p-1) d)=false) :
  (fH lt x l.reverse).reverse=l.take p++[x]++l.drop p:=by
 have e:l.reverse=(l.drop p).reverse++(l.take p).reverse:=by rw[<-List.reverse_append,Mc]
 rw[e,SE lt x _ _ fun y b=>by obtain⟨i,hi,rfl⟩:=D5.1 (aav.1 b);rw[List.getElem_drop];rw[eH]at hi;have:=h1 (p+i) Om Om;rwa [gW,dY Om]at this]
 have a:fH lt x (l.take p).reverse=x::(l.take p).reverse:=by
  rcases gG p with rfl|h
  .rfl
  .have c:l.take p=l.take (p-1)++[l.getD (p-1) d]:=by grind[List.getElem?_eq_getElem,List.take_append_getElem]
   grind[fH]
 rw[a]
 simp
theorem FZ{a b:List Nat}:sB a=sB b↔uB a=uB b:=by grind[uB,sB]
theorem Hy{a b:List Nat}:kl a b=true↔uB a<uB b:=by grind[akV]
theorem EW{x y:Bd}:ltB x y=true↔(uB x.n<uB y.n\/(uB x.n=uB y.n/\x.f<y.f)):=by grind[ltB,Hy,FZ]
theorem WC{x y z:Bd}(h:ltB x y=true)(k:ltB y z=true):ltB x z=true:=by grind[EW]
def alD{x y:Bd}(h:ltB x y=true):ltB y x=false:=by grind[EW]
theorem WB{x y:Bd}(h:ltB x y=false)(hf:x.f≠y.f):ltB y x=true:=by grind[EW,uB]
def anx{a b:Bd}(h:Fh a b):ltB a b=true:=by
 rw[EW];rcases h with⟨h1,h2⟩|⟨h1,h2,h3,_⟩
 .grind[Hy]
 .grind[FZ]
def QV{l:List Bd}(hv:vBd l)(i:Nat):∀j,i<j->j<l.length->ltB (l.getD i bd0) (l.getD j bd0)=true
 |j+1,h,hj=>by
  have h1:=anx ((hv (j+1) hj).2.1 Om);rcases au i j with h2|h2
  .exact WC (QV hv i j h2 Om) h1
  .grind
def ajD{l:List Bd}{x:Bd}(hv:∀i j,i<j->j<l.length->ltB (l.getD i bd0) (l.getD j bd0)=true)(hf:∀i,i<l.length->(l.getD i bd0).f≠x.f)(p:Nat)(hp:p<=l.length)(h1:∀i,i<p->ltB (l.getD i bd0) x=true)(h2:p<l.length->ltB (l.getD p bd0) x=false) :
  jo x l=l.take p++[x]++l.drop p:=by
 refine ajM ltB x l bd0 p hp (fun i a k2 => ?_) (fun k=>alD (h1 _ Om))
 grind[WB,WC]
def ab2(l:List Bd)(x:Bd)(p:Nat):(aS l).take p++[.agg [vs x.n,vi x.o,vi x.f,vi x.t]]++(aS l).drop p=aS (l.take p++[x]++l.drop p):=by simp_all
def zW(x:Bd):List Bd->Nat
 |[]=>0
 |y::l=>if ltB y x=true then zW x l+1 else 0
def UH(x:Bd):∀l:List Bd,zW x l<=l.length/\(∀i,i<zW x l->ltB (l.getD i bd0) x=true)/\(zW x l<l.length->ltB (l.getD (zW x l) bd0) x=false)
 |[]=>⟨az _,fun i h=>(by cases h),fun h=>(by cases h)⟩
 |y::l=>by
  obtain⟨h1,h2,h3⟩:=UH x l;unfold zW;split
  .rename_i h;refine⟨by simp;exact h1,fun i hi => ?_,fun hi=>by simpa using h3 (by simpa using hi)⟩;cases i with
   |zero=>exact h
   |succ i=>simpa using h2 i Om
  .grind
def XO(l:List Bd)(x:Bd)(hl:l.length<=100000)(hv:∀i j,i<j->j<l.length->ltB (l.getD i bd0) (l.getD j bd0)=true)(hf:∀i,i<l.length->(l.getD i bd0).f≠x.f) :
  Gxx 208 [.sl .fz 4 (aS l),.agg (bdF x)] (.sl (.own 0 142) 4 (aS (jo x l))):=by
 obtain⟨F,A,C⟩:=UH x l
 rw[ajD hv hf (zW x l) F A C,<-ab2]
 have s:Fits ((aS l).length+1) 40:=by rw[aj];exact⟨by simp only[maxLen];omega,by omega⟩
 have q:=fun e bx n h id t i hid hi H=>aw1 e bx n h id (aS l) (.agg [vs x.n,vi x.o,vi x.f,vi x.t]) t i hid hi s H
 have y:=Qc l Om
 generalize zW x l=p at *
 obtain⟨r,J,I,K⟩:=x
 simp only at *
 refine gI (fJ [] mix) ?_
 (repeat' first|refine wU @pgE ?_|refine tE ?_ ?_<;>intro c|fail)
 refine aJ (fun i:Nat=>mkA [(0,.sl .fz 4 (aS l)),(3,.ref 0 0),(5,vi i)] [(0,(142,[vs r,vi J,vi I,vi K]))] 1 (fun _=>.top)) (fun i=>i<=p) (fun i=>p-i) 0 [] [0] ?_ (ax _) ?_
 .exact kX
 .rintro i hi;rcases au i p with m|G
  .have hg:=jZ l i Om;have hb:=A i m;generalize l.getD i bd0=b at *;obtain⟨bn,bo,E,bt⟩:=b;simp only[ltB,LV,lL,axm]at hb;have a:((i:Int)<((l.length:Nat):Int))=True:=eq_true Om;by_cases hk:kl bn r=true
   ·(repeat' first|refine wU (Af @pgE @aj.{0,0} @hg @iO @hk a) ?_|refine tE ?_ ?_<;>intro c|fail);exact bX (i+1) [] [0] m
   .obtain⟨k,g⟩:=hb.resolve_left hk;have hk:=Bool.eq_false_iff.2 hk;have f:decide (sB bn=sB r)=true:=eU k;(repeat' first|refine wU (Ag @pgE @aj.{0,0} @hg @iO @hk a f) ?_|refine tE ?_ ?_<;>intro c|fail);exact bX (i+1) [] [0] m
  .have:i=p:=Om;subst this;rcases au i l.length with h4|h4
   .have hg:=jZ l i h4;have hb:=C h4;have v:=hf i h4;generalize l.getD i bd0=b at *;obtain⟨bn,bo,E,bt⟩:=b;simp only[ltB,qh,Bool.and_eq_false_iff,decide_eq_false_iff_not]at hb v;obtain⟨hk,k⟩:=hb;have a:((i:Int)<((l.length:Nat):Int))=True:=eq_true Om;by_cases g:sB bn=sB r
    .have f:decide (sB bn=sB r)=true:=eU g;have u:=k.resolve_left (fun h=>h g);(repeat' first|refine wV @pgE ?_|refine tE ?_ ?_<;>intro c|fail);refine mM _ _ _ _ _ ?_;(repeat' first|refine wV (A8 @pgE @aj.{0,0} a @hg @iO @hk a f u) ?_|refine tE ?_ ?_<;>intro c|fail);refine zt mix (fun d=>bif d == 46 then true else false) [] ?_;(repeat'(first|(simp(disch:=first|exact dqz|fail) only[pgz,simprocAttr,pgF,id_eq.{1},aj])|((with_reducible show eX _ _ _ _ _ _);first|refine cU y ?_|refine aU _ (q _ _ _ _ 1 _ _ dX (by rw[aj];omega) (.inl rfl)) rfl ?_)|(refine tS ?_ ?_<;>intro c)|(with_reducible refine cK ?_)));exact rE [1]
    .have f:decide (sB bn=sB r)=false:=dK g;(repeat' first|refine wV @pgE ?_|refine tE ?_ ?_<;>intro c|fail);refine mM _ _ _ _ _ ?_;(repeat' first|refine wV (Ah @pgE @aj.{0,0} a @hg @iO @hk a f) ?_|refine tE ?_ ?_<;>intro c|fail);refine zt mix (fun d=>bif d == 46 then true else false) [] ?_;(repeat'(first|(simp(disch:=first|exact dqz|fail) only[pgz,simprocAttr,pgF,id_eq.{1},aj])|((with_reducible show eX _ _ _ _ _ _);first|refine cU y ?_|refine aU _ (q _ _ _ _ 1 _ _ dX (by rw[aj];omega) (.inl rfl)) rfl ?_)|(refine tS ?_ ?_<;>intro c)|(with_reducible refine cK ?_)));exact rE [1]
   .have a:((i:Int)<((l.length:Nat):Int))=False:=eq_false Om;(repeat' first|refine wV (Ac @pgE @aj.{0,0} a) ?_|refine tE ?_ ?_<;>intro c|fail);refine mM _ _ _ _ _ ?_;(repeat' first|refine wV (Ac @pgE @aj.{0,0} a) ?_|refine tE ?_ ?_<;>intro c|fail);refine zt mix (fun d=>bif d == 46 then true else false) [] ?_;(repeat'(first|(simp(disch:=first|exact dqz|fail) only[pgz,simprocAttr,pgF,id_eq.{1},aj])|((with_reducible show eX _ _ _ _ _ _);first|refine cU y ?_|refine aU _ (q _ _ _ _ 1 _ _ dX (by rw[aj];omega) (.inl rfl)) rfl ?_)|(refine tS ?_ ?_<;>intro c)|(with_reducible refine cK ?_)));exact rE [1]
def aw6(a b:Nat)(k:List Nat)(o:Int)(x:Bd)(e:Nat->V)(bx:Bx)(n:Nat)(h:Nat->V)(ha:bx a=some (9,[vs k]))(hb:bx b=some (3,[vi o]))(F:a<n)(hm:b<n)(hx:x.t=0->sB x.n≠sB k/\x.o≠o):Gxz 206 [.agg (bdF x),.ref a 0,.ref b 0] ⟨e,bx,n,h⟩ ⟨e,bx,n,h⟩ (vb false):=by
 refine GoodZ.rdc (only ([a,b]) bx) (fun A y hx => ?_) ?_ e bx h (fun b x hb=>(iC hb).2)
 .obtain⟨h1,h2⟩:=iC hx;simp only[fG,BH,sG]at h1;rcases h1 with rfl|rfl
  .rw[ha]at h2;cases h2
   intro v hv;rw[jX.1 hv];rfl
  .rw[hb]at h2;cases h2
   intro v hv;rw[jX.1 hv];rfl
 intro e bx' h C hB E i;have d:=yU i Aa ha;have f:=yU i Aa hb;have g:(a=n)=False:=eq_false Om;have c:(b=n)=False:=eq_false Om;obtain⟨l,u,t,m⟩:=x;refine⟨n+1,upd bx' n (some (142,[vs l,vi u,vi t,vi m])),fun k hk=>aV _ _ _ _ Om,?_⟩;simp only at hx;by_cases j:m=0
 .obtain⟨r,s⟩:=hx j;have q:decide (sB l=sB k)=false:=dK r;refine gZ oW ?_;(repeat' first|refine wQ (A8 @aK @aH @aG d f g c q (aI j s)) ?_|refine tS ?_ ?_<;>intro p|fail);refine bC (aW _ _ _) ?_;rw[aP,aQ]
 .refine gZ oW ?_;(repeat' first|refine wQ (Ah @aK @aH @aG d f g c j) ?_|refine tS ?_ ?_<;>intro p|fail);refine bC (aW _ _ _) ?_;rw[aP,aQ]
def aw7(a b:Nat)(k:List Nat)(o:Int)(x:Bd)(e:Nat->V)(bx:Bx)(n:Nat)(h:Nat->V)(ha:bx a=some (9,[vs k]))(hb:bx b=some (3,[vi o]))(C:a<n)(hm:b<n)(hx:x.f≠o):Gxz 207 [.agg (bdF x),.ref a 0,.ref b 0] ⟨e,bx,n,h⟩ ⟨e,bx,n,h⟩ (vb false):=by
 refine GoodZ.rdc (only ([a,b]) bx) (fun t y hx => ?_) ?_ e bx h (fun b x hb=>(iC hb).2)
 .obtain⟨h1,h2⟩:=iC hx;simp only[fG,BH,sG]at h1;rcases h1 with rfl|rfl
  .rw[ha]at h2;cases h2
   intro v hv;rw[jX.1 hv];rfl
  .rw[hb]at h2;cases h2
   intro v hv;rw[jX.1 hv];rfl
 intro e bx' h u hB A i;have d:=yU i Aa ha;have f:=yU i Aa hb;have g:(a=n)=False:=eq_false Om;have c:(b=n)=False:=eq_false Om;obtain⟨j,r,p,s⟩:=x;refine⟨n+1,upd bx' n (some (142,[vs j,vi r,vi p,vi s])),fun k hk=>aV _ _ _ _ Om,?_⟩;simp only at hx;by_cases l:sB j=sB k
 .have q:decide (sB j=sB k)=true:=eU l;refine gZ oW ?_;(repeat' first|refine wQ (A8 @aK @aH @aG d f g c q @hx) ?_|refine tS ?_ ?_<;>intro m|fail);refine bC (aW _ _ _) ?_;rw[aP,aQ]
 .have q:decide (sB j=sB k)=false:=dK l;refine gZ oW ?_;(repeat' first|refine wQ (Ah @aK @aH @aG d f g c q) ?_|refine tS ?_ ?_<;>intro m|fail);refine bC (aW _ _ _) ?_;rw[aP,aQ]
def anH(l:List Bd)(k:List Nat)(o c:Int)(hl:l.length<=100000)(hv:vBd l)(hk:oct k)(m:iK k=true)(ho:1<=o)(g:1<=c)(a:∀i,i<l.length->(l.getD i bd0).f<c/\(l.getD i bd0).t<=c)(f:∀i,i<l.length->(l.getD i bd0).t=0->sB (l.getD i bd0).n≠sB k/\(l.getD i bd0).o≠o) :
  Gxx 108 [.sl .fz 4 (aS l),vs k,vi o,vi c] (.tup [.sl (.own 0 142) 4 (aS (jo ⟨k,o,c,0⟩ l)),vi 0]):=by
 have n:=PP l hl hv
 have k2:=yC k hk
 rw[m]at k2
 have p:=PS l c Om (fun i hi=>⟨by have:=(a i hi).1;omega,(a i hi).2⟩)
 have b:=fun e h=>Rh e (upd (upd (upd (fun _=>none) 0 (some (9,[vs k]))) 1 (some (3,[vi o]))) 2 (some (3,[vi c]))) 3 h 206 [.ref 0 0,.ref 1 0] (fun _=>false) l Om (fun i hi e h=>aw6 0 1 k o _ e _ 3 h rfl rfl Om Om (f i hi))
 have d:=fun e h=>Rh e (upd (upd (upd (fun _=>none) 0 (some (9,[vs k]))) 1 (some (3,[vi o]))) 2 (some (3,[vi c]))) 3 h 207 [.ref 0 0,.ref 2 0] (fun _=>false) l Om (fun i hi e h=>aw7 0 2 k c _ e _ 3 h rfl rfl Om Om (by have:=(a i hi).1;omega))
 rw[OM _ bd0 l 0 (fun _ _=>rfl)]at b d
 have q:=XO l ⟨k,o,c,0⟩ hl (fun i j h1 h2=>QV hv i j h1 h2) (fun i hi=>by have:=(a i hi).1;simp only;omega)
 refine gI oW ?_
 (repeat' first|refine wP ae (Ad n k2 p q) ?_|refine aU _ (b _ _) rfl ?_|refine aU _ (d _ _) rfl ?_|refine tS ?_ ?_<;>intro g|fail)
 exact rE [3]
def Nz(l:List Bd)(j:Nat)(c:Int)(i:Nat):((fM l j c).getD i bd0).n=(l.getD i bd0).n/\((fM l j c).getD i bd0).f=(l.getD i bd0).f/\((fM l j c).getD i bd0).o=(l.getD i bd0).o:=by
 unfold fM;rw[gW,List.getElem?_set];split
 .rename_i h;subst h;split
  .exact⟨rfl,rfl,rfl⟩
  .rename_i h;rw[gW,Gi Om];exact⟨rfl,rfl,rfl⟩
 .rw[<-gW];exact⟨rfl,rfl,rfl⟩
def alE(l:List Bd)(j:Nat)(c:Int)(a b:Nat):ltB ((fM l j c).getD a bd0) ((fM l j c).getD b bd0)=ltB (l.getD a bd0) (l.getD b bd0):=by obtain⟨h1,h2,_⟩:=Nz l j c a;obtain⟨h3,h4,_⟩:=Nz l j c b;simp only[ltB,h1,h2,h3,h4]
def aoz(l:List Bd)(k:List Nat)(c:Int)(j:Nat)(hl:l.length<=100000)(hv:vBd l)(hk:oct k)(f:iK k=true)(d:1<=c)(b:xy l c)(hj:opA k l 0=j)(h:j<l.length)(hf:(l.getD j bd0).f<c) :
  Gxx 124 [.sl .fz 4 (aS l),vs k,vi c] (.tup [.sl (.own 0 142) 4 (aS (fM l j c)),vi 0]):=by
 have g:=PP l hl hv
 have k2:=yC k hk
 rw[f]at k2
 have i:=PS l c Om b
 have a:=PT l k Om
 rw[hj]at a
 have m:=Qc l Om
 have hg:=jZ l j h
 have he:=Js l j c
 refine gI oW ?_
 (repeat' first|refine wP (Ac @aj.{0,0} @hg @he) (Ae g k2 i a m) ?_|refine tS ?_ ?_<;>intro d|fail)
 exact rE [0]
def aot(l:List Bd)(k m:List Nat)(c:Int)(j:Nat)(hl:l.length<=100000)(hv:vBd l)(hk:oct k)(s:iK k=true)(f:oct m)(g:iK m=true)(r:1<=c)(d:∀i,i<l.length->(l.getD i bd0).f<c/\(l.getD i bd0).t<=c)(hj:opA k l 0=j)(h:j<l.length)(hm:opA m l 0 = -1) :
  Gxx 127 [.sl .fz 4 (aS l),vs k,vs m,vi c] (.tup [.sl (.own 0 142) 4 (aS (jo ⟨m,(l.getD j bd0).o,c,0⟩ (fM l j c))),vi 0]):=by
 have t:=PP l hl hv
 have k2:=yC k hk
 rw[s]at k2
 have q:=yC m f
 rw[g]at q
 have u:=PS l c Om (fun i hi=>⟨by have:=(d i hi).1;omega,(d i hi).2⟩)
 have n:=PT l k Om
 rw[hj]at n
 have p:=PT l m Om
 rw[hm]at p
 have x:=Qc l Om
 have hg:=jZ l j h
 have he:=Js l j c
 have hf:=(d j h).1
 have v:=XO (fM l j c) ⟨m,(l.getD j bd0).o,c,0⟩ (by rw[zQ];exact hl) (fun a b h1 h2=>by rw[alE];rw[zQ]at h2;exact QV hv a b h1 h2) (fun i hi=>by rw[zQ]at hi;rw[(Nz l j c i).2.1];have:=(d i hi).1;simp only;omega)
 refine gI oW ?_
 (repeat' first|refine wP (Ad @aj.{0,0} @hg @he @id_eq.{1}) (Ag t k2 u n p q x) ?_|refine cG [0] v ?_|refine tS ?_ ?_<;>intro r|fail)
 exact rE [1]
def CP{α:Type}(l r:List α)(i:Nat)(d:α)(h:i<l.length):(l++r).getD i d=l.getD i d:=by grind
def Vu{α:Type}(l:List α)(x d:α):(l++[x]).getD l.length d=x:=Aa
def abN{l:List Bd}{c:Int}(h:ww c l)(n:Nat)(d:n<=l.length):(∀i j,i<j->j<(nmA c (l.take n)).length->kl ((nmA c (l.take n)).getD i []) ((nmA c (l.take n)).getD j [])=true):=by
 induction n with
 |zero=>intro i j h1 h2;simp[nmA]at h2
 |succ n b =>
  have b:=b Om;intro i j h1 h2;rw[O6 c l n Om]at h2⊢;split at h2
  .rename_i a;rw[ah a];rw[aN,dB,o9]at h2;rcases au j (nmA c (l.take n)).length with h3|h3
   .rw[CP _ _ _ _ Om,CP _ _ _ _ h3];exact b i j h1 h3
   .have h4:j=(nmA c (l.take n)).length:=Om;subst h4;rw[CP _ _ _ _ Om,Vu];exact h n Om a i Om
  .rename_i a;rw[ag a];exact b i j h1 h2
def Su{l:List Bd}{c:Int}(h:ww c l):GG (nmA c l):=fun i hi=>by have h1:=abN h l.length (az _);grind[V8,Hy,FZ]
def XI(l:List Bd)(c:Int)(hl:l.length<=100000)(ha:ww c l)(d:(nmA c l).length<=12):Gxx 104 [.sl .fz 4 (aS l),vi c] (.sl (.own 0 9) 1 (ssV (nmA c l))):=by
 have r:=fun e bx n h id=>aw5 e bx n h id (nmA c l) d (Su ha)
 have g:=fun e bx n h id=>awW e bx n h id (nmA c l) d (Su ha)
 refine gI oW ?_;(repeat' first|refine wQ @aj.{0,0} ?_|refine tS ?_ ?_<;>intro g|fail);refine aJ (fun i:Nat=>mkA [(1,vi c),(5,.sl (.own 0 9) 1 (ssV (nmA c (l.take i)))),(8,.sl .fz 4 (aS l)),(9,vi l.length),(10,vi i)] [] 1 (fun _=>.top)) (fun i=>i<=l.length) (fun i=>l.length-i) 0 [] [] ?_ (ax _) ?_
 .exact kX;all_goals first|exact iT rfl|skip
 .rintro i hi;rcases au i l.length with a|q
  .have hg:=jZ l i a;have hx:=O6 c l i a;have k:=XU (l.getD i bd0) c;have hm:=Kq c (l.take i);rw[bI]at hm;generalize nmA c (l.take i)=o at *;generalize l.getD i bd0=b at *;obtain⟨bn,bo,p,bt⟩:=b;simp only at *;cases m:gQ p bt c
   .rw[m]at k hx;rw[ag Aa]at hx;subst hx;(repeat' first|refine wP @hg k ?_|refine tS ?_ ?_<;>intro g|fail);exact bX (i+1) [0] [] a
   .rw[m]at k hx;rw[ah rfl]at hx;have f:=Y9 o bn;rw[<-hx]at f;have j:Fits ((ssV o).length+1) 16:=by rw[aj];exact⟨by simp only[maxLen];omega,by omega⟩
    (repeat' first|refine wP (Ac @hg f j) k ?_|refine tS ?_ ?_<;>intro g|fail);exact bX (i+1) [0] [] a
  .have:i=l.length:=Om;subst this;(repeat' first|refine wQ @gB.{0} ?_|refine aU _ (r _ _ _ _ 0) rfl ?_|refine aU _ (g _ _ _ _ 0) rfl ?_|refine tS ?_ ?_<;>intro g|fail);exact rE [0]
def AU(a b:Bd):Prop:=uB a.n<uB b.n\/(uB a.n=uB b.n/\a.f<b.f/\a.t≠0/\a.t<=b.f)
def Xv{a b c:Bd}(h:AU a b)(k:AU b c):AU a c:=by
 rcases h with h|⟨h1,h2,h3,h4⟩<;>rcases k with k|⟨d,k2,f,g⟩
 .exact .inl (List.lt_trans h k)
 .exact .inl (d▸h)
 .exact .inl (h1▸k)
 .exact .inr ⟨h1.trans d,by omega,h3,by omega⟩
theorem Xu{a b:Bd}:Fh a b↔AU a b:=by grind[Fh,AU,Hy,FZ]
theorem abM{a b:Bd}(h:D9 a b):D9 b a:=fun e=>(h e.symm).symm
def MH{α:Type}{R:α->α->Prop}(d:α)(tr:∀a b c,R a b->R b c->R a c){l:List α}(h:∀i,0<i->i<l.length->R (l.getD (i-1) d) (l.getD i d))(i:Nat):∀j,i<j->j<l.length->R (l.getD i d) (l.getD j d)
 |j+1,h1,h2=>by
  have h3:=h (j+1) Om h2;rcases au i j with h4|h4
  .exact tr _ _ _ (MH d tr h i j h4 Om) h3
  .grind
def Du{α:Type}{R:α->α->Prop}(d:α){l:List α}:l.Pairwise R↔∀i j,i<j->j<l.length->R (l.getD i d) (l.getD j d):=by grind[List.pairwise_iff_getElem,List.getElem?_eq_getElem]
def RY{α:Type}{p:α->Prop}(d:α){l:List α}:(∀x∈l,p x)↔∀i,i<l.length->p (l.getD i d):=by grind[hx,List.getElem?_eq_getElem,List.getElem_mem,List.mem_iff_getElem]
def F8{l:List Bd}:vBd l↔(∀b∈l,O9 b)/\l.Pairwise AU/\l.Pairwise D9:=by
 rw[RY bd0,Du bd0,Du bd0];constructor
 .intro h;exact⟨fun i hi=>(h i hi).1,MH (R:=AU) bd0 (fun _ _ _=>Xv) fun i h1 h2=>Xu.1 ((h i h2).2.1 h1),fun i j h1 h2=>(h j h2).2.2 i h1⟩
 .rintro⟨h1,h2,h3⟩ i hi;grind[Xu]
def SH{α:Type}{R:α->α->Prop}{lt:α->α->Bool}(tr:∀a b c,R a b->R b c->R a c)(x:α):∀r:List α,(∀y∈r,(lt x y=true->R x y)/\(lt x y=false->R y x))->r.Pairwise (fun a b=>R b a)->(fH lt x r).Pairwise fun a b=>R b a
 |[],_,_=>by simp[fH]
 |y::r,h1,h2=>by
  rw[uz]at h2;unfold fH;split
  .rw[uz];refine⟨fun z h => ?_,SH tr x r (fun z h=>h1 z (by simp[h])) h2.2⟩;grind[xW]
  .grind[List.pairwise_cons]
def SG{α:Type}(lt:α->α->Bool)(x:α):∀r:List α,∃c d,r=c++d/\fH lt x r=c++x::d
 |[]=>⟨[],[],rfl,rfl⟩
 |y::r=>by
  unfold fH;split
  .obtain⟨c,d,h1,h2⟩:=SG lt x r;grind
  .exact⟨[],y::r,rfl,rfl⟩
def ajN{α:Type}(lt:α->α->Bool)(x:α)(l:List α):∃c d,l=c++d/\(fH lt x l.reverse).reverse=c++x::d:=by obtain⟨c,d,h1,h2⟩:=SG lt x l.reverse;grind[List.reverse_append]
theorem VB(x:Bd)(l:List Bd):∃c d,l=c++d/\jo x l=c++x::d:=ajN ltB x l
theorem Ht{x y:Bd}{l:List Bd}:y∈jo x l↔y=x\/y∈l:=by grind[jo,xW]
def VC(x:Bd)(l:List Bd):(jo x l).length=l.length+1:=by grind[jo,BQ]
theorem VD(x:Bd)(l:List Bd):(jo x l).Perm (x::l):=by obtain⟨c,d,rfl,h⟩:=VB x l;simp_all
def ZO{l:List Bd}{x:Bd}{m:Int}(hv:vBd l)(hx:O9 x)(hf:x.f=m+1)(hl:∀b∈l,b.f<=m/\b.t<=m+1/\(uB b.n=uB x.n->b.t≠0)/\(b.o=x.o->b.t≠0)):vBd (jo x l):=by
 rw[F8]at hv⊢;obtain⟨h1,h2,h3⟩:=hv;refine⟨fun b hb => ?_,?_,?_⟩
 .grind[Ht]
 .unfold jo;rw[List.pairwise_reverse];refine SH (R:=AU) (fun _ _ _=>Xv) x _ (fun y a => ?_) (List.pairwise_reverse.2 h2);obtain⟨c,k2,k,_⟩:=hl y (aav.1 a);constructor
  .intro h;rcases EW.1 h with h|⟨_,h⟩
   .exact .inl h
   .omega
  .intro h;rcases EW.1 (WB h Om)with h|⟨h,_⟩
   .exact .inl h
   .exact .inr ⟨h,by omega,k h,by omega⟩
 .refine((VD x l).pairwise_iff fun h=>abM h).2 (uz.2 ⟨fun y a e => ?_,h3⟩);grind
def Ym{α:Type}{R:α->α->Prop}(d:α){l:List α}{j:Nat}{y:α}(h:l.Pairwise R)(h1:∀b∈l,R b (l.getD j d)->R b y)(h2:∀b∈l,R (l.getD j d) b->R y b):(l.set j y).Pairwise R:=by rw[Du d]at h⊢;grind
def DI{α:Type}{l:List α}{j:Nat}{y b:α}(h:b∈l.set j y):b=y\/b∈l:=by grind
def ZN{l:List Bd}{j:Nat}{m:Int}(hv:vBd l)(hj:j<l.length)(g:(l.getD j bd0).t=0)(hl:∀b∈l,b.f<=m)(d:0<=m):vBd (fM l j (m+1)):=by
 have hm:l.getD j bd0∈l:=by grind
 rw[F8]at hv⊢;obtain⟨h1,h2,h3⟩:=hv;have f:=hl _ hm;obtain⟨q,a,c,i,k⟩:=h1 _ hm;refine⟨fun b hb => ?_,?_,?_⟩
 .rcases DI hb with rfl|hb
  .exact⟨q,a,c,by simp only;omega,.inr (by simp only;omega)⟩
  .grind
 .exact Ym bd0 h2 (fun b _ h=>h) fun b _ h=>by
   rcases h with h|⟨_,_,h,_⟩
   .exact .inl h
   .omega
 .refine Ym bd0 h3 (fun b hb h e => ?_) fun b hb h e => ?_
  .rcases h e with h|⟨h,_⟩
   .exact .inl h
   .omega
  .rcases h e with⟨h,_⟩|h
   .omega
   .exact .inr h
theorem JO{b:Bd}{m:Int}(h:b.f<=m/\b.t<=m):gQ b.f b.t m=decide (b.t=0):=by grind[gQ]
def HY{k:List Nat}{m:Int}:∀{l:List Bd} (i:Nat),(∀b∈l,b.f<=m/\b.t<=m)->(lkA k m l).2=false->opA k l i = -1/\∀b∈l,b.t=0->sB b.n≠sB k
 |[],_,_,_=>⟨rfl,fun _ h=>by cases h⟩
 |x::r,i,h,hk=>by
  unfold lkA at hk;unfold opA;simp[JO (h x Aa)]at hk;by_cases a:sB x.n=sB k/\x.t=0
  .grind
  .rw[ag a]at hk⊢;obtain⟨h1,h2⟩:=HY (i+1) (fun b hb=>h b (by simp[hb])) hk;grind
def Wv{k:List Nat}{m:Int}:∀{l:List Bd} (i:Nat),(∀b∈l,b.f<=m/\b.t<=m)->(lkA k m l).2=true->∃j,opA k l i=((i+j:Nat):Int)/\j<l.length/\lkA k m l=((l.getD j bd0).o,true)/\sB (l.getD j bd0).n=sB k/\(l.getD j bd0).t=0
 |x::r,i,h,hk=>by
  unfold lkA at hk⊢;simp[JO (h x Aa)]at hk⊢;unfold opA;by_cases a:sB x.n=sB k/\x.t=0
  .rw[ah a,ah a];exact⟨0,rfl,by simp,rfl,a⟩
  .rw[ag a]at hk⊢;rw[ag a];obtain⟨j,h1,h2,h3⟩:=Wv (i+1) (fun b hb=>h b (by simp[hb])) hk;exact⟨j+1,by omega,by simpa using h2,by simpa using h3⟩
theorem Wl(k:List Nat)(c:Int):∀a b:List Bd,lkA k c (a++b)=if(lkA k c a).2=true then lkA k c a else lkA k c b
 |[],b=>by simp[lkA]
 |x::a,b=>by have h:=Wl k c a b;grind[lkA]
theorem Wq(k:List Nat)(c:Int)(x:Bd)(l:List Bd)(h:c<x.f):lkA k c (jo x l)=lkA k c l:=by obtain⟨a,d,rfl,h2⟩:=VB x l;grind[Wl,lkA,gQ]
def Ws(k:List Nat)(c:Int)(y:Bd):∀(l:List Bd) (j:Nat),y.n=(l.getD j bd0).n->y.o=(l.getD j bd0).o->gQ y.f y.t c=gQ (l.getD j bd0).f (l.getD j bd0).t c->lkA k c (l.set j y)=lkA k c l
 |[],_,_,_,_=>rfl
 |x::r,0,h1,h2,h3=>by grind[lkA]
 |x::r,j+1,h1,h2,h3=>by simp;unfold lkA;rw[Ws k c y r j h1 h2 h3]
def Wp(k:List Nat)(c m:Int)(l:List Bd)(j:Nat)(b:(l.getD j bd0).t=0)(a:c<=m)(h:0<=m):lkA k c (fM l j (m+1))=lkA k c l:=by refine Ws k c _ l j rfl rfl ?_;grind[gQ]
def abO{l:List Bd}{m:Int}(hv:vBd l)(hl:∀b∈l,b.f<=m/\b.t<=m):ww m l:=by
 rw[F8]at hv;intro i hi _ j hj;have hm:(nmA m (l.take i)).getD j []∈nmA m (l.take i):=by grind
 obtain⟨y,a,e⟩:=dP.1 hm;obtain⟨a,c⟩:=Gl.1 a;have d:(nmA m (l.take i)).getD j []=y.n:=e.symm;rw[d,Hy];rw[JO (hl y (Gq a)),axm]at c;obtain⟨q,f,rfl⟩:=D5.1 a;rw[bI]at f;rw[List.getElem_take]at c⊢;have:=(Du bd0).1 hv.2.1 q i Om hi;rw[gW,dY Om,Gv]at this;rcases this with h|⟨_,_,h,_⟩
 .exact h
 .omega
def nOp(l:List Bd):Nat:=l.countP fun b=>decide (b.t=0)
def amN{l:List Bd}{m:Int}(hl:∀b∈l,b.f<=m/\b.t<=m):(nmA m l).length=nOp l:=by grind[nmA,nOp,JO,List.length_map,List.countP_eq_length_filter,List.filter_congr]
def Xp(x:Bd)(l:List Bd):nOp (jo x l)=nOp l+if x.t=0 then 1 else 0:=by unfold nOp;rw[(VD x l).countP_eq,List.countP_cons];simp
def Xo(c:Int)(a:c≠0):∀(l:List Bd) (j:Nat),j<l.length->(l.getD j bd0).t=0->nOp (fM l j c)+1=nOp l
 |x::r,0,_,h=>by grind[fM,nOp]
 |x::r,j+1,hj,h=>by grind[fM,nOp]
end Go.Proofs.YtopbmdnbdpjheaaGreat
