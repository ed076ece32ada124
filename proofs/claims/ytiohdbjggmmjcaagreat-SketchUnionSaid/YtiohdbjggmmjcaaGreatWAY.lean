/-
  Merged texts.
-/
import Derived.ScopeJumps
import Derived.Test.YtiohdbjggmmjcaaGreatWAX
import Derived.Test.YtiohdbjggmmjcaaGreatWAP
import Derived.Test.YtiohdbjggmmjcaaGreatWAQ
import Derived.Sort.Grow
import Derived.Sort.EncStr
import Derived.Shelf.SortM.Plain
import Derived.Shelf.SortM.SortNone
import Derived.Shelf.Small.Strs
import Derived.Ground.SlgmProg
import Derived.Test.YtiohdbjggmmjcaaGreatProg
import Derived.Test.YtiohdbjggmmjcaaGreatWAN
import Derived.Test.YtiohdbjggmmjcaaGreatWAT
set_option linter.unusedVariables false
set_option linter.unusedSimpArgs false
set_option linter.unusedSectionVars false
set_option linter.defProp false
set_option maxRecDepth 100000
set_option maxHeartbeats 8000000
section
namespace Go.Pg
open Go
def dU(ex:List Nat):Dw:={ dT with ex:=ex }
section
variable {P:Program} [Tb P]
theorem eu(ex:List Nat)(hm:P.follows .mixedOrders=true):jE P (dU ex):=X5 (P:=P) hm
theorem JC(ex:List Nat)(x y:Code)(Q:Exit→St→Prop)(s:St):wpS (dU ex) P (.seq x y) Q s=wpS (dU ex) P x (l7 (dU ex) P y Q) s:=by
 have:ny (dU ex).cuts (jv y)=false:=by cases h:jv y<;>rfl
 simp only[wpS,this,cond_false]
 rfl
theorem kw(ex:List Nat)(id:Nat)(l:List Oper)(Q:Exit→St→Prop)(s:St)(h:oV P (l.map (·.dst)) l Q l [] s):wpS (dU ex) P (.region id l.toArray true) Q s := .inl (by unfold yQ;exact h)
variable (P)
def sK(dsts:List (Option Nat))(Q:Exit→St→Prop)(ops:List Oper)(s:St):Prop:=CY P dsts (Q .normal) ops s
def fC(Q:Exit→St→Prop)(s:St):Prop:=Q .normal s∨Ky (Q .normal) s
def ig(f:Operand)(args:List Operand)(d:Option Nat)(s:St)(K:St→Prop):Prop:=bU P (s.ev f) args d s (fun _=>K)∨acU P f args d s K
def aV(v:Option V)(want:Bool)(dsts:List (Option Nat))(Q:Exit→St→Prop)(o:Oper)(rest:List Oper)(s:St):Prop :=
 match v with
 | some (.c (.bool b))=>if b=want then fM P s o (sK P dsts Q rest) else sK P dsts Q rest (s.put o.dst (.c undef))
 | some (.c _)=>sK P dsts Q rest (s.put o.dst (.c undef))
 | _=>False
def agI:Op→Bool
 | .call { callee := .value _,.. }=>true
 | _=>false
variable {P}
theorem Ye(ex:List Nat)(id:Nat)(l:List Oper)(Q:Exit→St→Prop)(s:St):wpS (dU ex) P (.region id l.toArray false) Q s=bif ex.contains id then sK P (l.map (·.dst)) Q l s else pG P (l.map (·.dst)) Q l s:=by
 simp only[wpS,pG,sK,Bool.false_eq_true,if_false]
 rfl
theorem Yf(dsts:List (Option Nat))(Q:Exit→St→Prop)(s:St):sK P dsts Q [] s=fC Q s:=rfl
theorem Nu(dsts:List (Option Nat))(Q:Exit→St→Prop)(s:St)(d:Option Nat)(op:Op)(ty:TypeId)(pos:String)(af:Array Edge)(rest:List Oper) :
  sK P dsts Q (⟨d,op,ty,pos,af,none⟩::rest) s=fM P s ⟨d,op,ty, "",#[],none⟩ (sK P dsts Q rest):=by
 simp only[sK,CY]
 rfl
theorem Nv(dsts:List (Option Nat))(Q:Exit→St→Prop)(s:St)(d:Option Nat)(op:Op)(ty:TypeId)(pos:String)(af:Array Edge)(j:Nat)(want:Bool)(rest:List Oper) :
  sK P dsts Q (⟨d,op,ty,pos,af,some (j,want)⟩::rest) s=aV P (gq s dsts j) want dsts Q ⟨d,op,ty, "",#[],none⟩ rest s:=by
 simp only[sK,CY,aV]
 rfl
theorem Yg{s:St}{d:Option Nat}{op:Op}{ty:TypeId}{K:St→Prop}(h:agI op=false):fM P s ⟨d,op,ty, "",#[],none⟩ K=aA P s ⟨d,op,ty, "",#[],none⟩ (fun _=>K):=by
 unfold fM
 split
 ·rename_i heq
  simp only at heq
  subst heq
  cases h
 ·rfl
theorem Nw(s:St)(d:Option Nat)(f:Operand)(args:Array Operand)(ts:Array TypeId)(ty:TypeId)(K:St→Prop):fM P s ⟨d,.call { callee := .value f,args:=args,argTypes:=ts },ty, "",#[],none⟩ K=ig P f args.toList d s K:=rfl
theorem Ny(b:Bool)(dsts:List (Option Nat))(Q:Exit→St→Prop)(o:Oper)(rest:List Oper)(s:St):aV P (some (.c (.bool b))) b dsts Q o rest s=fM P s o (sK P dsts Q rest):=by simp [aV]
theorem SV(dsts:List (Option Nat))(Q:Exit→St→Prop)(o:Oper)(rest:List Oper)(s:St):aV P (some (.c (.bool true))) false dsts Q o rest s=sK P dsts Q rest (s.put o.dst (.c undef)):=by simp [aV]
theorem SX(dsts:List (Option Nat))(Q:Exit→St→Prop)(o:Oper)(rest:List Oper)(s:St):aV P (some (.c (.bool false))) true dsts Q o rest s=sK P dsts Q rest (s.put o.dst (.c undef)):=by simp [aV]
theorem SY(want:Bool)(dsts:List (Option Nat))(Q:Exit→St→Prop)(o:Oper)(rest:List Oper)(s:St):aV P (some (.c undef)) want dsts Q o rest s=sK P dsts Q rest (s.put o.dst (.c undef)):=rfl
theorem au{b want:Bool}{dsts:List (Option Nat)}{Q:Exit→St→Prop}{o:Oper}{rest:List Oper}{s:St}(ht:b=want→fM P s o (sK P dsts Q rest))(hf:b = !want→sK P dsts Q rest (s.put o.dst (.c undef))) :
  aV P (some (.c (.bool b))) want dsts Q o rest s:=by
 simp only[aV]
 split
 ·exact ht ‹_›
 ·exact hf (by cases b<;>cases want<;>simp_all)
theorem dV{f:Operand}{args:List Operand}{d:Option Nat}{s:St}{K:St→Prop}(h:bU P (s.ev f) args d s (fun _=>K)):ig P f args d s K := .inl h
theorem sN{g:FuncId}{f:Operand}{args:List Operand}{d:Option Nat}{s:St}{K:St→Prop}{vs:List V}{φ:St→V→Prop}(s1:St)(hw:Weak s s1)(hf:s1.ev f = .fn g [] [])(hg:GoodE P g vs s1 φ)(hvs:args.map s1.ev=vs)(hK:∀s' r,φ s' r→K (s'.put d r)):ig P f args d s K:=by
 refine .inr ⟨s1,hw, ?_⟩
 rw[hf]
 subst hvs
 exact⟨φ,by simpa using hg,hK⟩
theorem bH{Q:Exit→St→Prop}{s:St}(h:Q .normal s):fC Q s := .inl h
theorem Yh{Q:Exit→St→Prop}{s s':St}(hw:Weak s s')(h:Q .normal s'):fC Q s := .inr ⟨s',hw,h⟩
def pgE:=aI @JC (aI @Ye (aI @Yf (aI @Nu (aI @Nv (aI @Yg (aI @Nw (aI @Ny (aI @SV (aI @SX @SY)))))))))
theorem Weak.refl(s:St):Weak s s:=fun _ L _ _ S=>⟨L,S⟩
theorem Weak.trans{a b c:St}(h:Weak a b)(k:Weak b c):Weak a c:=fun C L x w S=>by obtain⟨L1,S1⟩:=h C L x w S;exact k C L1 x w S1
theorem Yi(s:St)(ids:List Nat):Weak s (s.freezeAll ids):=fun _ _ _ _ S=>by obtain⟨L1,S1,_⟩:=S.freezeAll ids;exact⟨L1,S1⟩
theorem ace{s:St}{b:Nat}{e:TypeId}{cs:List V}(hb:s.bx b=some (e,cs))(hf:cs.all (fun v=>v.free&&v.one)=true):Weak s (fbS s b cs):=fun _ L _ _ S=>⟨L.kill b,(S.fb hb hf).1⟩
theorem gK{e e':Nat→V}{bx bx':Bxx}{n n':Nat}{h:Nat→V}(he:∀t,e' t=e t∨e' t = .top)(hb:∀b,bx' b=bx b∨bx' b=none)(hn:n≤n'):Weak ⟨e,bx,n,h⟩ ⟨e',bx',n',h⟩:=Fh he hb hn
def wkT(a b:V):Prop:=b = .top∨wkV a b∨(a = .c (.slice none 0 0)∧∃j e o k,b = .bs j e o k 0)
theorem bJ(a:V):wkT a a := .inr (.inl (aH a))
theorem acf(a:V):wkT a .top := .inl rfl
theorem FZ(t:Tag)(k:Nat)(h:t.notNN=true:=by rfl):wkT (.c (.slice none 0 0)) (.sl t k []) := .inr (.inl (.inl (o5 t k h)))
theorem ae5(j:Nat)(e:TypeId)(o k:Nat):wkT (.c (.slice none 0 0)) (.bs j e o k 0) := .inr (.inr ⟨rfl,j,e,o,k,rfl⟩)
theorem F5{L:Lay}{w:World}{a b:V}{u:Value}(h:wkT a b)(hr:Rep L w a u):Rep L w b u:=by
 rcases h with rfl|h|⟨rfl,j,e,o,k,rfl⟩
 ·trivial
 ·exact Fj h hr
 ·exact .inl ⟨rfl,hr⟩
def uT:List V→List V→Prop
 | _,[]=>True
 | a::xs,b::ys=>wkT a b∧uT xs ys
 | [],_::_=>False
theorem fZ:∀l:List V,uT l l
 | []=>trivial
 | a::l=>⟨bJ a,fZ l⟩
theorem x9:∀(l:List V) (m:Nat),uT l (l.take m)
 | [],m=>by simp [uT]
 | a::l,0=>trivial
 | a::l,m+1=>⟨bJ a,x9 l m⟩
theorem JD:∀(l:List V) (i:Nat),uT l (l.set i .top)
 | [],i=>by simp [uT]
 | a::l,0=>⟨acf a,fZ l⟩
 | a::l,i+1=>⟨bJ a,JD l i⟩
theorem S9{L:Lay}{w:World}:∀{xs ys:List V} {us:List Value},uT xs ys→Reps L w xs us→Reps L w ys (us.take ys.length):=by
 intro xs ys
 induction ys generalizing xs with
 | nil=>intro us _ _;simp [Reps]
 | cons y ys ih =>
  intro us h hr
  cases xs with
  | nil=>exact h.elim
  | cons x xs =>
   obtain⟨u,r,rfl,h1,h2⟩:=hr
   exact⟨u,r.take ys.length,by simp,F5 h.1 h1,ih h.2 h2⟩
theorem Yj:∀{xs ys:List V},uT xs ys→ys.length≤xs.length:=by
 intro xs ys
 induction ys generalizing xs with
 | nil=>intro _;exact Nat.zero_le _
 | cons y ys ih =>
  intro h
  cases xs with
  | nil=>exact h.elim
  | cons x xs=>simp only[List.length_cons];have:=ih h.2;omega
def Nz(e:Nat→V):List (Nat × V)→Prop
 | []=>True
 | (k,v)::r=>wkT (e k) v∧Nz e r
theorem pY(e:Nat→V):Nz e []=True:=rfl
theorem mQ(e:Nat→V)(k:Nat)(v:V)(r:List (Nat × V)):Nz e ((k,v)::r)=(wkT (e k) v∧Nz e r):=rfl
theorem EnvIs.w{e:Nat→V}:∀{X:List (Nat × V)},EnvIs e X→Nz e X
 | [],_=>trivial
 | (k,v)::r,⟨h,h'⟩=>⟨by rw[h];exact bJ v,EnvIs.w h'⟩
theorem ae6{e:Nat→V}:∀{X:List (Nat × V)},Nz e X→∀t,wkT (e t) (iP X t):=by
 intro X
 induction X with
 | nil=>intro _ t;exact .inl rfl
 | cons p r ih =>
  obtain⟨k,v⟩:=p
  rintro⟨h1,h2⟩ t
  by_cases ht:t=k
  ·subst ht;rw[cO,if_pos rfl];exact h1
  ·rw[cO,if_neg ht];exact ih h2 t
theorem kP{e:Nat→V}{bx bx':Bxx}{n n':Nat}{h:Nat→V}{X:List (Nat × V)}(he:Nz e X)(hb:∀c x',bx' c=some x'→∃x,bx c=some x∧x.1=x'.1∧uT x.2 x'.2)(hn:n≤n'):Weak ⟨e,bx,n,h⟩ ⟨iP X,bx',n',h⟩:=by
 intro C L a w S
 refine⟨L,S.defers,S.size,fun t=>F5 (ae6 he t) (S.env t),S.hid,fun c x' hc => ?_,S.wf.mono hn (Nat.le_refl _),S.kp⟩
 obtain⟨x,hx,h1,h2⟩:=hb c x' hc
 obtain⟨g,arr,k1,k2,k3⟩:=S.box c x hx
 refine⟨g,arr,k1,by rw[←h1];exact k2, ?_⟩
 have h3:=S9 h2 k3
 have h4:=Yj h2
 rwa [List.take_take,Nat.min_eq_left h4] at h3
theorem sO{ι:Type}{D:Dw}{x:Code}{Q:Exit→St→Prop}{s:St}(S:ι→St)(Inv:ι→Prop)(μ:ι→Nat)(i0:ι)(hw:Weak s (S i0))(h0:Inv i0)
  (hr:∀i,Inv i→wpS D P x (yV S Inv μ i Q) (S i)):Be D P x Q s:=by
 refine⟨fun n s1=>∃i,Inv i∧μ i=n∧s1=S i,μ i0,⟨S i0,hw,i0,h0,rfl,rfl⟩, ?_⟩
 rintro n s1 ⟨i,hi,rfl,rfl⟩
 exact hr i hi
theorem lY{ι:Type}{S:ι→St}{Inv:ι→Prop}{μ:ι→Nat}{i:ι}{s:St}(j:ι)(h1:Inv j)(h2:μ j<μ i)(hw:Weak s (S j)):qK S Inv μ i s:=⟨μ j,S j,h2,hw,j,h1,rfl,rfl⟩
def F6(P:Program)[Tb P](rs:List ResultVar)(φ:St→V→Prop)(s:St):Prop:=∃s2 s' r,Weak s s2∧φ s' r∧Il P rs s' r s2
def Yk(P:Program)[Tb P](rs:List ResultVar)(φ:St→V→Prop):Exit→St→Prop:=fun e s =>
 match e with
 | .normal | .ret=>F6 P rs φ s
 | _=>False
theorem jA(rs:List ResultVar)(φ:St→V→Prop)(s:St):Yk P rs φ .ret s=F6 P rs φ s:=rfl
theorem gQ(rs:List ResultVar)(φ:St→V→Prop)(s:St):Yk P rs φ .normal s=F6 P rs φ s:=rfl
theorem F7{rs:List ResultVar}{φ:St→V→Prop}{s s':St}{r:V}(hφ:φ s' r)(h:Il P rs s' r s):F6 P rs φ s:=⟨s,s',r,Weak.refl s,hφ,h⟩
theorem acg{rs:List ResultVar}{φ:St→V→Prop}{s s2:St}(hw:Weak s s2)(h:F6 P rs φ s2):F6 P rs φ s:=by
 obtain⟨s3,s',r,h1,h2,h3⟩:=h
 exact⟨s3,s',r,hw.trans h1,h2,h3⟩
theorem sQ{D:Dw}(hD:jE P D){f:FuncId}{fn:Func}{c:Code}{rs:List ResultVar}{args:List V}{s:St}{φ:St→V→Prop}(hf:P.funcs[f]?=some fn)(hb:fn.body=some c)(hrs:fn.results=rs.toArray)(hn:(fn.name == "runtime.NumGoroutine")=false)
  (hfit:oQ fn.ntmps c=true) (hlen:args.length≤fn.ntmps) (h:wpS D P c (Yk P rs φ) (P5 args s)):GoodE P f args s φ:=by
 intro C L a w cargs hT S hargs
 refine⟨by simp [jD,hf,hb,hn], ?_⟩
 let C':Cx:={ n:=fn.ntmps,A0:=C.A0,Wr:=C.Wr,w0:=C.w0,hid:=gm (fun t=>a.tmps.getD t undef) C.hid }
 have hl:=hargs.length
 have W:=S.wf
 have S1:Sim C' (P5 args s) L { tmps:=cargs.toArray++Array.replicate (fn.ntmps-cargs.toArray.size) undef,defers:=[] } w:=by
  refine⟨rfl,by simp [C'];omega,fun t => ?_,fun t => ?_,S.box,⟨W.nidO,W.nidB,W.own,W.boxW,W.injO,W.injB,W.dis,W.old,W.frz⟩,S.kp⟩
  ·have:=xw args cargs 0 (List.replicate (fn.ntmps-cargs.length) undef) hargs [] rfl t
   have e:(cargs++List.replicate (fn.ntmps-cargs.length) undef).toArray=cargs.toArray++Array.replicate (fn.ntmps-cargs.toArray.size) undef:=by
    apply Array.ext';simp
   rw[List.nil_append,e] at this
   exact this
  ·show Rep L w (gm s.env s.hd t) (gm (fun t=>a.tmps.getD t undef) C.hid t)
   unfold gm
   split
   ·exact S.env _
   ·exact S.hid _
 refine calls_of_wp hf hb (Code.wp_mono ?_ (mM (C:=C') hD hT c h hfit S1))
 rintro e a' w' ⟨s2,L2,hq,S2⟩
 have fin:F6 P rs φ s2→a'.defers=[]∧∃v,(results fn a'.tmps).run P w' = .ok v w'∧∃u L' s' r,φ s' r∧Ending.returned v = .returned u∧Sim C s' L' a w'∧Rep L' w' r u:=by
  rintro⟨s3,s',r,hw,hφ,h1,k1,k2,k3,k4⟩
  obtain⟨L3,S3⟩:=hw C' L2 a' w' S2
  obtain⟨u,h3,h4⟩:=rF hrs h1 S3
  refine⟨S3.defers,u,h3,u,L3,s',r,hφ,rfl, ?_,h4⟩
  have W2:=S3.wf
  obtain⟨e1,b1,n1,d1⟩:=s'
  simp only at k1 k2 k3 k4
  subst k1;subst k2;subst k3
  refine⟨S.defers,S.size,fun t => ?_,fun t => ?_,S3.box,⟨fun i g h=>Nat.lt_of_lt_of_le (W2.nidO i g h) k4,fun i g h=>Nat.lt_of_lt_of_le (W2.nidB i g h) k4,W2.own,W2.boxW,W2.injO,W2.injB,W2.dis,W2.old,W2.frz⟩,S3.kp⟩
  ·have h5:=S3.hid (2*t)
   have e:C'.hid (2*t)=a.tmps.getD t undef:=congrFun (jk (fun t=>a.tmps.getD t undef) C.hid) t
   rw[e] at h5
   exact h5
  ·have h5:=S3.hid (2*t+1)
   have e:C'.hid (2*t+1)=C.hid t:=congrFun (jl (fun t=>a.tmps.getD t undef) C.hid) t
   rw[e] at h5
   exact h5
 cases e with
 | normal=>exact fin hq
 | ret=>exact fin hq
 | _=>exact hq.elim
theorem GoodZ.e{g:FuncId}{args:List V}{s s':St}{r:V}(h:GoodZ P g args s s' r)(hb:jD P g=true)(hx:∀(cargs:Array Value) (w:World) u w',(callFunc g cargs).run P w ≠ .ok (.value u) w'):GoodE P g args s (fun s2 r2=>s2=s'∧r2=r):=by
 intro C L a w cargs hT S hargs
 rcases h C L a w cargs hT S hargs with ⟨_,h2⟩|⟨u,w',L',h2,_⟩
 ·exact⟨hb,h2.mono fun e w' ⟨u,L',he,hs,hr⟩=>⟨u,L',s',r,⟨rfl,rfl⟩,he,hs,hr⟩⟩
 ·exact absurd h2 (hx _ _ _ _)
theorem GoodE.mono{g:FuncId}{args:List V}{s:St}{φ ψ:St→V→Prop}(h:GoodE P g args s φ)(hk:∀s' r,φ s' r→ψ s' r):GoodE P g args s ψ:=by
 intro C L a w cargs hT S hargs
 obtain⟨h1,h2⟩:=h C L a w cargs hT S hargs
 exact⟨h1,h2.mono fun e w' ⟨u,L',s',r,hφ,he,hs,hr⟩=>⟨u,L',s',r,hk _ _ hφ,he,hs,hr⟩⟩
theorem GoodE.pre{g:FuncId}{args:List V}{s s1:St}{φ:St→V→Prop}(h:GoodE P g args s1 φ)(hw:∀C L a w,Sim C s L a w→∃L1,Sim C s1 L1 a w∧∀cargs,Reps L w args cargs→Reps L1 w args cargs):GoodE P g args s φ:=by
 intro C L a w cargs hT S hargs
 obtain⟨L1,S1,h1⟩:=hw C L a w S
 exact h C L1 a w cargs hT S1 (h1 cargs hargs)
theorem GoodE.post{g:FuncId}{args:List V}{s:St}{φ ψ:St→V→Prop}(h:GoodE P g args s φ)(hw:∀s' r,φ s' r→∀C L a w u,Sim C s' L a w→Rep L w r u→∃L1 s2 r2,ψ s2 r2∧Sim C s2 L1 a w∧Rep L1 w r2 u):GoodE P g args s ψ:=by
 intro C L a w cargs hT S hargs
 obtain⟨h1,h2⟩:=h C L a w cargs hT S hargs
 refine⟨h1,h2.mono ?_⟩
 rintro e w' ⟨u,L',s',r,hφ,he,hs,hr⟩
 obtain⟨L1,s2,r2,k1,k2,k3⟩:=hw s' r hφ C L' a w' u hs hr
 exact⟨u,L1,s2,r2,k1,he,k2,k3⟩
def NC(l:Nat)(J:St→Prop)(Q:Exit→St→Prop):Exit→St→Prop
 | .goto l',s=>l'=l∧J s
 | e,s=>Q e s
theorem Tc(l l':Nat)(J:St→Prop)(Q:Exit→St→Prop)(s:St):NC l J Q (.goto l') s=(l'=l∧J s):=rfl
theorem JE(l:Nat)(J:St→Prop)(Q:Exit→St→Prop)(s:St):NC l J Q .normal s=Q .normal s:=rfl
theorem Yl(l:Nat)(J:St→Prop)(Q:Exit→St→Prop)(s:St):NC l J Q .ret s=Q .ret s:=rfl
theorem Td(l id:Nat)(J:St→Prop)(Q:Exit→St→Prop)(s:St):NC l J Q (.exit id) s=Q (.exit id) s:=rfl
def ac6(k:St→Prop):Exit→St→Prop
 | .normal,s=>k s
 | _,_=>False
theorem F8(k:St→Prop)(s:St):ac6 k .normal s=k s:=rfl
theorem ach{ex:List Nat}(hm:P.follows .mixedOrders=true){x y:Code}{l:Nat}{Q:Exit→St→Prop}{s:St}{ι:Type}(S:ι→St)(Inv:ι→Prop)(μ:ι→Nat)(hx:findLabel x l=none)
  (first:wpS (dU ex) P x (ac6 (fun s2=>∃j,Inv j∧Weak s2 (S j))) s)
  (pass:∀i,Inv i→wpS (dU ex) P y (NC l (qK S Inv μ i) Q) (S i)):wpS (dU ex) P (.scope (.seq x (.seq (.label l) y))) Q s:=by
 have hD:=eu (P:=P) ex hm
 intro C L a w hT hft S0
 simp only[oQ,Bool.and_eq_true] at hft
 have hf:findLabel (.seq x (.seq (.label l) y)) l=some (.seq .skip y):=by simp [findLabel,hx]
 have pass':∀i,Inv i→wpS (dU ex) P (.seq .skip y) (NC l (qK S Inv μ i) Q) (S i):=fun i hi=>by
  rw[JC];exact pass i hi
 have first':(Code.seq x (.seq (.label l) y)).wp P (Ez C (NC l (fun s2=>∃j,Inv j∧Weak s2 (S j)) Q)) a w:=by
  refine wp_seq (Code.wp_mono ?_ (mM hD hT x first hft.1 S0))
  rintro e a' w' ⟨s',L',h',S'⟩
  cases e with
  | normal =>
   obtain⟨j,hj,hw⟩:=h'
   obtain⟨L2,S2⟩:=hw C L' a' w' S'
   refine wp_seq (wp_label ?_)
   refine Code.wp_mono ?_ (mM hD hT y (pass j hj) hft.2.2 S2)
   rintro e2 a2 w2 ⟨s2,L3,h2,S3⟩
   cases e2 with
   | goto l' =>
    obtain⟨h3,m,s3,_,hw3,j3,hj3,_,rfl⟩:=h2
    exact⟨s2,L3,⟨h3,j3,hj3,hw3⟩,S3⟩
   | _=>exact⟨s2,L3,h2,S3⟩
  | _=>exact h'.elim
 intro b k cs
 have hg:gotoIn l (.inScope (.seq x (.seq (.label l) y))::k)=some (.code (.seq .skip y) :: .inScope (.seq x (.seq (.label l) y))::k):=by simp [gotoIn,hf]
 have key:∀n i L a w,μ i=n→Inv i→Sim C (S i) L a w→∃e a' w',Ez C Q e a' w'∧Arrives P (lone (b.at a (.code (.seq .skip y) :: .inScope (.seq x (.seq (.label l) y))::k)) cs w) b k cs e a' w':=by
  intro n
  induction n using Nat.strongRecOn with
  | _ n ih =>
   intro i L a w hn hi Si
   obtain⟨e,a₁,w₁,⟨s1,L1,hq,S1⟩,harr⟩:=mM hD hT (.seq .skip y) (pass' i hi) (by simp [oQ,hft.2.2]) Si b (.inScope (.seq x (.seq (.label l) y))::k) cs
   cases e with
   | normal=>exact⟨.normal,a₁,w₁,⟨s1,L1,hq,S1⟩,Steps.trans harr (.one step_inScope)⟩
   | exit id=>exact⟨.exit id,a₁,w₁,⟨s1,L1,hq,S1⟩,fun k' hk=>harr k' (by simp [exitTo,hk])⟩
   | goto l' =>
    obtain⟨rfl,m,s3,hlt,hw,j,hj,rfl,rfl⟩:=hq
    obtain⟨L3,S3⟩:=hw C L1 a₁ w₁ S1
    obtain⟨e₂,a₂,w₂,hq₂,harr₂⟩:=ih _ (by omega) j L3 a₁ w₁ rfl hj S3
    exact⟨e₂,a₂,w₂,hq₂,.of_steps (harr _ hg) harr₂⟩
   | ret=>exact⟨_,a₁,w₁,⟨s1,L1,hq,S1⟩,harr⟩
   | panic ch=>exact⟨_,a₁,w₁,⟨s1,L1,hq,S1⟩,harr⟩
   | outgrown=>exact⟨_,a₁,w₁,⟨s1,L1,hq,S1⟩,harr⟩
 obtain⟨e,a₁,w₁,⟨s1,L1,hq,S1⟩,harr⟩:=first' b (.inScope (.seq x (.seq (.label l) y))::k) cs
 cases e with
 | normal=>exact⟨.normal,a₁,w₁,⟨s1,L1,hq,S1⟩,.head step_scope (Steps.trans harr (.one step_inScope))⟩
 | exit id=>exact⟨.exit id,a₁,w₁,⟨s1,L1,hq,S1⟩,fun k' hk => .head step_scope (harr k' (by simp [exitTo,hk]))⟩
 | goto l' =>
  obtain⟨rfl,j,hj,hw⟩:=hq
  obtain⟨L3,S3⟩:=hw C L1 a₁ w₁ S1
  obtain⟨e₂,a₂,w₂,hq₂,harr₂⟩:=key _ j L3 a₁ w₁ rfl hj S3
  exact⟨e₂,a₂,w₂,hq₂,.of_steps (.head step_scope (harr _ hg)) harr₂⟩
 | ret=>exact⟨_,a₁,w₁,⟨s1,L1,hq,S1⟩,.of_steps (.one step_scope) harr⟩
 | panic ch=>exact⟨_,a₁,w₁,⟨s1,L1,hq,S1⟩,.of_steps (.one step_scope) harr⟩
 | outgrown=>exact⟨_,a₁,w₁,⟨s1,L1,hq,S1⟩,.of_steps (.one step_scope) harr⟩
theorem Ym(D:Dw)(l:Nat)(Q:Exit→St→Prop)(s:St):wpS D P (.goto l) Q s=Q (.goto l) s:=rfl
theorem ND(D:Dw)(l:Nat)(y:Code)(Q:Exit→St→Prop)(s:St):l7 D P y Q (.goto l) s=Q (.goto l) s:=rfl
theorem Yn(id l:Nat)(Q:Exit→St→Prop)(s:St):inB id Q (.goto l) s=Q (.goto l) s:=rfl
theorem NE{ι:Type}(S:ι→St)(Inv:ι→Prop)(μ:ι→Nat)(i:ι)(Q:Exit→St→Prop)(l:Nat)(s:St):yV S Inv μ i Q (.goto l) s=Q (.goto l) s:=rfl
end
def pgj:=aI @F8 (aI @Tc (aI @JE (aI @Yl (aI @Td (aI @Ym (aI @ND (aI @Yn @NE)))))))
end Go.Pg
end
namespace Go.Proofs.YtiohdbjggmmjcaaGreat
open Go Go.Pg
theorem tE{p q r:Prop}(hq:q)(hr:r)(h:q→r→p:=by
  intro hq hr
  (with_reducible first|refine aj (fun hc => ?_) (fun hc => ?_)|refine ai (fun hc => ?_) (fun hc => ?_)|refine ak (fun hc => ?_) (fun hc => ?_)|refine Xd _ _ (fun hc => ?_) (fun hc => ?_)|refine au (fun hc => ?_) (fun hc => ?_))
  ·(try simp only[hc]);(try simp only[pgd] at hc);revert hc;exact hq
  ·(try simp only[hc]);(try simp only[pgd] at hc);revert hc;exact hr):p:=h hq hr
theorem tC{p q:Prop}(hq:q)(h:q→p:=by intro hq;first|(with_reducible show bU _ _ _ _ _ _);exact hq|(with_reducible show ig _ _ _ _ _ _);refine dV ?_;exact hq):p:=h hq
theorem xK{p q:Prop}(hq:q)(h:q→p:=by intro hq;first|(with_reducible refine bH ?_);exact hq|(with_reducible refine cK ?_);exact hq):p:=h hq
theorem eE{p:Prop}(h:p:=by (try simp only[bu,jm,cO,cu,pgo,simprocAttr,and_true,true_and]);(try (repeat' (first|exact trivial|rfl|apply aI)))):p:=h
end Go.Proofs.YtiohdbjggmmjcaaGreat
section
namespace Go.Pg
open Go
def tuO(id k:Nat)(ys:List V)(v:V):V :=
 match v with
 | .sl (.own j e) k' xs=>if j=id then (if k'=k∧xs.length≤ys.length then .sl (.own j e) k' (ys.take xs.length) else .top) else .sl (.own j e) k' xs
 | .el (.own j e) k' xs i off=>if j=id then (if k'=k∧xs.length≤ys.length then .el (.own j e) k' (ys.take xs.length) i off else .top) else .el (.own j e) k' xs i off
 | v=>aJ id v
structure TurnAt (w w':World) (g:Nat):Prop where
 os:w'.os=w.os
 tape:w'.tape=w.tape
 output:w'.output=w.output
 size:w.heap.size≤w'.heap.size
 block:∀k,k<w.heap.size→k≠g→w'.heap[k]?=w.heap[k]?
 drawn:w.drawn≤w'.drawn
section
variable {P:Program} {C:Cx} {s:St} {L L':Lay} {a:Act} {w w':World}
theorem aci{id k g:Nat}{ys:List V}{cells':List Value}{arr arr':Array Value}{e:TypeId}(W:Wf C s.nid L w)(hg:L.own id=some g)(ha:w.heap[g]?=some (.cells arr e (0,0)))
  (ha':w'.heap[g]?=some (.cells arr' e (0,0))) (hsz:arr'.size=arr.size) (htk:arr'.toList.take (ys.length*k)=cells') (hr:RepE L w k ys cells') (T:TurnAt w w' g) {v:V} {u:Value} (h:Rep L w v u):Rep L w' (tuO id k ys v) u:=by
 have K:Trans (Tag.is id) (fun _=>false) _root_.id _root_.id L L w w' :=
  ⟨rfl,fun g' h=>⟨h,.of (T.block g' (W.old g' h) (fun e=>by subst e;exact (W.own id _ hg).2.2 h))⟩,
   fun j e hj g' h=>⟨⟨rfl,h⟩,T.block g' (W.own j g' h).1 (fun e=>by subst e;have:=W.injO j id _ h hg;simp [Tag.is,this] at hj)⟩,
   fun b _ g' h=>⟨h,.of (T.block g' (W.boxW b g' h).1 (fun e=>by subst e;exact W.dis id b _ hg h))⟩⟩
 have hr':=RepE.trans (p:=Tag.is id) (q:=fun _=>false) rfl K hr
 have part:∀n,n≤ys.length→arr'.toList.take (n*k)=cells'.take (n*k):=by
  intro n hn
  rw[←htk,List.take_take,Nat.min_eq_left (Nat.mul_le_mul_right k hn)]
 unfold tuO
 split
 ·rename_i j e' k' xs
  split
  ·rename_i hj
   subst hj
   split
   ·rename_i hkk
    obtain⟨rfl,hle⟩:=hkk
    obtain⟨ad,cap,cells,rfl,h2,h3⟩:=h
    have hl:(ys.take xs.length).length=xs.length:=by simp;omega
    rcases h3 with ⟨h4,rfl,rfl⟩|⟨g',arr0,h4,rfl,h5,h6,h7,h8,h9⟩
    ·have hx0:xs=[]:=List.eq_nil_of_length_eq_zero h4
     subst hx0
     exact⟨none,0,[],by simp,by simp [RepE],.inl ⟨by simp,rfl,rfl⟩⟩
    ·rw[hg] at h4
     simp only[Option.some.injEq] at h4
     subst h4
     rw[ha] at h5
     simp only[Option.some.injEq,Obj.cells.injEq] at h5
     obtain⟨rfl,rfl,_⟩:=h5
     exact⟨some ⟨g,0,none⟩,cap,cells'.take (xs.length*k'),by rw[hl],hr'.take xs.length,.inr ⟨g,arr',hg,rfl,ha',by rw[hl];exact h6,h7,by rw[hsz,h8],by rw[hl];exact part _ hle⟩⟩
   ·trivial
  ·rename_i hj
   have:=h.trans rfl K (by simp [V.any,Tag.is,hj])
   rwa [map_id.1] at this
 ·rename_i j e' k' xs i off
  split
  ·rename_i hj
   subst hj
   split
   ·rename_i hkk
    obtain⟨rfl,hle⟩:=hkk
    obtain⟨g',o,cells,rfl,h2,h4,rfl,arr0,h5,h6⟩:=h
    rw[hg] at h4
    simp only[Option.some.injEq] at h4
    subst h4
    rw[ha] at h5
    simp only[Option.some.injEq,Obj.cells.injEq] at h5
    obtain⟨rfl,rfl,_⟩:=h5
    have hcl:=hr'.length
    have hl:(cells'.take (xs.length*k')).length=xs.length*k':=by
     rw[List.length_take,hcl]
     exact Nat.min_eq_left (Nat.mul_le_mul_right k' hle)
    exact⟨g,0,cells'.take (xs.length*k'),rfl,hr'.take xs.length,hg,rfl,arr',ha',by rw[hl];exact part _ hle⟩
   ·trivial
  ·rename_i hj
   have:=h.trans rfl K (by simp [V.any,Tag.is,hj])
   rwa [map_id.1] at this
 ·exact jR K h
theorem Sim.turn{id k g:Nat}{ys:List V}{cells':List Value}{arr arr':Array Value}{e:TypeId}(S:Sim C s L a w)(hg:L.own id=some g)(ha:w.heap[g]?=some (.cells arr e (0,0)))
  (ha':w'.heap[g]?=some (.cells arr' e (0,0))) (hsz:arr'.size=arr.size) (htk:arr'.toList.take (ys.length*k)=cells') (hr:RepE L w k ys cells') (T:TurnAt w w' g):Sim C (s.mapV (tuO id k ys)) L a w':=by
 have W:=S.wf
 have hψ:∀v u,Rep L w v u→Rep L w' (tuO id k ys v) u:=fun v u h=>aci W hg ha ha' hsz htk hr T h
 refine⟨S.defers,S.size,fun t=>hψ _ _ (S.env t),fun t=>hψ _ _ (S.hid t), ?_,W.mono (Nat.le_refl _) T.size,S.kp.trans ⟨T.os,T.tape,T.output,T.size,fun k hk hW => ?_,T.drawn⟩⟩
 ·intro j x hj
  simp only[St.mapV,Option.map_eq_some_iff] at hj
  obtain⟨l,hl,rfl⟩:=hj
  obtain⟨g',arr',k1,k2,k3⟩:=S.box j l hl
  refine⟨g',arr',k1,(T.block g' (W.boxW j g' k1).1 (fun e=>by subst e;exact W.dis id j _ hg k1)).trans k2, ?_⟩
  show Reps _ _ (l.2.map (tuO id k ys)) (arr'.toList.take (l.2.map (tuO id k ys)).length)
  rw[List.length_map]
  exact iZ hψ k3
 ·refine T.block k (by have:=S.hB;omega) (fun e => ?_)
  subst e
  rcases (W.own id _ hg).2.1 with h|h
  ·omega
  ·exact hW h
theorem Sim.grew(S:Sim C s L a w)(G:Grow w w'):Sim C s L a w' :=
 S.grow G ⟨fun _ h=>h,fun _ _ h=>h,fun _ _ h=>h⟩ rfl (fun b cs h => .inl h) (S.wf.mono (Nat.le_refl _) G.size)
end
theorem Kp.grew{w w':World}(K:Kp (fun _=>False) w.heap.size w w'):∃q os,w'=Sort.grow (w.drewN q) os:=by
 obtain⟨hp,tp,dr,os,out⟩:=w
 obtain⟨hp',tp',dr',os',out'⟩:=w'
 obtain⟨h1,h2,h3,h4,h5,h6⟩:=K
 simp only at h1 h2 h3 h4 h5 h6
 subst h1;subst h2;subst h3
 refine⟨dr'-dr,hp'.extract hp.size hp'.size, ?_⟩
 simp only[Sort.grow,World.drewN,World.mk.injEq,true_and,and_true]
 refine⟨?_,by omega⟩
 apply Array.ext_getElem?
 intro k
 by_cases hk:k<hp.size
 ·rw[Array.getElem?_append_left hk,h5 k hk (fun h=>h)]
 ·rw[Array.getElem?_append_right (by omega),Array.getElem?_extract]
  by_cases hk2:k<hp'.size
  ·rw[if_pos (by omega)];congr 1;omega
  ·rw[if_neg (by omega),Array.getElem?_eq_none (by omega)]
theorem JF{α:Type}[Inhabited α](enc:α→Value){w:World}{g:Nat}{arr:Array Value}{e:TypeId}{fr:Nat × Nat}(ha:w.heap[g]?=some (.cells arr e fr))(d:Array α)(hd:d.size≤arr.size)(n:Nat)(os:Array Obj) :
  TurnAt w (Sort.grow (Sort.putRow enc (Sort.ahead w n) g 0 d) os) g∧∃arr',(Sort.grow (Sort.putRow enc (Sort.ahead w n) g 0 d) os).heap[g]?=some (.cells arr' e fr)∧arr'.size=arr.size∧arr'.toList.take d.size=d.toList.map enc:=by
 have hgl:g<w.heap.size:=(Array.getElem?_eq_some_iff.1 ha).1
 have hh:∀k,k<w.heap.size→(Sort.grow (Sort.putRow enc (Sort.ahead w n) g 0 d) os).heap[k]?=if g=k then (w.heap[k]?).map (Sort.onCells (Sort.putCells enc 0 d)) else w.heap[k]?:=by
  intro k hk
  simp only[Sort.grow,Sort.putRow,Sort.mapBlock,Sort.ahead]
  rw[Array.getElem?_append_left (by simpa using hk),Array.getElem?_modify]
 refine⟨⟨rfl,rfl,rfl,by simp [Sort.grow,Sort.putRow,Sort.mapBlock,Sort.ahead],fun k hk hkg=>by rw[hh k hk,if_neg (Ne.symm hkg)],Nat.le_add_right _ _⟩,Sort.putCells enc 0 d arr, ?_,by simp [Sort.putCells], ?_⟩
 ·rw[hh g hgl,if_pos rfl,ha]
  rfl
 ·apply List.ext_getElem?
  intro k
  rw[List.getElem?_take,List.getElem?_map]
  by_cases hk:k<d.size
  ·rw[if_pos hk]
   simp only[Sort.putCells,Array.getElem?_toList,Array.getElem?_mapIdx]
   rw[Array.getElem?_eq_getElem (by omega:k<arr.size),Array.getElem?_eq_getElem hk]
   simp only[Option.map_some,Nat.zero_le,Nat.zero_add,hk,and_self,if_true,Nat.sub_zero]
   rw[getElem!_pos d k hk]
  ·rw[if_neg hk,Array.getElem?_toList,Array.getElem?_eq_none (by omega)];rfl
theorem ac7(id k:Nat)(ys:List V)(v:Value):tuO id k ys (.c v) = .c v:=rfl
theorem Yo(id k:Nat)(ys:List V)(k':Nat)(xs:List V):tuO id k ys (.sl .fz k' xs) = .sl .fz k' xs:=rfl
theorem ae7(id k:Nat)(ys:List V)(k':Nat)(xs:List V):tuO id k ys (.sl .nn k' xs) = .sl .nn k' xs:=rfl
theorem Ph(id k:Nat)(ys:List V)(b o:Nat):tuO id k ys (.ref b o) = .ref b o:=rfl
theorem ae8(id k:Nat)(ys:List V)(b:Nat)(e:TypeId)(o k' n:Nat):tuO id k ys (.bs b e o k' n) = .bs b e o k' n:=rfl
theorem acj(id k:Nat)(ys:List V):tuO id k ys .top = .top:=by show aJ id .top = .top;unfold aJ;split<;>rfl
theorem ack(id k:Nat)(ys:List V):tuO id k ys .nif = .nif:=rfl
theorem ae9(id k:Nat)(ys:List V)(f:FuncId)(l m:List V):tuO id k ys (.fn f l m)=aJ id (.fn f l m):=rfl
theorem acl(id k:Nat)(ys:List V)(l:List V):tuO id k ys (.tup l)=aJ id (.tup l):=rfl
theorem acm(id k:Nat)(ys:List V)(l:List V):tuO id k ys (.agg l)=aJ id (.agg l):=rfl
theorem Ae(id k:Nat)(ys:List V)(e:TypeId)(xs:List V)(h:xs.length=ys.length):tuO id k ys (.sl (.own id e) k xs) = .sl (.own id e) k ys:=by
 simp [tuO,h]
theorem afa(id k:Nat)(ys:List V)(j:Nat)(e:TypeId)(k':Nat)(xs:List V)(h:j≠id):tuO id k ys (.sl (.own j e) k' xs) = .sl (.own j e) k' xs:=by
 simp [tuO,h]
theorem Af{id k:Nat}{ys:List V}{v:V}(h:v.has id=false):tuO id k ys v=v:=by
 unfold tuO
 split
 ·rename_i j e k' xs
  have:¬j=id:=by simpa [V.has,V.any,Tag.is] using h
  rw[if_neg this]
 ·rename_i j e k' xs i off
  have:¬j=id:=by simpa [V.has,V.any,Tag.is] using h
  rw[if_neg this]
 ·unfold aJ;rw[h];rfl
def acn:=aI @ac7 (aI @Yo (aI @ae7 (aI @Ph (aI @ae8 (aI @acj (aI @ack (aI @Ae (aI @afa (aI @ae9 (aI @acl @acm))))))))))
end Go.Pg
end
section
namespace Go.Pg
open Go
section
variable {P:Program} [Tb P] {C:Cx} {s:St} {L L':Lay} {a:Act} {w w':World}
theorem aco{l:List Value}(h1:∀v∈l,v.cells=#[v]):∀{us:List Value},RepE L w 1 (l.map V.c) us→us=l:=by
 induction l with
 | nil=>intro us h;exact h
 | cons x xs ih =>
  rintro us ⟨u,r,rfl,_,_,h4,h5⟩
  simp only[Rep] at h4
  subst h4
  rw[ih (fun v hv=>h1 v (by simp [hv])) h5,h1 _ (by simp)]
  rfl
theorem acp{l:List Value}(h1:∀v∈l,v.cells=#[v]∧v.oneCell'=true):RepE L w 1 (l.map V.c) l:=by
 induction l with
 | nil=>rfl
 | cons x xs ih =>
  have hx:=h1 x (by simp)
  exact⟨x,xs,by rw[hx.1];rfl,by rw[hx.1];rfl,⟨rfl,by rw[hx.1];simp [hx.2]⟩,rfl,ih (fun v hv=>h1 v (by simp [hv]))⟩
theorem afb{α:Type}[Inhabited α]{f:FuncId}(enc:α→Value)(h1:∀x,(enc x).cells=#[enc x]∧(enc x).oneCell'=true)(l l':List α)(hl:l'.length=l.length)(hen:jD P f=true)
  (H:∀(blk cap:Nat) (w:World),Sort.Holds enc w blk 0 l.toArray→blk<w.heap.size→Calls P f #[.slice (some ⟨blk,0,none⟩) l.length cap] w fun e w'=>e = .returned (.tuple #[])∧∃n os,w'=Sort.grow (Sort.putRow enc (Sort.ahead w n) blk 0 l'.toArray) os)
  (H0:∀p cap w,l.length=0→Calls P f #[.slice p 0 cap] w fun e w'=>e = .returned (.tuple #[])∧w'=w) (id:Nat) (e:TypeId) (s:St) :
  GoodZ P f [.sl (.own id e) 1 (l.map fun x=>V.c (enc x))] s (s.mapV (tuO id 1 (l'.map fun x=>V.c (enc x)))) (.tup []):=by
 have em:∀l:List α,(l.map fun x=>V.c (enc x))=(l.map enc).map V.c:=fun l=>by simp
 rintro C L a w cargs hT S ⟨u,r,rfl,⟨ad,cap,cells,rfl,h2,h3⟩,hr⟩
 simp only[Reps] at hr
 subst hr
 rw[em] at h2
 have hce:=aco (fun v hv=>by obtain⟨x,_,rfl⟩:=List.mem_map.1 hv;exact (h1 x).1) h2
 subst hce
 refine .inl ⟨hen, ?_⟩
 simp only[List.length_map] at h3 ⊢
 rcases h3 with ⟨h4,rfl,rfl⟩|⟨g,arr,h4,rfl,h5,h6,h7,h8,h9⟩
 ·rw[h4]
  have hn:l=[]:=List.eq_nil_of_length_eq_zero h4
  subst hn
  refine (H0 none 0 w rfl).mono ?_
  rintro e' w' ⟨rfl,rfl⟩
  have hn':l'=[]:=List.eq_nil_of_length_eq_zero (by simpa using hl)
  subst hn'
  refine⟨_,L,rfl, ?_,#[],rfl,rfl⟩
  have K:Trans (fun _=>false) (fun _=>false) _root_.id _root_.id L L w' w':=⟨rfl,fun g h=>⟨h,.of rfl⟩,fun id e _ g h=>⟨⟨rfl,h⟩,rfl⟩,fun _ _ _ h=>⟨h,.of rfl⟩⟩
  have hψ:∀v u,Rep L w' v u→Rep L w' (tuO id 1 [] v) u:=by
   intro v u h
   unfold tuO
   split
   ·rename_i j e' k' xs
    split
    ·split
     ·rename_i hk;obtain⟨rfl,hxs⟩:=hk
      have:xs=[]:=List.eq_nil_of_length_eq_zero (by simpa using hxs)
      subst this;exact h
     ·trivial
    ·exact h
   ·rename_i j e' k' xs i off
    split
    ·split
     ·rename_i hk;obtain⟨rfl,hxs⟩:=hk
      have:xs=[]:=List.eq_nil_of_length_eq_zero (by simpa using hxs)
      subst this;exact h
     ·trivial
    ·exact h
   ·unfold aJ;split
    ·trivial
    ·exact h
  refine⟨S.defers,S.size,fun t=>hψ _ _ (S.env t),fun t=>hψ _ _ (S.hid t), ?_,S.wf,S.kp⟩
  intro j x hj
  simp only[St.mapV,Option.map_eq_some_iff] at hj
  obtain⟨l2,hl2,rfl⟩:=hj
  obtain⟨g',arr',k1,k2,k3⟩:=S.box j l2 hl2
  refine⟨g',arr',k1,k2, ?_⟩
  show Reps _ _ (l2.2.map (tuO id 1 [])) (arr'.toList.take (l2.2.map (tuO id 1 [])).length)
  rw[List.length_map]
  exact iZ hψ k3
 ·have hgl:=(Array.getElem?_eq_some_iff.1 h5).1
  have hcap:l.length≤arr.size:=by rw[h8];omega
  have hH:Sort.Holds enc w g 0 l.toArray:=by
   intro j hj
   simp only[List.size_toArray] at hj
   refine⟨?_,by simp [World.frozen?,h5]⟩
   have hrow:Row w g 0 (l.map enc):=⟨arr,e,(0,0),h5,by simpa using h9⟩
   have:=hrow.cell (j:=j) (v:=enc l[j]) (by simp [hj])
   rw[this]
   simp [hj]
  refine (H g cap w hH hgl).mono ?_
  rintro e' w' ⟨rfl,n,os,rfl⟩
  obtain⟨T,arr',k1,k2,k3⟩:=JF enc h5 l'.toArray (by simpa [hl] using hcap) n os
  refine⟨_,L,rfl, ?_,#[],rfl,rfl⟩
  refine Sim.turn (cells':=l'.map enc) S h4 h5 k1 k2 ?_ ?_ T
  ·simpa [hl] using k3
  ·rw[em]
   exact acp (fun v hv=>by obtain⟨x,_,rfl⟩:=List.mem_map.1 hv;exact h1 x)
end
end Go.Pg
end
namespace Go.Proofs.YtiohdbjggmmjcaaGreat
open Go.Shelf Go.RowKit Go.Sort
def Tryz.laysSlM5_f125_ren:Go.Shelf.Ren:=⟨fun|5=>125|8=>159|7=>158|19=>181|20=>182|10=>172|11=>173|12=>174|13=>175|14=>176|15=>177|16=>178|17=>179|18=>180|30=>203|31=>204|32=>205|33=>206|34=>207|35=>183|40=>216|n=>n,fun|23=>22|25=>3|3=>3|32=>47|22=>22|0=>0|44=>194|46=>23|4=>4|36=>189|35=>188|41=>108|5=>5|9=>9|53=>206|57=>210|63=>216|64=>217|n=>n,fun|n=>n⟩
theorem Tryz.laysSlM5_f125:Go.Proofs.SlLaysM.n5 Tryz.prog Tryz.laysSlM5_f125_ren:={
 mixed:=by kernel_rfl
 f5:=⟨Tryz.f125.name,by decide,Tryz.func125.trans (congrArg some (by kernel_rfl))⟩
 f7:=⟨Tryz.f158.name,by decide,Tryz.func158.trans (congrArg some (by kernel_rfl))⟩
 f8:=Tryz.func159.trans (congrArg some (by kernel_rfl))
 f10:=⟨Tryz.f172.name,by decide,Tryz.func172.trans (congrArg some (by kernel_rfl))⟩
 f11:=⟨Tryz.f173.name,by decide,Tryz.func173.trans (congrArg some (by kernel_rfl))⟩
 f12:=⟨Tryz.f174.name,by decide,Tryz.func174.trans (congrArg some (by kernel_rfl))⟩
 f13:=⟨Tryz.f175.name,by decide,Tryz.func175.trans (congrArg some (by kernel_rfl))⟩
 f14:=⟨Tryz.f176.name,by decide,Tryz.func176.trans (congrArg some (by kernel_rfl))⟩
 f15:=⟨Tryz.f177.name,by decide,Tryz.func177.trans (congrArg some (by kernel_rfl))⟩
 f16:=⟨Tryz.f178.name,by decide,Tryz.func178.trans (congrArg some (by kernel_rfl))⟩
 f17:=⟨Tryz.f179.name,by decide,Tryz.func179.trans (congrArg some (by kernel_rfl))⟩
 f18:=⟨Tryz.f180.name,by decide,Tryz.func180.trans (congrArg some (by kernel_rfl))⟩
 f19:=Tryz.func181.trans (congrArg some (by kernel_rfl))
 f20:=Tryz.func182.trans (congrArg some (by kernel_rfl))
 f30:=⟨Tryz.f203.name,by decide,Tryz.func203.trans (congrArg some (by kernel_rfl))⟩
 f31:=Tryz.func204.trans (congrArg some (by kernel_rfl))
 f32:=Tryz.func205.trans (congrArg some (by kernel_rfl))
 f33:=⟨Tryz.f206.name,by decide,Tryz.func206.trans (congrArg some (by kernel_rfl))⟩
 f34:=⟨Tryz.f207.name,by decide,Tryz.func207.trans (congrArg some (by kernel_rfl))⟩
 f35:=⟨Tryz.f183.name,by decide,Tryz.func183.trans (congrArg some (by kernel_rfl))⟩
 f40:=⟨Tryz.f216.name,by decide,Tryz.func216.trans (congrArg some (by kernel_rfl))⟩
 t0:=Tryz.underlying0
 a0:=Tryz.isAgg0
 z0:=Tryz.sizeOf0
 v0:=Tryz.zeroValue0
 t3:=Tryz.underlying3
 a3:=Tryz.isAgg3
 z3:=Tryz.sizeOf3
 v3:=Tryz.zeroValue3
 t4:=Tryz.underlying4
 a4:=Tryz.isAgg4
 z4:=Tryz.sizeOf4
 v4:=Tryz.zeroValue4
 t5:=Tryz.underlying5
 a5:=Tryz.isAgg5
 z5:=Tryz.sizeOf5
 v5:=Tryz.zeroValue5
 t9:=Tryz.underlying9
 a9:=Tryz.isAgg9
 z9:=Tryz.sizeOf9
 v9:=Tryz.zeroValue9
 t22:=Tryz.underlying22
 a22:=Tryz.isAgg22
 z22:=Tryz.sizeOf22
 v22:=Tryz.zeroValue22
 t23:=Tryz.underlying22
 a23:=Tryz.isAgg22
 z23:=Tryz.sizeOf22
 v23:=Tryz.zeroValue22
 t25:=Tryz.underlying3
 a25:=Tryz.isAgg3
 z25:=Tryz.sizeOf3
 v25:=Tryz.zeroValue3
 t32:=Tryz.underlying47
 a32:=Tryz.isAgg47
 z32:=Tryz.sizeOf47
 v32:=Tryz.zeroValue47
 t35:=Tryz.underlying188
 a35:=Tryz.isAgg188
 z35:=Tryz.sizeOf188
 v35:=Tryz.zeroValue188
 t36:=Tryz.underlying189
 a36:=Tryz.isAgg189
 z36:=Tryz.sizeOf189
 v36:=Tryz.zeroValue189
 t41:=Tryz.underlying108
 a41:=Tryz.isAgg108
 z41:=Tryz.sizeOf108
 v41:=Tryz.zeroValue108
 t44:=Tryz.underlying194
 a44:=Tryz.isAgg194
 z44:=Tryz.sizeOf194
 v44:=Tryz.zeroValue194
 t46:=Tryz.underlying23
 a46:=Tryz.isAgg23
 z46:=Tryz.sizeOf23
 v46:=Tryz.zeroValue23
 t53:=Tryz.underlying206
 a53:=Tryz.isAgg206
 z53:=Tryz.sizeOf206
 v53:=Tryz.zeroValue206
 t57:=Tryz.underlying210
 a57:=Tryz.isAgg210
 z57:=Tryz.sizeOf210
 v57:=Tryz.zeroValue210
 t63:=Tryz.underlying216
 a63:=Tryz.isAgg216
 z63:=Tryz.sizeOf216
 v63:=Tryz.zeroValue216
 t64:=Tryz.underlying217
 a64:=Tryz.isAgg217
 z64:=Tryz.sizeOf217
 v64:=Tryz.zeroValue217 }
theorem Tryz.slices_Sort_int(blk off cap:Nat)(zs:List Int)(w:World)(hH:Holds (Value.int .i64) w blk off zs.toArray)(hblk:blk<w.heap.size)(hsz:zs.length<4611686018427387904) :
  Calls Tryz.prog 125 #[.slice (some ⟨blk,off,none⟩) zs.length cap] w fun e w' =>
   e = .returned (.tuple #[])∧∃n os,w'=grow (putRow (Value.int .i64) (Sort.ahead w n) blk off (zs.mergeSort fun x y=>decide (x≤y)).toArray) os:=AnyM.slices_Sort_int Tryz.laysSlM5_f125 blk off cap zs w hH hblk hsz
def Tryz.laysSlM6_f146_ren:Go.Shelf.Ren:=⟨fun|6=>146|8=>159|9=>169|19=>181|20=>182|21=>194|22=>195|23=>196|24=>197|25=>198|26=>199|27=>200|28=>201|29=>202|36=>212|31=>204|32=>205|37=>213|38=>214|39=>215|41=>218|n=>n,fun|27=>98|29=>9|3=>3|32=>47|26=>98|0=>0|44=>194|46=>23|4=>4|36=>189|35=>188|41=>108|5=>5|9=>9|53=>206|57=>210|63=>216|64=>217|n=>n,fun|n=>n⟩
theorem Tryz.laysSlM6_f146:Go.Proofs.SlLaysM.n6 Tryz.prog Tryz.laysSlM6_f146_ren:={
 mixed:=by kernel_rfl
 f6:=⟨Tryz.f146.name,by decide,Tryz.func146.trans (congrArg some (by kernel_rfl))⟩
 f8:=Tryz.func159.trans (congrArg some (by kernel_rfl))
 f9:=⟨Tryz.f169.name,by decide,Tryz.func169.trans (congrArg some (by kernel_rfl))⟩
 f19:=Tryz.func181.trans (congrArg some (by kernel_rfl))
 f20:=Tryz.func182.trans (congrArg some (by kernel_rfl))
 f21:=⟨Tryz.f194.name,by decide,Tryz.func194.trans (congrArg some (by kernel_rfl))⟩
 f22:=⟨Tryz.f195.name,by decide,Tryz.func195.trans (congrArg some (by kernel_rfl))⟩
 f23:=⟨Tryz.f196.name,by decide,Tryz.func196.trans (congrArg some (by kernel_rfl))⟩
 f24:=⟨Tryz.f197.name,by decide,Tryz.func197.trans (congrArg some (by kernel_rfl))⟩
 f25:=⟨Tryz.f198.name,by decide,Tryz.func198.trans (congrArg some (by kernel_rfl))⟩
 f26:=⟨Tryz.f199.name,by decide,Tryz.func199.trans (congrArg some (by kernel_rfl))⟩
 f27:=⟨Tryz.f200.name,by decide,Tryz.func200.trans (congrArg some (by kernel_rfl))⟩
 f28:=⟨Tryz.f201.name,by decide,Tryz.func201.trans (congrArg some (by kernel_rfl))⟩
 f29:=⟨Tryz.f202.name,by decide,Tryz.func202.trans (congrArg some (by kernel_rfl))⟩
 f31:=Tryz.func204.trans (congrArg some (by kernel_rfl))
 f32:=Tryz.func205.trans (congrArg some (by kernel_rfl))
 f36:=⟨Tryz.f212.name,by decide,Tryz.func212.trans (congrArg some (by kernel_rfl))⟩
 f37:=⟨Tryz.f213.name,by decide,Tryz.func213.trans (congrArg some (by kernel_rfl))⟩
 f38:=⟨Tryz.f214.name,by decide,Tryz.func214.trans (congrArg some (by kernel_rfl))⟩
 f39:=⟨Tryz.f215.name,by decide,Tryz.func215.trans (congrArg some (by kernel_rfl))⟩
 f41:=⟨Tryz.f218.name,by decide,Tryz.func218.trans (congrArg some (by kernel_rfl))⟩
 t0:=Tryz.underlying0
 a0:=Tryz.isAgg0
 z0:=Tryz.sizeOf0
 v0:=Tryz.zeroValue0
 t3:=Tryz.underlying3
 a3:=Tryz.isAgg3
 z3:=Tryz.sizeOf3
 v3:=Tryz.zeroValue3
 t4:=Tryz.underlying4
 a4:=Tryz.isAgg4
 z4:=Tryz.sizeOf4
 v4:=Tryz.zeroValue4
 t5:=Tryz.underlying5
 a5:=Tryz.isAgg5
 z5:=Tryz.sizeOf5
 v5:=Tryz.zeroValue5
 t9:=Tryz.underlying9
 a9:=Tryz.isAgg9
 z9:=Tryz.sizeOf9
 v9:=Tryz.zeroValue9
 t26:=Tryz.underlying98
 a26:=Tryz.isAgg98
 z26:=Tryz.sizeOf98
 v26:=Tryz.zeroValue98
 t27:=Tryz.underlying98
 a27:=Tryz.isAgg98
 z27:=Tryz.sizeOf98
 v27:=Tryz.zeroValue98
 t29:=Tryz.underlying9
 a29:=Tryz.isAgg9
 z29:=Tryz.sizeOf9
 v29:=Tryz.zeroValue9
 t32:=Tryz.underlying47
 a32:=Tryz.isAgg47
 z32:=Tryz.sizeOf47
 v32:=Tryz.zeroValue47
 t35:=Tryz.underlying188
 a35:=Tryz.isAgg188
 z35:=Tryz.sizeOf188
 v35:=Tryz.zeroValue188
 t36:=Tryz.underlying189
 a36:=Tryz.isAgg189
 z36:=Tryz.sizeOf189
 v36:=Tryz.zeroValue189
 t41:=Tryz.underlying108
 a41:=Tryz.isAgg108
 z41:=Tryz.sizeOf108
 v41:=Tryz.zeroValue108
 t44:=Tryz.underlying194
 a44:=Tryz.isAgg194
 z44:=Tryz.sizeOf194
 v44:=Tryz.zeroValue194
 t46:=Tryz.underlying23
 a46:=Tryz.isAgg23
 z46:=Tryz.sizeOf23
 v46:=Tryz.zeroValue23
 t53:=Tryz.underlying206
 a53:=Tryz.isAgg206
 z53:=Tryz.sizeOf206
 v53:=Tryz.zeroValue206
 t57:=Tryz.underlying210
 a57:=Tryz.isAgg210
 z57:=Tryz.sizeOf210
 v57:=Tryz.zeroValue210
 t63:=Tryz.underlying216
 a63:=Tryz.isAgg216
 z63:=Tryz.sizeOf216
 v63:=Tryz.zeroValue216
 t64:=Tryz.underlying217
 a64:=Tryz.isAgg217
 z64:=Tryz.sizeOf217
 v64:=Tryz.zeroValue217 }
theorem Tryz.slices_Sort_string(blk off cap:Nat)(ss:List (List UInt8))(w:World)(hH:Holds encStr w blk off ss.toArray)(hblk:blk<w.heap.size)(hsz:ss.length<4611686018427387904) :
  Calls Tryz.prog 146 #[.slice (some ⟨blk,off,none⟩) ss.length cap] w fun e w' =>
   e = .returned (.tuple #[])∧∃n os,w'=grow (putRow encStr (Sort.ahead w n) blk off (ss.mergeSort fun x y=>decide (x≤y)).toArray) os:=AnyM.slices_Sort_string Tryz.laysSlM6_f146 blk off cap ss w hH hblk hsz
theorem Tryz.slices_Sort_string_none(p:Option Addr)(cap:Nat)(w:World) :
  Calls Tryz.prog 146 #[.slice p 0 cap] w fun e w'=>e = .returned (.tuple #[])∧w'=w:=AnyM.slices_Sort_string_none Tryz.laysSlM6_f146 p cap w
theorem Tryz.slices_Sort_int_none(p:Option Addr)(cap:Nat)(w:World) :
  Calls Tryz.prog 125 #[.slice p 0 cap] w fun e w'=>e = .returned (.tuple #[])∧w'=w:=AnyM.slices_Sort_int_none Tryz.laysSlM5_f125 p cap w
end Go.Proofs.YtiohdbjggmmjcaaGreat
namespace Go.Proofs.YtiohdbjggmmjcaaGreat
open Go Go.Pg
def u8(x:List Nat):List UInt8:=(sB x).data.toList
theorem afc(x:List Nat):vs x=V.c (encStr (u8 x)):=by
 show V.c (.string (sB x))=V.c (.string ⟨(sB x).data.toList.toArray⟩)
 rw[Array.toArray_toList]
theorem Cb(a b:List Nat):kl a b=decide (u8 a<u8 b):=by
 unfold kl
 rw[Go.Proofs.bytesLess_eq,Lib.toList_data,Lib.toList_data];rfl
theorem Tf{α:Type}(bf:α→α→Bool)(x:α)(l:List α):(lS bf x l).Perm (x::l):=by
 induction l with
 | nil=>exact List.Perm.refl _
 | cons y ys ih =>
  unfold lS
  split
  ·exact (List.Perm.cons y ih).trans (List.Perm.swap x y ys)
  ·exact List.Perm.refl _
theorem Ti{α:Type}(bf:α→α→Bool)(l:List α):∀acc,(uQ bf acc l).Perm (acc++l):=by
 induction l with
 | nil=>intro acc;rw[List.append_nil];exact List.Perm.refl _
 | cons x l ih =>
  intro acc
  refine (ih _).trans (((Tf bf x acc).append_right l).trans ?_)
  exact List.perm_middle.symm
theorem sS{α:Type}(bf:α→α→Bool)(l:List α):(srt bf l).Perm l:=(List.reverse_perm _).trans (Ti bf l [])
theorem Yp{α:Type}(bf:α→α→Bool)(le:α→α→Prop)(h1:∀x y,bf x y=true→le x y)(h2:∀x y,bf x y=false→le y x)(tr:∀x y z,le x y→le y z→le x z)(x:α)(l:List α)(hl:l.Pairwise fun p q=>le q p):(lS bf x l).Pairwise fun p q=>le q p:=by
 induction l with
 | nil=>simp [lS]
 | cons y ys ih =>
  rw[List.pairwise_cons] at hl
  unfold lS
  split
  ·rename_i hb
   rw[List.pairwise_cons]
   refine⟨fun z hz => ?_,ih hl.2⟩
   rcases (Jh bf x z ys).1 hz with rfl|hz
   ·exact h1 _ _ hb
   ·exact hl.1 z hz
  ·rename_i hb
   have hyx:le y x:=h2 _ _ (by simpa using hb)
   rw[List.pairwise_cons,List.pairwise_cons]
   refine⟨fun z hz => ?_,hl⟩
   rcases List.mem_cons.1 hz with rfl|hz
   ·exact hyx
   ·exact tr _ _ _ (hl.1 z hz) hyx
theorem Pi{α:Type}(bf:α→α→Bool)(le:α→α→Prop)(h1:∀x y,bf x y=true→le x y)(h2:∀x y,bf x y=false→le y x)(tr:∀x y z,le x y→le y z→le x z)(l:List α):(srt bf l).Pairwise le:=by
 have key:∀l acc,acc.Pairwise (fun p q=>le q p)→(uQ bf acc l).Pairwise fun p q=>le q p:=by
  intro l
  induction l with
  | nil=>intro acc h;exact h
  | cons x l ih=>intro acc h;exact ih _ (Yp bf le h1 h2 tr x acc h)
 unfold srt
 rw[List.pairwise_reverse]
 exact key l [] List.Pairwise.nil
theorem NF(l:List (List Nat)):(l.map u8).mergeSort (fun x y=>decide (x≤y))=(srt kl l).map u8:=by
 have tr:∀a b c:List UInt8,decide (a≤b)=true→decide (b≤c)=true→decide (a≤c)=true:=fun a b c h1 h2=>by simp only[decide_eq_true_eq] at *;exact List.le_trans h1 h2
 have to:∀a b:List UInt8,(decide (a≤b)||decide (b≤a))=true:=fun a b=>by simp only[Bool.or_eq_true,decide_eq_true_eq];exact List.le_total a b
 refine List.Perm.eq_of_pairwise (le:=fun a b=>decide (a≤b)=true) (fun a b _ _ h1 h2 => ?_) (List.pairwise_mergeSort tr to _) ?_ ((List.mergeSort_perm _ _).trans ((sS kl l).map u8).symm)
 ·simp only[decide_eq_true_eq] at h1 h2
  exact List.le_antisymm h1 h2
 ·rw[List.pairwise_map]
  refine Pi kl (fun a b=>decide (u8 a≤u8 b)=true) (fun x y h => ?_) (fun x y h => ?_) (fun x y z h1 h2=>tr _ _ _ h1 h2) l
  ·rw[Cb,decide_eq_true_eq] at h
   rw[decide_eq_true_eq];exact List.le_of_lt h
  ·rw[Cb,decide_eq_false_iff_not] at h
   rw[decide_eq_true_eq];exact List.not_lt.1 h
theorem Jy:jD Tryz.prog 146=true:=by kernel_rfl
theorem Ze:jD Tryz.prog 125=true:=by kernel_rfl
theorem Yq(x:List UInt8):(encStr x).cells=#[encStr x]∧(encStr x).oneCell'=true:=⟨rfl,rfl⟩
theorem acr(l:List (List Nat))(hl:l.length≤1000000)(id:Nat)(e:TypeId)(s:St):Gxz 146 [.sl (.own id e) 1 (sv l)] s (s.mapV (tuO id 1 (sv (srt kl l)))) (.tup []):=by
 have e1:∀l:List (List Nat),sv l=(l.map u8).map fun x=>V.c (encStr x):=fun l=>by
  simp only[sv,List.map_map]
  exact List.map_congr_left fun x _=>afc x
 rw[e1,e1]
 refine afb encStr Yq (l.map u8) ((srt kl l).map u8) (by simp [wI]) Jy (fun blk cap w hH hb => ?_) (fun p cap w h0=>Tryz.slices_Sort_string_none p cap w) id e s
 have:=Tryz.slices_Sort_string blk 0 cap (l.map u8) w hH hb (by simp;omega)
 rw[NF] at this
 exact this
theorem aeN(l:List Int)(hl:l.length≤1000000)(id:Nat)(e:TypeId)(s:St):Gxz 125 [.sl (.own id e) 1 (iv l)] s (s.mapV (tuO id 1 (iv (l.mergeSort fun x y=>decide (x≤y))))) (.tup []) :=
 afb (Value.int .i64) (fun _=>⟨rfl,rfl⟩) l (l.mergeSort fun x y=>decide (x≤y)) (by simp) Ze (fun blk cap w hH hb=>Tryz.slices_Sort_int blk 0 cap l w hH hb (by omega)) (fun p cap w h0=>Tryz.slices_Sort_int_none p cap w) id e s
end Go.Proofs.YtiohdbjggmmjcaaGreat
