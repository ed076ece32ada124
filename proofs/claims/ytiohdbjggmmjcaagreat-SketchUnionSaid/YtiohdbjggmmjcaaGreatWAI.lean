/-
  Merged texts.
-/
import Derived.Test.YtiohdbjggmmjcaaGreatWAH
set_option linter.unusedVariables false
set_option linter.unusedSimpArgs false
set_option linter.unusedSectionVars false
set_option linter.defProp false
set_option maxRecDepth 100000
set_option maxHeartbeats 8000000
section
namespace Go.Pg
open Go
def Ey(n:Nat)(ops:List Oper):Bool:=ops.all fun o=>match o.dst with|some d=>decide (d<n)|none=>true
def oQ(n:Nat):Code→Bool
 | .region _ ops _=>Ey n ops.toList
 | .seq x y=>oQ n x&&oQ n y
 | .cond _ x y=>oQ n x&&oQ n y
 | .block _ x=>oQ n x
 | .loop x=>oQ n x
 | .rangeFunc ..=>false
 | .scope x=>oQ n x
 | .refuse _=>true
 | _=>true
def vM(k:St→Prop)(Q:Exit→St→Prop):Exit→St→Prop
 | .normal,s=>k s
 | e,s=>Q e s
def inB(id:Nat)(Q:Exit→St→Prop):Exit→St→Prop
 | .exit id',s=>if id'=id then Q .normal s else Q (.exit id') s
 | e,s=>Q e s
def Hw(v:V)(x y:Prop):Prop :=
 match v with
 | .c (.bool b)=>if b=true then x else y
 | _=>False
def acV(body:(Exit→St→Prop)→St→Prop)(Q:Exit→St→Prop)(s:St):Prop :=
 ∃(I:Nat→St→Prop) (n:Nat),(∃s0,Weak s s0∧I n s0)∧∀n s1,I n s1→body (vM (fun s2=>∃m s3,m<n∧Weak s2 s3∧I m s3) Q) s1
structure Dw where
 d:(P:Program)→[Tb P]→Array Oper→(St→Prop)→St→Prop
 cuts:List Nat
 ex:List Nat:=[]
class Plain (D:Dw):Prop where
 ex:D.ex=[]
def jv:Code→Option Nat
 | .region id _ _=>some id
 | .seq x _=>jv x
 | .block _ x=>jv x
 | .loop x=>jv x
 | _=>none
def ny(cuts:List Nat)(r:Option Nat):Bool:=match r with|some n=>cuts.contains n|none=>false
def Ez(C:Cx)(Q:Exit→St→Prop):Exit→Act→World→Prop:=fun e a w=>∃s L,Q e s∧Sim C s L a w
def wpS(D:Dw)(P:Program)[Tb P]:Code→(Exit→St→Prop)→St→Prop
 | .skip,Q,s=>Q .normal s
 | .region id ops draw,Q,s=>if draw=true then D.d P ops (Q .normal) s else bif D.ex.contains id then CY P (ops.toList.map (·.dst)) (Q .normal) ops.toList s else wpL P (ops.toList.map (·.dst)) (Q .normal) ops.toList s
 | .seq x y,Q,s=>wpS D P x (vM (bif ny D.cuts (jv y) then Ky (fun s'=>wpS D P y Q s') else fun s'=>wpS D P y Q s') Q) s
 | .cond c x y,Q,s=>Hw (s.ev c) (wpS D P x Q s) (wpS D P y Q s)
 | .block id x,Q,s=>wpS D P x (inB id Q) s
 | .loop x,Q,s=>acV (fun Q s=>wpS D P x Q s) Q s
 | .exit id,Q,s=>Q (.exit id) s
 | .label _,Q,s=>Q .normal s
 | .goto l,Q,s=>Q (.goto l) s
 | .ret,Q,s=>Q .ret s
 | .scope c,Q,s=>∀(C:Cx) (L:Lay) (a:Act) (w:World),C.TOk P→oQ C.n c=true→Sim C s L a w→(Code.scope c).wp P (Ez C Q) a w
 | _,_,_=>False
def jE(P:Program)[Tb P](D:Dw):Prop :=
 ∀(id:Nat) (C:Cx) (ops:Array Oper) (K:St→Prop) (Q:Exit→St→Prop) (s:St) (L:Lay) (a:Act) (w:World),C.TOk P→Ey C.n ops.toList=true→Q .normal=K→D.d P ops K s→Sim C s L a w→(Code.region id ops true).wp P (Ez C Q) a w
theorem jT{n:Nat}{ops:List Oper}(h:Ey n ops=true):∀o∈ops,∀t,o.dst=some t→t<n:=by
 intro o ho t ht
 have:=List.all_eq_true.1 h o ho
 rw[ht] at this
 simpa using this
section
variable {P:Program} [Tb P] {D:Dw} {C:Cx}
theorem mM(hD:jE P D)(hT:C.TOk P)(c:Code):∀{Q:Exit→St→Prop} {s:St} {L:Lay} {a:Act} {w:World},wpS D P c Q s→oQ C.n c=true→Sim C s L a w→c.wp P (Ez C Q) a w:=by
 induction c with
 | skip=>intro Q s L a w h _ S;exact wp_skip ⟨s,L,h,S⟩
 | region id ops draw =>
  intro Q s L a w h hf S
  simp only[wpS] at h
  cases draw with
  | true=>exact hD id C ops (Q .normal) Q s L a w hT hf rfl h S
  | false =>
   simp only[Bool.false_eq_true,if_false] at h
   cases hx:D.ex.contains id with
   | true =>
    rw[hx] at h
    exact wp_region_list (Kz hT (K:=Q .normal) (fun s' L' a' w' h' S'=>⟨s',L',h',S'⟩) ops.toList (jT hf) h S)
   | false =>
   rw[hx] at h
   exact wp_region_list (PW hT (K:=Q .normal) (fun s' L' a' w' h' S'=>⟨s',L',h',S'⟩) ops.toList (jT hf) h S)
 | seq x y ihx ihy =>
  intro Q s L a w h hf S
  simp only[oQ,Bool.and_eq_true] at hf
  refine wp_seq (Code.wp_mono ?_ (ihx h hf.1 S))
  rintro e a' w' ⟨s',L',h',S'⟩
  cases e with
  | normal =>
   simp only[vM] at h'
   cases hc:ny D.cuts (jv y) with
   | true =>
    rw[hc] at h'
    obtain⟨s2,hw,h2⟩:=h'
    obtain⟨L2,S2⟩:=hw C L' a' w' S'
    exact ihy h2 hf.2 S2
   | false=>rw[hc] at h';exact ihy h' hf.2 S'
  | _=>exact⟨s',L',h',S'⟩
 | cond c x y ihx ihy =>
  intro Q s L a w h hf S
  simp only[oQ,Bool.and_eq_true] at hf
  simp only[wpS,Hw] at h
  split at h
  ·rename_i b hb
   have hc:=S.ev c
   rw[hb] at hc
   simp only[Rep] at hc
   refine wp_cond hc ?_
   cases b with
   | true=>exact ihx (by simpa using h) hf.1 S
   | false=>exact ihy (by simpa using h) hf.2 S
  ·cases h
 | block id x ih =>
  intro Q s L a w h hf S
  refine wp_block (Code.wp_mono ?_ (ih h hf S))
  rintro e a' w' ⟨s',L',h',S'⟩
  cases e with
  | exit id' =>
   simp only[inB] at h'
   simp only[Exit.inBlock]
   split at h'
   ·rename_i hi;rw[if_pos hi];exact⟨s',L',h',S'⟩
   ·rename_i hi;rw[if_neg hi];exact⟨s',L',h',S'⟩
  | _=>exact⟨s',L',h',S'⟩
 | loop x ih =>
  intro Q s L a w h hf S
  obtain⟨I,n,⟨s0,hw0,h0⟩,hround⟩:=h
  obtain⟨L0,S0⟩:=hw0 C L a w S
  have key:∀n s L a w,I n s→Sim C s L a w→∀(b:Frame) (k:List Item) (cs:List Frame),
    ∃e a' w',Ez C Q e a' w'∧Arrives P (lone (b.at a (.code x :: .inLoop x::k)) cs w) b k cs e a' w':=by
   intro n
   induction n using Nat.strongRecOn with
   | _ n ihn =>
    intro s L a w hI S b k cs
    obtain⟨e,a₁,w₁,⟨s1,L1,hq,S1⟩,harr⟩:=ih (hround n s hI) hf S b (.inLoop x::k) cs
    cases e with
    | normal =>
     obtain⟨m,s3,hlt,hw,hI3⟩:=hq
     obtain⟨L3,S3⟩:=hw C L1 a₁ w₁ S1
     obtain⟨e₂,a₂,w₂,hq₂,harr₂⟩:=ihn m hlt s3 L3 a₁ w₁ hI3 S3 b k cs
     exact⟨e₂,a₂,w₂,hq₂,.of_steps (Steps.trans harr (.one step_inLoop)) harr₂⟩
    | exit id=>exact⟨_,a₁,w₁,⟨s1,L1,hq,S1⟩,.pass (x := .inLoop x) rfl (fun _ _ => .inl (by simp)) harr⟩
    | goto l=>exact⟨_,a₁,w₁,⟨s1,L1,hq,S1⟩,.pass (x := .inLoop x) rfl (fun _ _ => .inl (by simp)) harr⟩
    | ret=>exact⟨_,a₁,w₁,⟨s1,L1,hq,S1⟩,.pass (x := .inLoop x) rfl (fun _ _ => .inl (by simp)) harr⟩
    | panic ch=>exact⟨_,a₁,w₁,⟨s1,L1,hq,S1⟩,.pass (x := .inLoop x) rfl (fun _ _ => .inl (by simp)) harr⟩
    | outgrown=>exact⟨_,a₁,w₁,⟨s1,L1,hq,S1⟩,.pass (x := .inLoop x) rfl (fun _ _ => .inl (by simp)) harr⟩
  intro b k cs
  obtain⟨e,a',w',hq,harr⟩:=key n s0 L0 a w h0 S0 b k cs
  exact⟨e,a',w',hq,.of_steps (.one step_loop) harr⟩
 | exit id=>intro Q s L a w h _ S;exact wp_exit ⟨s,L,h,S⟩
 | label l=>intro Q s L a w h _ S;exact wp_label ⟨s,L,h,S⟩
 | goto l=>intro Q s L a w h _ S;exact wp_goto ⟨s,L,h,S⟩
 | ret=>intro Q s L a w h _ S;exact wp_ret ⟨s,L,h,S⟩
 | rangeFunc=>intro Q s L a w h;exact h.elim
 | scope c _=>intro Q s L a w h hf S;exact h C L a w hT hf S
 | refuse=>intro Q s L a w h;exact h.elim
def qJ:List V→Nat→Nat→V
 | [],_=>fun _ => .top
 | x::xs,k=>upd (qJ xs (k+1)) k x
def Hy(args:List V):St:={ env:=qJ args 0,bx:=fun _=>none,nid:=0 }
def oU(P:Program)(s:St):ResultVar→Option V
 | .tmp t=>some (s.env t)
 | .cell a t=>match s.env a with | .ref b off=>lH P s t b off|_=>none
def nO(P:Program)(s:St)(rs:List ResultVar):Option V :=
 match rs with
 | [r]=>oU P s r
 | rs=>(rs.mapM (oU P s)).map .tup
def Tag.notIn(l:List Nat):Tag→Bool
 | .fz=>false
 | .nn=>false
 | .own id _ => !l.contains id
def nz(l:List Nat):Tag→Tag
 | .fz => .fz
 | .nn => .nn
 | .own id e => .own (l.idxOf id) e
def ZI(P:Program)(rs:List ResultVar)(r:V):Exit→St→Prop:=fun e s =>
 match e with
 | .normal | .ret=>∃r0 l,nO P s rs=some r0∧List.Nodup l∧r0.any (Tag.notIn l) (fun _=>true) false=false∧r0.map (nz l) id=r
 | _=>False
theorem xw{L:Lay}{w:World}:∀(args:List V) (us:List Value) (k:Nat) (rest:List Value),Reps L w args us→∀(pre:List Value),pre.length=k→∀t,Rep L w (qJ args k t) ((pre++us++rest).toArray.getD t undef):=by
 intro args
 induction args with
 | nil=>intro us k rest _ pre _ t;trivial
 | cons x xs ih =>
  rintro us k rest ⟨u,r,rfl,h2,h3⟩ pre hk t
  simp only[qJ,upd]
  split
  ·rename_i ht
   subst ht
   have:(pre++(u::r)++rest).toArray.getD t undef=u:=by
    simp [Array.getD_eq_getD_getElem?,←hk]
   rw[this];exact h2
  ·have:=ih r (k+1) rest h3 (pre++[u]) (by simp [hk]) t
   simpa using this
def Ut(a:Act):ResultVar→Sem Value
 | .tmp t=>pure (a.tmps.getD t undef)
 | .cell b t=>do loadVar t (←asAddr (a.tmps.getD b undef))
theorem rF{fn:Func}{s:St}{L:Lay}{a:Act}{w:World}{rs:List ResultVar}{r:V}(hrs:fn.results=rs.toArray)(h:nO P s rs=some r)(S:Sim C s L a w) :
  ∃u,(results fn a.tmps).run P w = .ok u w∧Rep L w r u:=by
 have one:∀x v,oU P s x=some v→∃u,(Ut a x).run P w = .ok u w∧Rep L w v u:=by
  intro x v hx
  cases x with
  | tmp t =>
   simp only[oU,Option.some.injEq] at hx
   subst hx
   exact⟨_,rfl,S.env t⟩
  | cell b t =>
   simp only[oU] at hx
   split at hx
   ·rename_i b' off hb
    have hr:=S.env b
    rw[hb] at hr
    obtain⟨u,h1,h2⟩:=Ar hx S hr
    obtain⟨g,h3,h4⟩:=hr
    refine⟨u, ?_,h2⟩
    rw[h4] at h1
    simp only[Ut,h4]
    simpa [Instr.loadAt,Instr.sureAddr,asAddr] using h1
   ·cases hx
 have many:∀(l:List ResultVar) (vs:List V),l.mapM (oU P s)=some vs→∃us,(l.mapM (Ut a)).run P w = .ok us w∧Reps L w vs us:=by
  intro l
  induction l with
  | nil=>intro vs h;simp at h;subst h;exact⟨[],rfl,rfl⟩
  | cons x xs ih =>
   intro vs h
   simp only[List.mapM_cons,Option.bind_eq_bind,Option.bind_eq_some_iff,Option.pure_def,Option.some.injEq] at h
   obtain⟨v,hv,vs',hvs,rfl⟩:=h
   obtain⟨u,h1,h2⟩:=one x v hv
   obtain⟨us,h3,h4⟩:=ih vs' hvs
   refine⟨u::us, ?_,u,us,rfl,h2,h4⟩
   rw[List.mapM_cons,Sem.run_bind,h1]
   simp only[Result.andThen_ok,Sem.run_bind,h3,Sem.run_pure]
 have hres:∀(us:List Value),(rs.mapM (Ut a)).run P w = .ok us w →
   (results fn a.tmps).run P w = .ok (if h:us.toArray.size=1 then us.toArray[0] else .tuple us.toArray) w:=by
  intro us hus
  have e:results fn a.tmps=(do let vs ←rs.toArray.mapM (Ut a);pure (if h:vs.size=1 then vs[0] else .tuple vs)):=by
   unfold results
   rw[hrs]
   rfl
  rw[e,Array.mapM_eq_mapM_toList,Sem.run_bind,Sem.run_map,hus]
  rfl
 unfold nO at h
 split at h
 ·rename_i x
  obtain⟨u,h1,h2⟩:=one x r h
  refine⟨u, ?_,h2⟩
  rw[hres [u] (by rw[List.mapM_cons,Sem.run_bind,h1];rfl)]
  rfl
 ·rename_i hne
  simp only[Option.map_eq_some_iff] at h
  obtain⟨vs,hvs,rfl⟩:=h
  obtain⟨us,h1,h2⟩:=many rs vs hvs
  have hl:us.toArray.size≠1:=by
   have e1:=h2.length
   have e2:vs.length=rs.length:=by
    have:∀(l:List ResultVar) (vs:List V),l.mapM (oU P s)=some vs→vs.length=l.length:=by
     intro l
     induction l with
     | nil=>intro vs h;simp at h;simp [h]
     | cons x xs ih =>
      intro vs h
      simp only[List.mapM_cons,Option.bind_eq_bind,Option.bind_eq_some_iff,Option.pure_def,Option.some.injEq] at h
      obtain⟨v,hv,vs',hvs,rfl⟩:=h
      simp [ih vs' hvs]
    exact this rs vs hvs
   simp only[List.size_toArray]
   intro h1
   rw[e1,e2] at h1
   match rs,h1,hne with
   | [x],_,hne=>exact hne x rfl
  refine⟨.tuple us.toArray, ?_,us.toArray,rfl,by simpa using h2⟩
  rw[hres us h1,dif_neg hl]
theorem xx(l:List Nat)(i:Nat)(h:i∈l):l[l.idxOf i]?=some i:=by
 induction l with
 | nil=>cases h
 | cons x xs ih =>
  by_cases hx:x=i
  ·subst hx;simp
  ·have:i∈xs:=by simpa [Ne.symm hx] using h
   rw[List.idxOf_cons]
   have hb:(x == i)=false:=by simpa using hx
   rw[hb]
   simpa using ih this
theorem aK(hD:jE P D){f:FuncId}{fn:Func}{c:Code}{rs:List ResultVar}{args:List V}{r:V}(hf:P.funcs[f]?=some fn)(hb:fn.body=some c)(hrs:fn.results=rs.toArray)(hn:(fn.name == "runtime.NumGoroutine")=false)
  (hfit:oQ fn.ntmps c=true) (hlen:args.length≤fn.ntmps) (h:wpS D P c (ZI P rs r) (Hy args)):Good P f args r:=by
 refine⟨by simp [jD,hf,hb,hn],fun A w cargs hT hA hargs => ?_⟩
 let C:Cx:={ n:=fn.ntmps,A0:=A,Wr:=fun _=>False,w0:=w }
 have hl:=hargs.length
 have S:Sim C (Hy args) ⟨A,fun _=>none,fun _=>none⟩ { tmps:=cargs.toArray++Array.replicate (fn.ntmps-cargs.toArray.size) undef,defers:=[] } w:=by
  refine⟨rfl,by simp [C];omega,fun t => ?_,fun _=>trivial,fun b cs h=>by simp [Hy] at h, ?_,Kp.refl _ _ _⟩
  ·have:=xw args cargs 0 (List.replicate (fn.ntmps-cargs.length) undef) hargs [] rfl t
   have e:(cargs++List.replicate (fn.ntmps-cargs.length) undef).toArray=cargs.toArray++Array.replicate (fn.ntmps-cargs.toArray.size) undef:=by
    apply Array.ext';simp
   rw[List.nil_append,e] at this
   exact this
  ·exact {
    nidO:=fun _ _ h=>by cases h
    nidB:=fun _ _ h=>by cases h
    own:=fun _ _ h=>by cases h
    boxW:=fun _ _ h=>by cases h
    injO:=fun _ _ _ h=>by cases h
    injB:=fun _ _ _ h=>by cases h
    dis:=fun _ _ _ h=>by cases h
    old:=hA
    frz:=fun g h => .inl h }
 refine calls_of_wp hf hb (Code.wp_mono ?_ (mM (C:=C) hD (fun w' hk=>Tb.keep w w' hT hk) c h hfit S))
 rintro e a' w' ⟨s',L',hq,S'⟩
 have fin:(∃r0 l,nO P s' rs=some r0∧List.Nodup l∧r0.any (Tag.notIn l) (fun _=>true) false=false∧r0.map (nz l) id=r)→a'.defers=[]∧∃v,(results fn a'.tmps).run P w' = .ok v w'∧∃u L,Ending.returned v = .returned u∧Rep L w' r u∧Kp (fun _=>False) w.heap.size w w'∧ResLay A w w' L:=by
  rintro⟨r0,l,h1,hnd,h2,rfl⟩
  obtain⟨u,h3,h4⟩:=rF hrs h1 S'
  let L2:Lay:={ A:=L'.A,own:=fun j=>(l[j]?).bind L'.own,box:=fun _=>none }
  have K:Trans (Tag.notIn l) (fun _=>true) (nz l) id L' L2 w' w':=by
   refine⟨rfl,fun g h=>⟨h,.of rfl⟩,fun i e hi g h=>⟨⟨rfl, ?_⟩,rfl⟩,fun b hb=>by simp at hb⟩
   have hm:i∈l:=by simpa [Tag.notIn] using hi
   simp only[L2,xx l i hm,Option.bind_some,h]
  refine⟨S'.defers,u,h3,u,L2,rfl,h4.trans rfl K h2,S'.kp, ?_, ?_, ?_⟩
  ·intro g hg
   rcases S'.wf.frz g hg with h|h|h
   ·exact .inl h
   ·exact .inr ⟨h,S'.wf.old g hg⟩
   ·exact h.elim
  ·intro j g hg
   simp only[L2,Option.bind_eq_some_iff] at hg
   obtain⟨i,hi,hg⟩:=hg
   obtain⟨h5,h6,h7⟩:=S'.wf.own i g hg
   exact⟨h6.elim id (fun h=>h.elim),h5,h7⟩
  ·intro i j g hi hj
   simp only[L2,Option.bind_eq_some_iff] at hi hj
   obtain⟨i',hi',hi⟩:=hi
   obtain⟨j',hj',hj⟩:=hj
   have:=S'.wf.injO i' j' g hi hj
   subst this
   have hil:=(List.getElem?_eq_some_iff.1 hi').1
   exact (List.getElem?_inj hil hnd).1 (hi'.trans hj'.symm)
 cases e with
 | normal=>exact fin hq
 | ret=>exact fin hq
 | _=>exact hq.elim
end
end Go.Pg
end
namespace Go.Pg
open Go
def AU(m:List Nat)(b:Nat):Bool := !m.contains b
def wkF:List V→List V→Prop
 | [],[]=>True
 | a::xs,b::ys=>(a=b∨(a = .c (.slice none 0 0)∧∃k',b = .sl .fz k' []))∧wkF xs ys
 | _,_=>False
theorem Hz{L:Lay}{w:World}:∀{xs ys:List V} {us:List Value},wkF xs ys→Reps L w xs us→Reps L w ys us
 | [],[],_,_,hr=>hr
 | _::_,_::_,_,h,⟨u,r,h1,h2,h3⟩=>by
  refine⟨u,r,h1, ?_,Hz h.2 h3⟩
  rcases h.1 with rfl|⟨rfl,k',rfl⟩
  ·exact h2
  ·simp only[Rep] at h2
   subst h2
   exact⟨none,0,[],rfl,rfl,by simp,.inl rfl⟩
theorem Ob(p:Tag→Bool)(hp:p .fz=false)(q:Nat→Bool)(tp:Bool):∀{xs ys:List V},wkF xs ys→V.anyL p q tp xs=false→V.anyL p q tp ys=false
 | [],[],_,h=>h
 | _::_,_::_,h,ha=>by
  simp only[V.anyL,Bool.or_eq_false_iff] at ha ⊢
  refine⟨?_,Ob p hp q tp h.2 ha.2⟩
  rcases h.1 with rfl|⟨rfl,k',rfl⟩
  ·exact ha.1
  ·simp [V.any,hp]
def elE(k:Nat):List V→List V→Prop
 | [],[]=>True
 | x::xs,y::ys=>(x=y∨(k=1∧x = .c (.slice none 0 0)∧∃k',y = .sl .fz k' [])∨∃cs ds,x = .agg cs∧y = .agg ds∧wkF cs ds)∧elE k xs ys
 | _,_=>False
theorem HY{k:Nat}{x y:V}(h:x=y∨(k=1∧x = .c (.slice none 0 0)∧∃k',y = .sl .fz k' [])∨∃cs ds,x = .agg cs∧y = .agg ds∧wkF cs ds):∀xs:List V,elE k (xs++[x]) (xs++[y])
 | []=>⟨h,trivial⟩
 | _::xs=>⟨.inl rfl,HY h xs⟩
theorem Oc{k:Nat}:∀{xs ys:List V},elE k xs ys→xs.length=ys.length
 | [],[],_=>rfl
 | _::_,_::_,h=>by simp [Oc h.2]
 | [],_::_,h=>h.elim
 | _::_,[],h=>h.elim
theorem Uu{L:Lay}{w:World}{k:Nat}:∀{xs ys:List V} {us:List Value},elE k xs ys→RepE L w k xs us→RepE L w k ys us:=by
 intro xs
 induction xs with
 | nil=>intro ys us h hr;cases ys with
  | nil=>exact hr
  | cons _ _=>exact h.elim
 | cons x xs ih =>
  intro ys us h hr
  cases ys with
  | nil=>exact h.elim
  | cons y ys =>
   obtain⟨u,r,h1,h2,h3,h4,h5⟩:=hr
   refine⟨u,r,h1,h2, ?_, ?_,ih h.2 h5⟩
   ·rcases h.1 with rfl|⟨_,rfl,k',rfl⟩|⟨cs,ds,rfl,rfl,hw⟩
    ·exact h3
    ·exact⟨rfl,h3.2⟩
    ·refine⟨?_,h3.2⟩
     have h6:=h3.1
     simp only[V.free,V.any,Bool.not_eq_true'] at h6 ⊢
     exact Ob _ rfl _ _ hw h6
   ·rcases h.1 with rfl|⟨_,rfl,k',rfl⟩|⟨cs,ds,rfl,rfl,hw⟩
    ·exact h4
    ·simp only[Rep] at h4
     subst h4
     exact⟨none,0,[],rfl,rfl,by simp,.inl rfl⟩
    ·obtain⟨a,h6,h7⟩:=h4
     exact⟨a,h6,Hz hw h7⟩
def Gen(l m:List Nat)(v0 v:V):Prop :=
 v = .top∨(v0.any (Tag.notIn l) (AU m) false=false∧v=v0.map (nz l) (fun b=>m.idxOf b))∨(v0 = .c (.slice none 0 0)∧∃t k,t.notNN=true∧v = .sl t k [])∨(∃t k xs ys,v0 = .sl t k xs∧t.notIn l=false∧v = .sl (nz l t) k ys∧elE k xs ys)∨(v0 = .c (.slice none 0 0)∧∃b e o k,v = .bs b e o k 0)
def GenL(l m:List Nat):List V→List V→Prop
 | [],[]=>True
 | x::xs,y::ys=>Gen l m x y∧GenL l m xs ys
 | _,_=>False
structure Keep (l m:List Nat) (s s':St):Prop where
 env:∀t,Gen l m (s.env t) (s'.env t)
 hd:∀t,Gen l m (s.hd t) (s'.hd t)
 bx:∀b cs,s'.bx b=some cs→∃b0 cs0,m[b]?=some b0∧s.bx b0=some (cs.1,cs0)∧GenL l m cs0 cs.2
 ndl:l.Nodup
 ndm:m.Nodup
 nidl:l.length≤s'.nid
 nidm:m.length≤s'.nid
theorem adm{l m:List Nat}:∀{x y:List V},GenL l m x y→x.length=y.length:=by
 intro x
 induction x with
 | nil=>intro y h;cases y with|nil=>rfl|cons=>exact h.elim
 | cons a x ih=>intro y h;cases y with|nil=>exact h.elim|cons b y=>simp [ih h.2]
theorem Keep.weakR{l m:List Nat}{s s':St}(H:Keep l m s s')(C:Cx)(L:Lay)(a:Act)(w:World)(S:Sim C s L a w):∃L',Sim C s' L' a w∧∀v u,v.any (Tag.notIn l) (AU m) false=false→Rep L w v u→Rep L' w (v.map (nz l) (fun b=>m.idxOf b)) u:=by
 let L':Lay:={ A:=L.A,own:=fun j=>(l[j]?).bind L.own,box:=fun j=>(m[j]?).bind L.box }
 have K:Trans (Tag.notIn l) (AU m) (nz l) (fun b=>m.idxOf b) L L' w w:=by
  refine⟨rfl,fun g h=>⟨h,.of rfl⟩,fun i e hi g h=>⟨⟨rfl, ?_⟩,rfl⟩,fun b hb g h => ?_⟩
  ·have hm:i∈l:=by simpa [Tag.notIn] using hi
   simp only[L',xx l i hm,Option.bind_some,h]
  ·have hm:b∈m:=by simpa [AU] using hb
   simp only[L',xx m b hm,Option.bind_some,h];exact⟨trivial,.of rfl⟩
 have gen:∀v0 v u,Gen l m v0 v→Rep L w v0 u→Rep L' w v u:=by
  rintro v0 v u (rfl|⟨h1,rfl⟩|⟨rfl,t,k,hnn,rfl⟩|⟨t,k,xs,ys,rfl,h1,rfl,h2⟩|⟨rfl,b,e,o,k,rfl⟩) h
  ·trivial
  ·exact h.trans rfl K h1
  ·simp only[Rep] at h
   subst h
   cases t with
   | fz=>exact⟨none,0,[],rfl,rfl,by simp,.inl rfl⟩
   | nn=>cases hnn
   | own id e=>exact⟨none,0,[],rfl,rfl,.inl ⟨rfl,rfl,rfl⟩⟩
  ·obtain⟨a,cap,cells,rfl,h3,h4⟩:=h.trans rfl K (show V.any _ _ _ (.sl t k xs)=false from h1)
   have hl:=Oc h2
   exact⟨a,cap,cells,by rw[hl],Uu h2 h3,by rw[←hl];exact h4⟩
  ·simp only[Rep] at h
   exact .inl ⟨rfl,h⟩
 have genL:∀l0 l1 us,GenL l m l0 l1→Reps L w l0 us→Reps L' w l1 us:=by
  intro l0
  induction l0 with
  | nil=>intro l1 us h hr;cases l1 with|nil=>exact hr|cons=>exact h.elim
  | cons x xs ih =>
   intro l1 us h hr
   cases l1 with
   | nil=>exact h.elim
   | cons y ys=>obtain⟨u,r,rfl,h2,h3⟩:=hr;exact⟨u,r,rfl,gen _ _ _ h.1 h2,ih ys r h.2 h3⟩
 have W:=S.wf
 refine⟨L',⟨S.defers,S.size,fun t=>gen _ _ _ (H.env t) (S.env t),fun t=>gen _ _ _ (H.hd t) (S.hid t), ?_, ?_,S.kp⟩,fun v u hv h=>h.trans rfl K hv⟩
 ·intro b cs h
  obtain⟨b0,cs0,h1,h2,h3⟩:=H.bx b cs h
  obtain⟨g,arr,h4,h5,h6⟩:=S.box b0 _ h2
  exact⟨g,arr,by simp only[L',h1,Option.bind_some,h4],h5,by rw[←adm h3];exact genL _ _ _ h3 h6⟩
 ·have lt:∀(x:List Nat) (f:Nat→Option Nat) j g,(x[j]?).bind f=some g→j<x.length∧∃i,x[j]?=some i∧f i=some g:=by
   intro x f j g h
   simp only[Option.bind_eq_some_iff] at h
   obtain⟨i,h1,h2⟩:=h
   exact⟨(List.getElem?_eq_some_iff.1 h1).1,i,h1,h2⟩
  exact {
   nidO:=fun j g h=>by have:=(lt l L.own j g h).1;have:=H.nidl;omega
   nidB:=fun j g h=>by have:=(lt m L.box j g h).1;have:=H.nidm;omega
   own:=fun j g h=>by obtain⟨_,i,_,h2⟩:=lt l L.own j g h;exact W.own i g h2
   boxW:=fun j g h=>by obtain⟨_,i,_,h2⟩:=lt m L.box j g h;exact W.boxW i g h2
   injO:=fun i j g hi hj=>by
    obtain⟨h0,i',h1,h2⟩:=lt l L.own i g hi
    obtain⟨_,j',h3,h4⟩:=lt l L.own j g hj
    have:=W.injO i' j' g h2 h4
    subst this
    exact (List.getElem?_inj h0 H.ndl).1 (h1.trans h3.symm)
   injB:=fun i j g hi hj=>by
    obtain⟨h0,i',h1,h2⟩:=lt m L.box i g hi
    obtain⟨_,j',h3,h4⟩:=lt m L.box j g hj
    have:=W.injB i' j' g h2 h4
    subst this
    exact (List.getElem?_inj h0 H.ndm).1 (h1.trans h3.symm)
   dis:=fun i j g hi hj=>by
    obtain⟨_,i',_,h2⟩:=lt l L.own i g hi
    obtain⟨_,j',_,h4⟩:=lt m L.box j g hj
    exact W.dis i' j' g h2 h4
   old:=W.old
   frz:=W.frz }
theorem Keep.weak{l m:List Nat}{s s':St}(H:Keep l m s s'):Weak s s':=fun C L a w S=>by
 obtain⟨L',h,_⟩:=H.weakR C L a w S
 exact⟨L',h⟩
end Go.Pg
