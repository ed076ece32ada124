/-
  Merged texts.
-/
import Derived.Test.YtiohdbjggmmjcaaGreatWAY
import Derived.Test.YtiohdbjggmmjcaaGreatWBG
import Derived.Lib.AppendZerosOnto
import Derived.Lib.Overlaps
import Derived.Laws.IdiomCopy
import Derived.Shelf.Spec.SlicesInsertGrow
import Derived.Test.YtiohdbjggmmjcaaGreatWAN
set_option linter.unusedVariables false
set_option linter.unusedSimpArgs false
set_option linter.unusedSectionVars false
set_option linter.defProp false
set_option maxRecDepth 100000
set_option maxHeartbeats 8000000
namespace Go.Proofs.YtiohdbjggmmjcaaGreat
open Go Go.Pg
theorem GX(d:Int):∀(l:List En),∀z∈iU d l,∃y∈l,y.1=z.1
 | [],z,h=>by simp [iU] at h
 | y::l,z,h=>by
  rw[pU] at h
  split at h
  ·rcases List.mem_cons.1 h with rfl|h
   ·exact⟨y,List.mem_cons_self ..,rfl⟩
   ·obtain⟨u,hu,he⟩:=GX d l z h
    exact⟨u,List.mem_cons_of_mem _ hu,he⟩
  ·obtain⟨u,hu,he⟩:=GX d l z h
   exact⟨u,List.mem_cons_of_mem _ hu,he⟩
theorem zn(d:Int):∀(l:List En),(l.Pairwise fun a b=>kl a.1 b.1=true)→(iU d l).Pairwise fun a b=>kl a.1 b.1=true
 | [],h=>by simp [iU]
 | y::l,h=>by
  rw[List.pairwise_cons] at h
  rw[pU]
  split
  ·rw[List.pairwise_cons]
   refine⟨fun z hz => ?_,zn d l h.2⟩
   obtain⟨u,hu,he⟩:=GX d l z hz
   show kl y.1 z.1=true
   rw[←he];exact h.1 u hu
  ·exact zn d l h.2
theorem ajR(d:Int)(l:List En)(k:List Nat)(h:¬0≤bi l k):∀y∈iU d l,y.1≠k:=fun y hy=>by
 obtain⟨u,hu,he⟩:=GX d l y hy
 rw[←he]
 exact wX k l 0 (by have:bi l k=jd k 0 l:=rfl;omega) u hu
theorem akq(x:Fq)(k:List Nat)(w:Int)(hx:octE x.e)(hn:x.e.length≤1000000)(h:vFq x≠0∨bT k w≠0):Gxx 29 [.agg (fqF x),.agg [vs k,vi w]] (.tup [.agg (fqF (lU x k w).1),vi (lU x k w).2]):=by
 have h1:=Ec x hx hn
 have h2:=bz k w
 unfold lU
 by_cases c1:vFq x=0
 ·have c2:bT k w≠0:=by rcases h with h|h;exact absurd c1 h;exact h
  rw[if_neg (by omega),if_pos c2]
  rw[c1] at h1
  refine Good.fzt (vs:=[.agg [vi 0,vi 0,vi 0,nls,vb false],vi (bT k w)]) ?_ rfl ⟨FN,aH _,trivial⟩
  obtain⟨z,t,lo,l,b⟩:=x
  have c2':(bT k w=0)=False:=eq_false c2
  refine gI (eu [] mix) Tryz.func29 Tryz.results29 ?_
  (repeat' (first|(simp (disch:=first|exact dqz|fail) only[pgz,simprocAttr,pgE,pgj,iC,c2'])|(refine tC ?_;first|refine cU h1 ?_|refine cU h2 ?_)|(refine tE ?_ ?_<;>intro hc)|refine xK ?_|fail))
  (refine rT [] ?_;first|rfl|simp only[pgo,simprocAttr]|skip)
 ·rw[if_pos c1]
  refine Good.fzt (vs:=[.agg [vi 0,vi 0,vi 0,nls,vb false],vi (vFq x)]) ?_ rfl ⟨FN,aH _,trivial⟩
  obtain⟨z,t,lo,l,b⟩:=x
  have c1':(vFq ⟨z,t,lo,l,b⟩=0)=False:=eq_false c1
  refine gI (eu [] mix) Tryz.func29 Tryz.results29 ?_
  (repeat' (first|(simp (disch:=first|exact dqz|fail) only[pgz,simprocAttr,pgE,pgj,iC,c1'])|(refine tC ?_;refine cU h1 ?_)|(refine tE ?_ ?_<;>intro hc)|refine xK ?_|fail))
  (refine rT [] ?_;first|rfl|simp only[pgo,simprocAttr]|skip)
end Go.Proofs.YtiohdbjggmmjcaaGreat
section
namespace Go.Pg
open Go
structure InsEnd (w w':World) (o:Option Nat):Prop where
 os:w'.os=w.os
 tape:w'.tape=w.tape
 output:w'.output=w.output
 size:w.heap.size≤w'.heap.size
 block:∀k,k<w.heap.size→o≠some k→w'.heap[k]?=w.heap[k]?
 drawn:w.drawn≤w'.drawn
def zt(w:World)(o:Option Nat)(e:TypeId)(k n:Nat)(cells:List Value)(u:Value)(w':World):Prop :=
 InsEnd w w' o∧∃g cap arr,u = .slice (some ⟨g,0,none⟩) n cap∧w'.heap[g]?=some (.cells arr e (0,0))∧n≤cap∧cap≤maxLen∧arr.size=cap*k∧arr.toList.take (n*k)=cells∧(o=some g∨w.heap.size≤g)
structure InsArg (P:Program) (w:World) (o:Option Nat) (e:TypeId) (k bytes n cap:Nat) (cells vs:List Value) (ad:Addr) (xc:Nat):Prop where
 row:(o=none∧n=0∧cap=0∧cells=[])∨∃g arr,o=some g∧w.heap[g]?=some (.cells arr e (0,0))∧n≤cap∧cap≤maxLen∧arr.size=cap*k∧arr.toList.take (n*k)=cells∧ad.block≠g
 adw:∃arr t fr,w.heap[ad.block]?=some (.cells arr t fr)∧arr.size≠0
 spot:ad.spot=none
 len:cells.length=n*k
 vlen:vs.length=k
 xc:1≤xc
 vsw:∀j v,vs[j]?=some v→w.cell? (ad.add j)=some v
 c1:∀v∈cells,v.oneCell'=true
 v1:∀v∈vs,v.oneCell'=true
 fit:Fits (n+1) bytes
 kpos:0<k
section
variable {P:Program} {C:Cx} {s:St} {L:Lay} {a:Act} {w w':World}
theorem zF{dT sT ty e e':TypeId}{i:TypeInfo}(ht:P.underlying dT=some (.slice e))(hi:P.info? e=some i){g o dLen dCap sLen sCap:Nat}{arr:Array Value}{ad:Addr}{cs:List Value}
  (hg:w.heap[g]?=some (.cells arr e' (0,0))) (hn:cs.length=Nat.min sLen dLen*i.size) (hsrc:∀j v,cs[j]?=some v→w.cell? (ad.add j)=some v) (hfit:o+cs.length≤arr.size) (h1:∀v∈cs,v.oneCell'=true) :
  (Builtin.copy_ #[dT,sT] ty #[.slice (some ⟨g,o,none⟩) dLen dCap,.slice (some ad) sLen sCap]).run P w = .ok (goInt (Nat.min sLen dLen)) (w.setRow g (arr.toList.take o++cs++arr.toList.drop (o+cs.length)).toArray):=by
 have hl:=run_loadCells_list (P:=P) w ad cs hsrc
 have hst:=run_storeCells_at P g o e' cs 0 arr w hg (by simpa using hfit) h1
 simp only[Nat.add_zero] at hst
 simp [Builtin.copy_,run_underlying ht,Builtin.lenOf,Builtin.firstCells,sizeOf,typeInfo,hi,←hn,hl,hst]
theorem Y9{tS tR e:TypeId}(ht:P.underlying tS=some (.slice e)){i:TypeInfo}(hi:P.info? e=some i)(a b:Addr)(la ca lb cb:Nat)(hne:a.block≠b.block)
  (ha:∃arr t fr,w.heap[a.block]?=some (.cells arr t fr)∧arr.size≠0) (hb:∃arr t,w.heap[b.block]?=some (.cells arr t (0,0))∧arr.size≠0) :
  (Extern.SlicesOverlaps.overlaps #[tS,tS] #[tR] #[.slice (some a) la ca,.slice (some b) lb cb]).run P w = .ok (.bool false) w:=by
 obtain⟨arrA,tA,frA,hA,hszA⟩:=ha
 obtain⟨mA,hmA⟩:∃m,arrA.size=m+1:=⟨arrA.size-1,by omega⟩
 obtain⟨arrB,tB,hB,hsz⟩:=hb
 obtain⟨m,hm⟩:∃m,arrB.size=m+1:=⟨arrB.size-1,by omega⟩
 have hnb:(a.block != b.block)=true:=by simpa using hne
 have hnb':(a.block == b.block)=false:=by simpa using hne
 have hsa:w.shape? a.block=some (tA,mA+1):=by simp [World.shape?,hA,hmA]
 have hsb:w.shape? b.block=some (tB,m+1):=by simp [World.shape?,hB,hm]
 have hfb:∀o sp,w.frozen? ⟨b.block,o,sp⟩=false:=fun o sp=>by simp [World.frozen?,hB]
 have hfb':w.frozen? b=false:=hfb b.off b.spot
 have hz:∀w,(Go.sizeOf e).run P w = .ok i.size w:=fun w=>by simp [sizeOf,typeInfo,hi]
 change Sem.run P (α:=Value) (do
  let some t:=(#[tS,tS]:Array TypeId)[0]?|stuck "slices.overlaps: no parameter types"
  let .slice elem ←underlying t|stuck "slices.overlaps: slice type expected"
  let size ←sizeOf elem
  match (some a:Option Addr),(some b:Option Addr) with
  | some a,some b =>
   if la=0∨lb=0∨size=0 then pure (Value.bool false)
   else if a.block != b.block&&(←frozen a)&&(←frozen b) then unsupported .addressObserved
   else do
    if a.block != b.block then do
     noView a;noView b
     if ←mayBeOne a b then return Value.bool ((←choose (.extern "sameAddr.stringBytes" 2)) == 1)
    pure (Value.bool (a.block == b.block&&a.off<b.off+lb*size&&b.off<a.off+la*size))
  | _,_=>pure (Value.bool false)) w=_
 by_cases h0:la=0∨lb=0∨i.size=0
 ·simp [run_underlying ht,hz,h0]
 ·cases hfa:w.frozen? a<;>cases hfa2:w.frozen? { block:=a.block,off:=mA+1,spot:=none } <;>
   simp [run_underlying ht,hz,h0,hnb,hnb',frozen,noView,viewAt,mayBeOne,stringish,shape,Sem.run,hsa,hsb,hfb',hfb,hfa,hfa2]
theorem ali{id:Nat}{o:Option Nat}{g:Nat}{e:TypeId}{arr:Array Value}(S:Sim C s L a w)(ho:∀j,o=some j→L.own id=some j)(T:InsEnd w w' o)
  (hg:w'.heap[g]?=some (.cells arr e (0,0))) (hn:o=some g∨w.heap.size≤g):Wf C (max s.nid (id+1)) (L.addOwn id g) w':=by
 have W:=S.wf
 have hgl:=(Array.getElem?_eq_some_iff.1 hg).1
 have hA:∀h,o=some h→¬L.A h:=fun h e=>(W.own id h (ho h e)).2.2
 have gA:¬L.A g:=hn.elim (hA g) (fun h k=>by have:=W.old g k;omega)
 have gB:C.B≤g∨C.Wr g:=hn.elim (fun h=>(W.own id g (ho g h)).2.1) (fun h => .inl (by have:=S.hB;omega))
 have gO:∀j,L.own j=some g→j=id:=fun j hj=>hn.elim (fun h=>W.injO j id g hj (ho g h)) (fun h=>by have:=(W.own j g hj).1;omega)
 have gX:∀b,L.box b=some g→False:=fun b hb=>hn.elim (fun h=>W.dis id b g (ho g h) hb) (fun h=>by have:=(W.boxW b g hb).1;omega)
 have oO:∀j h,L.own j=some h→j≠id→o≠some h:=fun j h hj hne e=>hne (W.injO j id h hj (ho h e))
 have oX:∀b h,L.box b=some h→o≠some h:=fun b h hb e=>W.dis id b h (ho h e) hb
 have hown:∀j h,(L.addOwn id g).own j=some h→(j=id∧h=g)∨(j≠id∧L.own j=some h):=by
  intro j h hj
  simp only[Lay.addOwn,upd] at hj
  split at hj
  ·simp only[Option.some.injEq] at hj;exact .inl ⟨by assumption,hj.symm⟩
  ·exact .inr ⟨by assumption,hj⟩
 exact {
  nidO:=fun j h hj=>by rcases hown j h hj with ⟨rfl,_⟩|⟨_,h2⟩<;>first|omega|(have:=W.nidO j h h2;omega)
  nidB:=fun j h hj=>by have:=W.nidB j h hj;omega
  own:=fun j h hj=>by
   rcases hown j h hj with ⟨_,rfl⟩|⟨_,h2⟩
   ·exact⟨hgl,gB,gA⟩
   ·obtain⟨k1,k2,k3⟩:=W.own j h h2;exact⟨Nat.lt_of_lt_of_le k1 T.size,k2,k3⟩
  boxW:=fun b h hb=>by obtain⟨k1,k2,k3⟩:=W.boxW b h hb;exact⟨Nat.lt_of_lt_of_le k1 T.size,k2,k3⟩
  injO:=fun i j h hi hj=>by
   rcases hown i h hi with ⟨rfl,h1⟩|⟨_,h2⟩<;>rcases hown j h hj with ⟨rfl,h3⟩|⟨_,h4⟩
   ·rfl
   ·subst h1;exact (gO j h4).symm
   ·subst h3;exact gO i h2
   ·exact W.injO i j h h2 h4
  injB:=W.injB
  dis:=fun i j h hi hj=>by
   rcases hown i h hi with ⟨_,rfl⟩|⟨_,h2⟩
   ·exact gX j hj
   ·exact W.dis i j h h2 hj
  old:=fun h hh=>Nat.lt_of_lt_of_le (W.old h hh) T.size
  frz:=W.frz }
theorem akr{id:Nat}{o:Option Nat}{g:Nat}{e:TypeId}{k:Nat}{ys:List V}{cells:List Value}{arr:Array Value}{cap:Nat}(S:Sim C s L a w)(ho:∀j,o=some j→L.own id=some j)(T:InsEnd w w' o)
  (hg:w'.heap[g]?=some (.cells arr e (0,0))) (hn:o=some g∨w.heap.size≤g) (hr:RepE L w k ys cells) (hl:ys.length≤cap) (hm:cap≤maxLen) (hs:arr.size=cap*k) (htk:arr.toList.take (ys.length*k)=cells) :
  Sim C { s.mapV (aJ id) with nid:=max s.nid (id+1) } (L.addOwn id g) a w'∧Rep (L.addOwn id g) w' (.sl (.own id e) k ys) (.slice (some ⟨g,0,none⟩) ys.length cap):=by
 have W:=S.wf
 have hgl:=(Array.getElem?_eq_some_iff.1 hg).1
 have hA:∀h,o=some h→¬L.A h:=fun h e=>(W.own id h (ho h e)).2.2
 have gA:¬L.A g:=hn.elim (hA g) (fun h k=>by have:=W.old g k;omega)
 have gB:C.B≤g∨C.Wr g:=hn.elim (fun h=>(W.own id g (ho g h)).2.1) (fun h => .inl (by have:=S.hB;omega))
 have gO:∀j,L.own j=some g→j=id:=fun j hj=>hn.elim (fun h=>W.injO j id g hj (ho g h)) (fun h=>by have:=(W.own j g hj).1;omega)
 have gX:∀b,L.box b=some g→False:=fun b hb=>hn.elim (fun h=>W.dis id b g (ho g h) hb) (fun h=>by have:=(W.boxW b g hb).1;omega)
 have oO:∀j h,L.own j=some h→j≠id→o≠some h:=fun j h hj hne e=>hne (W.injO j id h hj (ho h e))
 have oX:∀b h,L.box b=some h→o≠some h:=fun b h hb e=>W.dis id b h (ho h e) hb
 have hown:∀j h,(L.addOwn id g).own j=some h→(j=id∧h=g)∨(j≠id∧L.own j=some h):=by
  intro j h hj
  simp only[Lay.addOwn,upd] at hj
  split at hj
  ·simp only[Option.some.injEq] at hj;exact .inl ⟨by assumption,hj.symm⟩
  ·exact .inr ⟨by assumption,hj⟩
 have hid:(L.addOwn id g).own id=some g:=by simp [Lay.addOwn,upd]
 have K:Trans (Tag.is id) (fun _=>false) _root_.id _root_.id L (L.addOwn id g) w w' :=
  ⟨rfl,fun h hA'=>⟨hA',.of (T.block h (W.old h hA') (fun e=>hA h e hA'))⟩,fun j e hj h hh=>by
    have hne:j≠id:=fun e=>by subst e;simp [Tag.is] at hj
    exact⟨⟨rfl,by simp [Lay.addOwn,upd,hne,hh]⟩,T.block h (W.own j h hh).1 (oO j h hh hne)⟩,
   fun b _ h hh=>⟨hh,.of (T.block h (W.boxW b h hh).1 (oX b h hh))⟩⟩
 have wf:Wf C (max s.nid (id+1)) (L.addOwn id g) w':=ali S ho T hg hn
 refine⟨S.mapV (fun v u h=>jR K h) (fun b h hb=>⟨hb,T.block h (W.boxW b h hb).1 (oX b h hb)⟩) wf ⟨T.os,T.tape,T.output,T.size,fun h hh hW=>T.block h (by have:=S.hB;omega) (fun e => ?_),T.drawn⟩,
  some ⟨g,0,none⟩,cap,cells,rfl,hr.trans (p:=Tag.is id) (q:=fun _=>false) rfl K,.inr ⟨g,arr,hid,rfl,hg,hl,hm,hs,htk⟩⟩
 rcases (W.own id h (ho h e)).2.1 with k1|k1
 ·omega
 ·exact hW k1
end
section
variable {P:Program} [Tb P]
theorem alH{f:FuncId}{e:TypeId}{k bytes:Nat}(hen:jD P f=true)(hk0:0<k)
  (H:∀(w:World) (o:Option Nat) (n cap i:Nat) (cells vs:List Value) (ad:Addr) (xc:Nat),i≤n→InsArg P w o e k bytes n cap cells vs ad xc →
   Calls P f #[.slice (o.map fun g=>⟨g,0,none⟩) n cap,.int .i64 i,.slice (some ad) 1 xc] w fun e' w'=>∃u,e' = .returned u∧zt w o e k (n+1) (cells.take (i*k)++vs++cells.drop (i*k)) u w')
  (id:Nat) (xs:List V) (x:V) (t:Tag) (ht:t = .fz∨∃j e2,t = .own j e2∧j≠id) (i:Nat) (s:St) (hi:i≤xs.length) (hf:Fits (xs.length+1) bytes) :
  GoodZ P f [.sl (.own id e) k xs,.c (.int .i64 (i:Int)),.sl t k [x]] s { s.mapV (aJ id) with nid:=max s.nid (id+1) } (.sl (.own id e) k (xs.take i++[x]++xs.drop i)):=by
 rintro C L a w cargs hT S ⟨u,r,rfl,⟨ad,cap,cells,rfl,h2,h3⟩,⟨u2,r2,rfl,h10,⟨u3,r3,rfl,⟨xa,xc,vs,rfl,h11,h12⟩,hr⟩⟩⟩
 simp only[Reps,Rep] at hr h10
 subst hr
 subst h10
 refine .inl ⟨hen, ?_⟩
 have hcl:=h2.length
 have hvl:=h11.length
 have W:=S.wf
 obtain⟨gx,ox,rfl,hxc,hrow,hA⟩:∃gx ox,xa=some ⟨gx,ox,none⟩∧1≤xc∧Row w gx ox vs∧∀g,L.own id=some g→gx≠g:=by
  rcases ht with rfl|⟨j,e2,rfl,hj⟩
  ·obtain⟨hxc,h12⟩:=h12
   obtain⟨gx,ox,rfl,hA,hrow⟩:=h12.resolve_left (by simp)
   exact⟨gx,ox,rfl,hxc,hrow,fun g hg e=>by subst e;exact (W.own id _ hg).2.2 hA⟩
  ·rcases h12 with ⟨h0,_⟩|⟨g,arr,k1,rfl,k3,k4,k5,k6,k7⟩
   ·simp at h0
   ·refine⟨g,0,rfl,k4,⟨arr,_,_,k3, ?_⟩,fun g' hg e=>hj (W.injO j id g k1 (e ▸ hg))⟩
    rw[hvl];exact k7
 have key:∀o,(∀j,o=some j→L.own id=some j)→ad=(o.map fun g=>(⟨g,0,none⟩:Addr))→InsArg P w o e k bytes xs.length cap cells vs ⟨gx,ox,none⟩ xc →
   Calls P f #[.slice ad xs.length cap,.int .i64 i,.slice (some ⟨gx,ox,none⟩) 1 xc] w fun e' w'=>∃u L',e' = .returned u∧Sim C { s.mapV (aJ id) with nid:=max s.nid (id+1) } L' a w'∧Rep L' w' (.sl (.own id e) k (xs.take i++[x]++xs.drop i)) u:=by
  intro o ho hao hI
  subst hao
  refine (H w o xs.length cap i cells vs ⟨gx,ox,none⟩ xc hi hI).mono ?_
  rintro e' w' ⟨u,rfl,T,g,cap',arr,rfl,k1,k2,k3,k4,k5,k6⟩
  have hyl:(xs.take i++[x]++xs.drop i).length=xs.length+1:=by simp;omega
  have:=akr (ys:=xs.take i++[x]++xs.drop i) S ho T k1 k6 (((h2.take i).append h11).append (h2.drop i)) (by rw[hyl];exact k2) k3 k4 (by rw[hyl];exact k5)
  rw[hyl] at this
  exact⟨_,_,rfl,this.1,this.2⟩
 have hx1:∀j v,vs[j]?=some v→w.cell? ((⟨gx,ox,none⟩:Addr).add j)=some v:=fun j v hj=>by rw[dS];exact hrow.cell hj
 have hxb:∃arr t fr,w.heap[gx]?=some (.cells arr t fr)∧arr.size≠0:=by
  obtain⟨arr,t,fr,h,h'⟩:=hrow
  refine⟨arr,t,fr,h,fun h0 => ?_⟩
  have e0:arr.toList=[]:=List.eq_nil_of_length_eq_zero (by simpa using h0)
  rw[e0] at h'
  have:=congrArg List.length h'
  simp at this
  simp at hvl
  omega
 rcases h3 with ⟨h4,rfl,rfl⟩|⟨g,arr,h4,rfl,h5,h6,h7,h8,h9⟩
 ·have hx0:xs=[]:=List.eq_nil_of_length_eq_zero h4
  subst hx0
  simp only[RepE] at h2
  subst h2
  exact key none (fun j h=>by cases h) rfl ⟨.inl ⟨rfl,rfl,rfl,rfl⟩,hxb,rfl,by simp,by simpa using hvl,hxc,hx1,by simp,h11.one,hf,hk0⟩
 ·refine key (some g) (fun j h=>by cases h;exact h4) rfl ⟨.inr ⟨g,arr,rfl,h5,h6,h7,h8,h9,fun e => ?_⟩,hxb,rfl,hcl,by simpa using hvl,hxc,hx1,h2.one,h11.one,hf,hk0⟩
  simp only at e
  exact hA g h4 e
theorem alo{f:FuncId}{e:TypeId}{k:Nat}(hen:jD P f=true)(hk0:0<k)
  (H:∀(w:World) (ad0:Addr) (vs:List Value) (ad:Addr) (xc:Nat),vs.length=k→(∀j v,vs[j]?=some v→w.cell? (ad.add j)=some v)→(∀v∈vs,v.oneCell'=true) →
   Calls P f #[.slice (some ad0) 0 0,.int .i64 0,.slice (some ad) 1 xc] w fun e' w'=>∃u,e' = .returned u∧zt w none e k 1 vs u w')
  (k':Nat) (x:V) (t:Tag) (ht:t = .fz∨∃j e2,t = .own j e2) (s:St) :
  GoodZ P f [.sl .nn k' [],.c (.int .i64 0),.sl t k [x]] s { s with nid:=s.nid+1 } (.sl (.own s.nid e) k [x]):=by
 rintro C L a w cargs hT S ⟨u,r,rfl,⟨ad,cap,cells,rfl,h2,h3⟩,⟨u2,r2,rfl,h10,⟨u3,r3,rfl,⟨xa,xc,vs,rfl,h11,h12⟩,hr⟩⟩⟩
 simp only[Reps,Rep] at hr h10
 subst hr
 subst h10
 refine .inl ⟨hen, ?_⟩
 obtain⟨_,hads,rfl⟩:=h3
 obtain⟨ad0,rfl⟩:=Option.isSome_iff_exists.1 hads
 have hvl:=h11.length
 have W:=S.wf
 obtain⟨gx,ox,rfl,hrow⟩:∃gx ox,xa=some ⟨gx,ox,none⟩∧Row w gx ox vs:=by
  rcases ht with rfl|⟨j,e2,rfl⟩
  ·obtain⟨hxc,h12⟩:=h12
   obtain⟨gx,ox,rfl,hA,hrow⟩:=h12.resolve_left (by simp)
   exact⟨gx,ox,rfl,hrow⟩
  ·rcases h12 with ⟨h0,_⟩|⟨g,arr,k1,rfl,k3,k4,k5,k6,k7⟩
   ·simp at h0
   ·exact⟨g,0,rfl,arr,_,_,k3,by rw[hvl];exact k7⟩
 refine (H w ad0 vs ⟨gx,ox,none⟩ xc (by simpa using hvl) (fun j v hj=>by rw[dS];exact hrow.cell hj) h11.one).mono ?_
 rintro e' w' ⟨u,rfl,T,g,cap',arr,rfl,k1,k2,k3,k4,k5,k6⟩
 have G:Grow w w':=⟨T.os,T.tape,T.output,T.size,fun k hk=>T.block k hk (fun h=>by cases h),T.drawn⟩
 have wf:=ali (id:=s.nid) S (fun j h=>by cases h) T k1 k6
 have hm:max s.nid (s.nid+1)=s.nid+1:=by omega
 rw[hm] at wf
 refine⟨_,L.addOwn s.nid g,rfl,S.grow G (W.leOwn g) rfl (fun b cs h => .inl h) wf,some ⟨g,0,none⟩,cap',vs,rfl, ?_,.inr ⟨g,arr,by simp [Lay.addOwn,upd],rfl,k1,k2,k3,k4,k5⟩⟩
 exact h11.trans (p:=fun _=>false) (q:=fun _=>false) rfl (W.whole G (W.leOwn g))
end
end Go.Pg
end
namespace Go.Proofs.YtiohdbjggmmjcaaGreat
open Go Go.Pg Go.RowKit Go.Lib
theorem akQ:tapp Tryz.prog 119=some (3,32):=by kernel_rfl
theorem aiz:Tryz.prog.underlying 32=some (.slice 119):=bW (by kernel_rfl)
theorem alS:Tryz.prog.underlying 3=some (.int .i64):=by kernel_rfl
theorem akR:Tryz.prog.follows .mixedOrders=true:=by kernel_rfl
theorem Za{a b:Nat}(h:a≤b):Nat.min a b=a:=Nat.min_eq_left h
theorem aks{a b:Nat}(h:b≤a):Nat.min a b=b:=Nat.min_eq_right h
theorem ajt{w w':World}{o:Option Nat}(h:InsEnd w w' o):InsEnd w w'.drew o:=⟨h.os,h.tape,h.output,h.size,h.block,Nat.le_succ_of_le h.drawn⟩
theorem Zl(w:World)(o:Option Nat):InsEnd w w o:=⟨rfl,rfl,rfl,Nat.le_refl _,fun _ _ _=>rfl,Nat.le_refl _⟩
theorem PD{w w':World}{g:Nat}(o:Option Nat)(h:InsEnd w w' o)(hg:o=some g∨w.heap.size≤g)(A:Array Value):InsEnd w (w'.setRow g A) o :=
 ⟨h.os,h.tape,h.output,by simpa using h.size,fun k hk ho=>by
  rw[setRow_other w' g k A (fun e=>by subst e;rcases hg with h1|h1;exact ho h1;omega)];exact h.block k hk ho,h.drawn⟩
theorem akt(g n c i m xc:Nat)(arr:Array Value)(cs vs:List Value)(ad:Addr)(w:World)(hi:i<n)(hm:0<m)(hroom:n+m≤c)(hc:c≤9223372036854775807)(hg:w.heap[g]?=some (.cells arr 119 (0,0)))
  (has:arr.size=c*3) (htk:arr.toList.take (n*3)=cs) (hne:ad.block≠g) (had:∃arr t fr,w.heap[ad.block]?=some (.cells arr t fr)∧arr.size≠0) (hvl:vs.length=m*3) (hvs:∀j v,vs[j]?=some v→w.cell? (ad.add j)=some v)
  (h1c:∀v∈cs,v.oneCell'=true) (h1v:∀v∈vs,v.oneCell'=true) :
  Calls Tryz.prog 85 #[.slice (some ⟨g,0,none⟩) n c,.int .i64 i,.slice (some ad) m xc] w fun e w'=>∃u,e = .returned u∧zt w (some g) 119 3 (n+m) (cs.take (i*3)++vs++cs.drop (i*3)) u w':=by
 obtain⟨i0,z,hi0,hz,hzs,hz3,hzb,hpos⟩:=jc akQ
 have hcl:cs.length=n*3:=by rw[←htk,List.length_take,Array.length_toList,has];omega
 have hrow:Row w g 0 cs:=⟨arr,_,_,hg,by rw[hcl];simpa using htk⟩
 have hdl:(cs.drop (i*3)).length=(n-i)*3:=by rw[List.length_drop,hcl];omega
 obtain⟨A1,hA1⟩:∃A1,A1=(arr.toList.take ((i+m)*3)++cs.drop (i*3)++arr.toList.drop ((i+m)*3+(cs.drop (i*3)).length)).toArray:=⟨_,rfl⟩
 obtain⟨A2,hA2⟩:∃A2,A2=(A1.toList.take (i*3)++vs++A1.toList.drop (i*3+vs.length)).toArray:=⟨_,rfl⟩
 have hs1:A1.size=arr.size:=by
  rw[hA1];simp only[List.size_toArray,List.length_append,List.length_take,List.length_drop,Array.length_toList,hcl,has];omega
 have hs2:A2.size=arr.size:=by
  rw[hA2];simp only[List.size_toArray,List.length_append,List.length_take,List.length_drop,Array.length_toList,hvl,hs1,has];omega
 have hg1:∀W:World,W.heap=w.heap→(W.setRow g A1).heap[g]?=some (.cells A1 119 (0,0)):=fun W hW=>setRow_heap W g arr A1 _ _ (by rw[hW];exact hg)
 have hov:∀(W:World) lb cb,W.heap=w.heap→(callFunc 143 #[.slice (some ad) m xc,.slice (some ⟨g,(i+m)*3,none⟩) lb cb]).run Tryz.prog W = .ok (.value (.bool false)) W:=fun W lb cb hW=>by
  rw[run_callFunc_extern Tryz.func143 (by kernel_rfl) (by kernel_rfl) (by kernel_rfl) (e:=Extern.SlicesOverlaps.overlaps #[32,32] #[4]) (by kernel_rfl),
   Y9 aiz hi0 ad ⟨g,(i+m)*3,none⟩ m xc lb cb hne (by rw[hW];exact had) ⟨arr,_,by rw[hW];exact hg,by rw[has];omega⟩]
  rfl
 have hcell:∀W:World,W.heap=w.heap→∀j v,(cs.drop (i*3))[j]?=some v→W.cell? ((⟨g,i*3,none⟩:Addr).add j)=some v:=fun W hW j v hj=>by
  rw[dS]
  rw[List.getElem?_drop] at hj
  have h:=hrow.cell hj
  simp only[World.cell?,hW] at h ⊢
  simpa using h
 have hcp1:∀ty dc sc,(Builtin.copy_ #[32,32] ty #[.slice (some ⟨g,(i+m)*3,none⟩) (n+m-(i+m)) dc,.slice (some ⟨g,i*3,none⟩) (n+m-i) sc]).run Tryz.prog w.drew = .ok (goInt ((n-i:Nat):Int)) (w.drew.setRow g A1):=fun ty dc sc=>by
  have h:=zF (P:=Tryz.prog) (ty:=ty) (w:=w.drew) (dCap:=dc) (sCap:=sc) (sT:=32) aiz hi0 (g:=g) (o:=(i+m)*3) (dLen:=n+m-(i+m)) (sLen:=n+m-i) (arr:=arr) (ad:=⟨g,i*3,none⟩) (cs:=cs.drop (i*3)) hg
   (by rw[hdl,hz3,aks (by omega),Nat.add_sub_add_right]) (hcell w.drew rfl) (by rw[hdl,has];omega) (fun v hv=>h1c v (List.mem_of_mem_drop hv))
  rw[←hA1,show Nat.min (n+m-i) (n+m-(i+m))=n-i by rw[aks (by omega),Nat.add_sub_add_right]] at h
  exact h
 have hcp2:∀(W:World),W.heap=(w.drew.setRow g A1).heap→∀ty dc,(Builtin.copy_ #[32,32] ty #[.slice (some ⟨g,i*3,none⟩) (n+m-i) dc,.slice (some ad) m xc]).run Tryz.prog W = .ok (goInt ((m:Nat):Int)) (W.setRow g A2):=fun W hW ty dc=>by
  have h:=zF (P:=Tryz.prog) (ty:=ty) (w:=W) (dCap:=dc) (sCap:=xc) (sT:=32) aiz hi0 (g:=g) (o:=i*3) (dLen:=n+m-i) (sLen:=m) (arr:=A1) (ad:=ad) (cs:=vs) (by rw[hW];exact hg1 w.drew rfl)
   (by rw[hvl,hz3,Za (by omega)]) (fun j v hj=>by
    have h:=hvs j v hj
    have hb:(ad.add j).block=ad.block:=by unfold Addr.add;split<;>rfl
    have h2:=cell_setRow_other w.drew g A1 (ad.add j) (by rw[hb];exact hne)
    simp only[World.cell?,hW] at h h2 ⊢
    rw[h2];exact h) (by rw[hvl,hs1,has];omega) h1v
  rw[←hA2,show Nat.min m (n+m-i)=m from Za (by omega)] at h
  exact h
 have hend:zt w (some g) 119 3 (n+m) (cs.take (i*3)++vs++cs.drop (i*3)) (.slice (some ⟨g,0,none⟩) (n+m) c) ((w.drew.setRow g A1).setRow g A2):=by
  refine⟨PD _ (PD _ (ajt (Zl w _)) (.inl rfl) A1) (.inl rfl) A2,g,c,A2,rfl,setRow_heap _ g A1 A2 _ _ (hg1 w.drew rfl),hroom,hc,by rw[hs2,has], ?_,.inl rfl⟩
  have e1:arr.toList.take (i*3)=cs.take (i*3):=by rw[←htk,List.take_take];congr 1;omega
  have e2:A1.toList.take (i*3)=arr.toList.take (i*3):=by
   rw[hA1]
   simp only[List.append_assoc]
   rw[List.take_append_of_le_length (by simp only[List.length_take,Array.length_toList,has];omega),List.take_take]
   congr 1;omega
  have e3:(A1.toList.drop (i*3+vs.length)).take ((n-i)*3)=cs.drop (i*3):=by
   rw[hA1,hvl,show i*3+m*3=(i+m)*3 by omega,List.append_assoc]
   show List.take _ (List.drop _ (_++_))=_
   have hl:(arr.toList.take ((i+m)*3)).length=(i+m)*3:=by simp only[List.length_take,Array.length_toList,has];omega
   rw[List.drop_append_of_le_length (by rw[hl];exact Nat.le_refl _),List.drop_of_length_le (by rw[hl];exact Nat.le_refl _),List.nil_append]
   rw[←hdl]
   exact List.take_left
  rw[hA2,←e1,←e2,←e3]
  have hl:(A1.toList.take (i*3)).length=i*3:=by simp only[List.length_take,Array.length_toList,hs1,has];omega
  show List.take _ (A1.toList.take (i*3)++vs++_)=_
  rw[List.take_append,List.take_of_length_le (by simp only[List.length_append,hl,hvl];omega)]
  congr 2
  simp only[List.length_append,hl,hvl]
  omega
 have hz1:¬((m:Int)=0):=by omega
 have hz2:¬((i:Int)=(n:Int)):=by omega
 have hw1:IntKind.i64.wrap ((i:Int)+(m:Int))=(i:Int)+(m:Int):=by rw[IntKind.wrap_i64];omega
 have hw2:IntKind.i64.wrap ((n:Int)+(m:Int))=(n:Int)+(m:Int):=by rw[IntKind.wrap_i64];omega
 have hb1:(0:Int)≤(i:Int)+(m:Int):=by omega
 have hin:i≤n:=by omega
 have htn:((i:Int)+(m:Int)).toNat=i+m:=by omega
 have hb2:¬(c=i+m):=by omega
 have hb3:(i:Int)≤(n:Int)+(m:Int):=by omega
 have hb4:¬(c=i):=by omega
 have mixed:=akR
 clear hA1 hA2 hs1 hs2 hrow hcl htk has hdl hvl hcell hg1
 go_enter Tryz.func85,Tryz.ntmps85
 go_wp2_with (simp only[hov])
 go_region_law_o (refine step_copy_runI rfl _ _ 32 32 rfl _ _ (by simp [Act.eval,Act.put]) (by simp [Act.eval,Act.put]) (hcp1 _ _ _) ?_)
 go_wp2_with (at_builtin;refine wpList_copy_runI _ rfl _ _ 32 32 rfl _ _ rfl rfl (hcp2 _ rfl _ _) ?_)
 go_ret
 exact⟨_,rfl,hend⟩
theorem abY{w W:World}{o:Option Nat}{e:TypeId}{n cap:Nat}{cells:List Value}{A:Array Value}(h1:W.os=w.os)(h2:W.tape=w.tape)(h3:W.output=w.output)(h4:w.drawn≤W.drawn)(h5:w.heap.size≤W.heap.size)(h6:∀k,k<w.heap.size→W.heap[k]?=w.heap[k]?)
  (h7:W.heap[w.heap.size]?=some (.cells A e (0,0))) (hn:n≤cap) (hc:cap≤maxLen) (hs:A.size=cap*3) (ht:A.toList.take (n*3)=cells):zt w o e 3 n cells (.slice (some ⟨w.heap.size,0,none⟩) n cap) W :=
 ⟨⟨h1,h2,h3,h5,fun k hk _=>h6 k hk,h4⟩,w.heap.size,cap,A,rfl,h7,hn,hc,hs,ht,.inr (Nat.le_refl _)⟩
theorem akS(g n c m xc:Nat)(arr:Array Value)(cs vs:List Value)(ad:Addr)(w:World)(hm:0<m)(hroom:n+m≤c)(hc:c≤9223372036854775807)(hg:w.heap[g]?=some (.cells arr 119 (0,0)))
  (has:arr.size=c*3) (htk:arr.toList.take (n*3)=cs) (hvl:vs.length=m*3) (hvs:∀j v,vs[j]?=some v→w.cell? (ad.add j)=some v) (h1v:∀v∈vs,v.oneCell'=true) :
  Calls Tryz.prog 85 #[.slice (some ⟨g,0,none⟩) n c,.int .i64 n,.slice (some ad) m xc] w fun e w'=>∃u,e = .returned u∧zt w (some g) 119 3 (n+m) (cs++vs) u w':=by
 obtain⟨i0,z,hi0,hz,hzs,hz3,hzb,hpos⟩:=jc akQ
 have hcl:cs.length=n*3:=by rw[←htk,List.length_take,Array.length_toList,has];omega
 have hsrc:Src Tryz.prog i0.size 32 (.slice (some ad) m xc) m vs w:=Src.ofSlice w aiz ad m xc vs (by rw[hvl,hz3]) hvs h1v
 obtain⟨A,hA⟩:∃A,A=(arr.toList.take (n*i0.size)++vs++arr.toList.drop (n*i0.size+vs.length)).toArray:=⟨_,rfl⟩
 have hrun:∀ty,(Builtin.append_ #[32,32] ty #[.slice (some ⟨g,0,none⟩) n c,.slice (some ad) m xc]).run Tryz.prog w = .ok (.slice (some ⟨g,0,none⟩) (n+m) c) (w.setRow g A):=fun ty=>by
  rw[hA]
  exact jC (P:=Tryz.prog) (ty:=ty) aiz hi0 hg hsrc hroom (by rw[hz3,hvl,has];omega)
 have hend:zt w (some g) 119 3 (n+m) (cs++vs) (.slice (some ⟨g,0,none⟩) (n+m) c) (w.setRow g A):=by
  refine⟨PD _ (Zl w _) (.inl rfl) A,g,c,A,rfl,setRow_heap _ g arr A _ _ hg,hroom,hc, ?_, ?_,.inl rfl⟩
  ·rw[hA,hz3];simp only[List.size_toArray,List.length_append,List.length_take,List.length_drop,Array.length_toList,hvl,has];omega
  ·rw[hA,hz3,htk]
   show List.take _ (cs++vs++_)=_
   rw[show (n+m)*3=(cs++vs).length by rw[List.length_append,hcl,hvl];omega]
   exact List.take_left
 have hz1:¬((m:Int)=0):=by omega
 have mixed:=akR
 clear hA hsrc htk has hvl hcl
 go_enter Tryz.func85,Tryz.ntmps85
 go_wp2_with (at_builtin;refine Lib.wpList_append_run _ rfl _ _ _ _ rfl _ _ rfl rfl _ _ (hrun _) ?_)
 go_ret
 exact⟨_,rfl,hend⟩
theorem ajE(base:Option Addr)(n c m xc:Nat)(cs vs:List Value)(ad:Addr)(w:World)(hm:0<m)(hnc:n≤c)(hroom:c<n+m)(hfit:Fits (n+m) 32)(hcl:cs.length=n*3)(hnil:base=none→n=0)
  (hcs:∀a,base=some a→∀j v,cs[j]?=some v→w.cell? (a.add j)=some v) (hvl:vs.length=m*3) (hvs:∀j v,vs[j]?=some v→w.cell? (ad.add j)=some v) (h1v:∀v∈vs,v.oneCell'=true) (o:Option Nat) :
  Calls Tryz.prog 85 #[.slice base n c,.int .i64 n,.slice (some ad) m xc] w fun e w'=>∃u,e = .returned u∧zt w o 119 3 (n+m) (cs++vs) u w':=by
 obtain⟨i0,z,hi0,hz,hzs,hz3,hzb,hpos⟩:=jc akQ
 have hsrc:Src Tryz.prog i0.size 32 (.slice (some ad) m xc) m vs w:=Src.ofSlice w aiz ad m xc vs (by rw[hvl,hz3]) hvs h1v
 have hold:(Builtin.firstCells i0.size n (.slice base n c)).run Tryz.prog w.drew = .ok cs.toArray w.drew:=by
  cases base with
  | none =>
   have h0:=hnil rfl
   subst h0
   have hc0:cs=[]:=List.eq_nil_of_length_eq_zero (by simpa using hcl)
   rw[hc0]
   exact run_firstCells_none w.drew _ 0 0 c
  | some a=>exact run_firstCells_some w.drew i0.size n a n c cs (by rw[hcl,hz3]) (fun j v hj=>hcs a rfl j v hj)
 obtain⟨hf1,hf2⟩:=hfit
 have hrun:∀ty,(Builtin.append_ #[32,32] ty #[.slice base n c,.slice (some ad) m xc]).run Tryz.prog w = .ok (.slice (some ⟨w.heap.size,0,none⟩) (n+m) (grownCap w (n+m) c 119)) (w.drew.alloc (dH w cs vs (n+m) c 119 z)):=fun ty =>
  run_append_grow_src (P:=Tryz.prog) w 32 32 ty 119 i0 z aiz hi0 hz base n c cs hold _ m vs hsrc hroom (by simp only[maxLen] at hf1;omega) (by rw[hzb];exact growslice_fits hroom hf2)
 obtain⟨G,hG⟩:∃G,G=grownCap w (n+m) c 119:=⟨_,rfl⟩
 have hge:n+m≤G:=by rw[hG];exact grownCap_ge w _ _ _
 have hgm:G≤maxLen:=by rw[hG];exact grownCap_le_maxLen w _ _ _ hf1
 have hend:zt w o 119 3 (n+m) (cs++vs) (.slice (some ⟨w.heap.size,0,none⟩) (n+m) G) (w.drew.alloc (dH w cs vs (n+m) c 119 z)):=by
  refine abY (A:=(cs++vs).toArray++Builtin.zeroCells z.cells (grownCap w (n+m) c 119-(n+m))) rfl rfl rfl (by show w.drawn≤w.drawn+1;omega) (by simp) (fun k hk=>RowKit.Below.heap_alloc _ _ _ (by simpa using hk)) (heap_alloc_new w.drew _) hge hgm ?_ ?_
  ·rw[←hG]
   simp only[Array.size_append,List.size_toArray,size_zeroCells,hzs,List.length_append,hcl,hvl];omega
  ·rw[Array.toList_append,show (n+m)*3=(cs++vs).length by rw[List.length_append,hcl,hvl];omega]
   exact List.take_left
 rw[←hG] at hrun
 have hz1:¬((m:Int)=0):=by omega
 have mixed:=akR
 clear hsrc hold hG hvl hcl hf1 hf2
 generalize w.drew.alloc (dH w cs vs (n+m) c 119 z)=W at hrun hend
 go_enter Tryz.func85,Tryz.ntmps85
 cases base with
 | none =>
  have h0:=hnil rfl
  subst h0
  go_wp2_with (at_builtin;refine Lib.wpList_append_run _ rfl _ _ _ _ rfl _ _ rfl rfl _ _ (hrun _) ?_)
  go_ret
  rw[Nat.zero_add] at hend
  exact⟨_,rfl,hend⟩
 | some a =>
  obtain⟨ab,ao,asp⟩:=a
  go_wp2_with (at_builtin;refine Lib.wpList_append_run _ rfl _ _ _ _ rfl _ _ rfl rfl _ _ (hrun _) ?_)
  all_goals (go_ret;exact⟨_,rfl,hend⟩)
theorem akT(g n c i m xc:Nat)(arr:Array Value)(cs vs:List Value)(ad:Addr)(w:World)(hi:i<n)(hm:0<m)(hnc:n≤c)(hroom:c<n+m)(hfit:Fits (n+m) 32)(hg:w.heap[g]?=some (.cells arr 119 (0,0)))
  (has:arr.size=c*3) (htk:arr.toList.take (n*3)=cs) (hvl:vs.length=m*3) (hvs:∀j v,vs[j]?=some v→w.cell? (ad.add j)=some v) (hva:∃v,w.cell? ad=some v)
  (h1c:∀v∈cs,v.oneCell'=true) (h1v:∀v∈vs,v.oneCell'=true) (o:Option Nat) :
  Calls Tryz.prog 85 #[.slice (some ⟨g,0,none⟩) n c,.int .i64 i,.slice (some ad) m xc] w fun e w'=>∃u,e = .returned u∧zt w o 119 3 (n+m) (cs.take (i*3)++vs++cs.drop (i*3)) u w':=by
 obtain⟨i0,z,hi0,hz,hzs,hz3,hzb,hpos⟩:=jc akQ
 have hcl:cs.length=n*3:=by rw[←htk,List.length_take,Array.length_toList,has];omega
 have hrow:Row w g 0 cs:=⟨arr,_,_,hg,by rw[hcl];simpa using htk⟩
 have hdl:(cs.drop (i*3)).length=(n-i)*3:=by rw[List.length_drop,hcl];omega
 have hgw:g<w.heap.size:=(Array.getElem?_eq_some_iff.1 hg).1
 have haw:ad.block<w.heap.size:=by obtain⟨v,hv⟩:=hva;exact World.block_lt_of_cell? _ _ hv
 obtain⟨hf1,hf2⟩:=hfit
 have hkk:(n:Int)+(m:Int)-(i:Int)=((n+m-i:Nat):Int):=by omega
 have hik:i+(n+m-i)=n+m:=by omega
 have hold:(Builtin.firstCells i0.size i (.slice (some ⟨g,0,none⟩) i c)).run Tryz.prog w.drew = .ok (cs.take (i*3)).toArray w.drew :=
  run_firstCells_some w.drew i0.size i ⟨g,0,none⟩ i c (cs.take (i*3)) (by rw[List.length_take,hcl,hz3];omega) (fun j v hj=>by
   rw[dS,World.cell?_drew]
   rw[List.getElem?_take] at hj
   split at hj
   ·exact hrow.cell hj
   ·cases hj)
 obtain⟨G,hG⟩:∃G,G=grownCap w (n+m) c 119:=⟨_,rfl⟩
 have hge:n+m≤G:=by rw[hG];exact grownCap_ge w _ _ _
 have hgm:G≤maxLen:=by rw[hG];exact grownCap_le_maxLen w _ _ _ hf1
 obtain⟨ROW,hROW⟩:∃ROW:Array Value,ROW=(cs.take (i*3)).toArray++Builtin.zeroCells z.cells (n+m-i)++Builtin.zeroCells z.cells (G-(n+m)):=⟨_,rfl⟩
 have hrz:∀ty,(Builtin.append_ #[32,3] ty #[.slice (some ⟨g,0,none⟩) i c,.int .i64 ((n:Int)+(m:Int)-(i:Int))]).run Tryz.prog w = .ok (.slice (some ⟨w.heap.size,0,none⟩) (n+m) G) (w.drew.alloc (.cells ROW 119)):=fun ty=>by
  have h:=Lib.run_append_grow_zeros (P:=Tryz.prog) w 32 3 ty 119 i0 z .i64 .i64 aiz alS hi0 hz (some ⟨g,0,none⟩) i c (cs.take (i*3)) hold (n+m-i) (by omega) (by omega) (by omega) (by simp only[maxLen] at hf1;omega) (by rw[hzb];omega) (by rw[hzb,hik];exact growslice_fits hroom hf2)
  rw[hik,←hG,←hROW] at h
  rw[hkk]
  exact h
 have hRs:ROW.size=G*3:=by
  rw[hROW]
  simp only[Array.size_append,List.size_toArray,size_zeroCells,hzs,List.length_take,hcl];omega
 have hRt:ROW.toList.take (i*3)=cs.take (i*3):=by
  rw[hROW,Array.append_assoc,Array.toList_append]
  have hl:(cs.take (i*3)).length=i*3:=by rw[List.length_take,hcl];omega
  have:=@List.take_left Value (cs.take (i*3)) (Builtin.zeroCells z.cells (n+m-i)++Builtin.zeroCells z.cells (G-(n+m))).toList
  rw[hl] at this
  exact this
 obtain⟨N,hN⟩:∃N,N=w.heap.size:=⟨_,rfl⟩
 obtain⟨W1,hW1⟩:∃W1,W1=w.drew.alloc (.cells ROW 119):=⟨_,rfl⟩
 have hWN:W1.heap[N]?=some (.cells ROW 119 (0,0)):=by rw[hW1,hN];exact heap_alloc_new w.drew _
 have hWo:∀k,k<N→W1.heap[k]?=w.heap[k]?:=fun k hk=>by rw[hW1];exact RowKit.Below.heap_alloc _ _ _ (by subst hN;simpa using hk)
 obtain⟨A1,hA1⟩:∃A1,A1=(ROW.toList.take (i*3)++vs++ROW.toList.drop (i*3+vs.length)).toArray:=⟨_,rfl⟩
 obtain⟨A2,hA2⟩:∃A2,A2=(A1.toList.take ((i+m)*3)++cs.drop (i*3)++A1.toList.drop ((i+m)*3+(cs.drop (i*3)).length)).toArray:=⟨_,rfl⟩
 have hs1:A1.size=G*3:=by
  rw[hA1];simp only[List.size_toArray,List.length_append,List.length_take,List.length_drop,Array.length_toList,hvl,hRs];omega
 have hs2:A2.size=G*3:=by
  rw[hA2];simp only[List.size_toArray,List.length_append,List.length_take,List.length_drop,Array.length_toList,hcl,hs1];omega
 have hc1:∀W:World,W.heap=W1.heap→∀x:Addr,x.block<N→W.cell? x=w.cell? x:=fun W hW x hx=>by
  simp only[World.cell?,hW,hWo _ hx]
 have hc2:∀W:World,W.heap=(W1.setRow N A1).heap→∀x:Addr,x.block<N→W.cell? x=w.cell? x:=fun W hW x hx=>by
  have h:=setRow_other W1 N x.block A1 (by omega)
  simp only[World.cell?,hW,h,hWo _ hx]
 have hab:∀(x:Addr) j,(x.add j).block=x.block:=fun x j=>by unfold Addr.add;split<;>rfl
 have hcpA:∀(W:World),W.heap=W1.heap→∀ty dc,(Builtin.copy_ #[32,32] ty #[.slice (some ⟨N,i*3,none⟩) (n+m-i) dc,.slice (some ad) m xc]).run Tryz.prog W = .ok (goInt ((m:Nat):Int)) (W.setRow N A1):=fun W hW ty dc=>by
  have h:=zF (P:=Tryz.prog) (ty:=ty) (w:=W) (dCap:=dc) (sCap:=xc) (sT:=32) aiz hi0 (g:=N) (o:=i*3) (dLen:=n+m-i) (sLen:=m) (arr:=ROW) (ad:=ad) (cs:=vs) (by rw[hW];exact hWN)
   (by rw[hvl,hz3,Za (by omega)]) (fun j v hj=>by rw[hc1 W hW _ (by rw[hab,hN];exact haw)];exact hvs j v hj) (by rw[hvl,hRs];omega) h1v
  rw[←hA1,show Nat.min m (n+m-i)=m from Za (by omega)] at h
  exact h
 have hcpB:∀(W:World),W.heap=(W1.setRow N A1).heap→∀ty dc sc,(Builtin.copy_ #[32,32] ty #[.slice (some ⟨N,(i+m)*3,none⟩) (n+m-(i+m)) dc,.slice (some ⟨g,i*3,none⟩) (n-i) sc]).run Tryz.prog W = .ok (goInt ((n-i:Nat):Int)) (W.setRow N A2):=fun W hW ty dc sc=>by
  have h:=zF (P:=Tryz.prog) (ty:=ty) (w:=W) (dCap:=dc) (sCap:=sc) (sT:=32) aiz hi0 (g:=N) (o:=(i+m)*3) (dLen:=n+m-(i+m)) (sLen:=n-i) (arr:=A1) (ad:=⟨g,i*3,none⟩) (cs:=cs.drop (i*3)) (by rw[hW];exact setRow_heap W1 N ROW A1 _ _ hWN)
   (by rw[hdl,hz3,Za (by omega)]) (fun j v hj=>by
    rw[hc2 W hW _ (by rw[hab,hN];exact hgw),dS]
    rw[List.getElem?_drop] at hj
    have h:=hrow.cell hj
    simpa using h) (by rw[hdl,hs1];omega) (fun v hv=>h1c v (List.mem_of_mem_drop hv))
  rw[←hA2,show Nat.min (n-i) (n+m-(i+m))=n-i from Za (by omega)] at h
  exact h
 have hend:∀W:World,W.os=w.os→W.tape=w.tape→W.output=w.output→w.drawn≤W.drawn→W.heap=((W1.setRow N A1).setRow N A2).heap→zt w o 119 3 (n+m) (cs.take (i*3)++vs++cs.drop (i*3)) (.slice (some ⟨N,0,none⟩) (n+m) G) W:=by
  intro W h1 h2 h3 h4 h5
  subst hN
  refine abY (A:=A2) h1 h2 h3 h4 (by rw[h5];simp [hW1]) (fun k hk=>by rw[h5,setRow_other _ _ _ _ (by omega),setRow_other _ _ _ _ (by omega),hWo k hk]) (by rw[h5];exact setRow_heap _ _ A1 A2 _ _ (setRow_heap W1 _ ROW A1 _ _ hWN)) hge hgm hs2 ?_
  have e1:A1.toList.take ((i+m)*3)=cs.take (i*3)++vs:=by
   rw[hA1,hRt]
   show List.take _ (cs.take (i*3)++vs++_)=_
   rw[show (i+m)*3=(cs.take (i*3)++vs).length by rw[List.length_append,List.length_take,hcl,hvl];omega]
   exact List.take_left
  rw[hA2,e1]
  show List.take _ (cs.take (i*3)++vs++cs.drop (i*3)++_)=_
  rw[show (n+m)*3=(cs.take (i*3)++vs++cs.drop (i*3)).length by rw[List.length_append,List.length_append,List.length_take,hcl,hvl,hdl];omega]
  exact List.take_left
 have hz1:¬((m:Int)=0):=by omega
 have hz2:¬((i:Int)=(n:Int)):=by omega
 have hz3':(c:Int)<(n:Int)+(m:Int):=by omega
 have hw1:IntKind.i64.wrap ((i:Int)+(m:Int))=(i:Int)+(m:Int):=by rw[IntKind.wrap_i64];simp only[maxLen] at hf1;omega
 have hw2:IntKind.i64.wrap ((n:Int)+(m:Int))=(n:Int)+(m:Int):=by rw[IntKind.wrap_i64];simp only[maxLen] at hf1;omega
 have hw3:IntKind.i64.wrap ((n:Int)+(m:Int)-(i:Int))=(n:Int)+(m:Int)-(i:Int):=by rw[IntKind.wrap_i64];simp only[maxLen] at hf1;omega
 have hb1:(0:Int)≤(i:Int)+(m:Int):=by omega
 have hin:i≤n:=by omega
 have hic:(i:Int)≤(c:Int):=by omega
 have htn:((i:Int)+(m:Int)).toNat=i+m:=by omega
 have hb3:(i:Int)≤(n:Int):=by omega
 have hb5:(i:Int)≤(n:Int)+(m:Int):=by omega
 have hGi:¬(G=i):=by omega
 have hGim:¬(G=i+m):=by omega
 have hci:¬(c=i):=by omega
 have mixed:=akR
 rw[←hW1,←hN] at hrz
 have hdw:w.drawn≤W1.drawn:=by rw[hW1];show w.drawn≤w.drawn+1;omega
 have hos:W1.os=w.os:=by rw[hW1];rfl
 have htp:W1.tape=w.tape:=by rw[hW1];rfl
 have hou:W1.output=w.output:=by rw[hW1];rfl
 clear hkk hik hold hROW hG hRs hRt hA1 hA2 hs1 hs2 hrow hcl htk has hdl hvl hc1 hc2 hWN hWo hab hN hW1 hf1 hf2 hgm
 go_enter Tryz.func85,Tryz.ntmps85
 go_wp2_with (first
  | (at_builtin;refine Lib.wpList_append_run _ rfl _ _ _ _ rfl _ _ rfl rfl _ _ (hrz _) ?_)
  | (at_builtin;refine wpList_copy_runI _ rfl _ _ 32 32 rfl _ _ rfl rfl (hcpA _ rfl _ _) ?_))
 go_region_law_o (refine step_copy_runI rfl _ _ 32 32 rfl (.slice (some ⟨N,(i+m)*3,none⟩) (n+m-(i+m)) (G-(i+m))) (.slice (some ⟨g,i*3,none⟩) (n-i) (c-i)) (by simp [Act.eval,Act.put]) (by simp [Act.eval,Act.put]) (hcpB (W1.setRow N A1).drew rfl 3 (G-(i+m)) (c-i)) ?_)
 go_wp2
 go_ret
 exact⟨_,rfl,hend _ hos htp hou (by show w.drawn≤W1.drawn+1;omega) rfl⟩
theorem abZ:jD Tryz.prog 85=true:=by kernel_rfl
theorem alp:∀(w:World) (o:Option Nat) (n cap i:Nat) (cells vs:List Value) (ad:Addr) (xc:Nat),i≤n→InsArg Tryz.prog w o 119 3 32 n cap cells vs ad xc →
   Calls Tryz.prog 85 #[.slice (o.map fun g=>⟨g,0,none⟩) n cap,.int .i64 i,.slice (some ad) 1 xc] w fun e' w'=>∃u,e' = .returned u∧zt w o 119 3 (n+1) (cells.take (i*3)++vs++cells.drop (i*3)) u w':=by
 rintro w o n cap i cells vs ad xc hin ⟨hrow,had,hsp,hcl,hvl,hxc,hvs,hc1,hv1,hfit,hk0⟩
 have hvl':vs.length=1*3:=hvl
 have hva:∃v,w.cell? ad=some v:=by
  have h0:0<vs.length:=by omega
  have h:=hvs 0 vs[0] (by rw[List.getElem?_eq_getElem h0])
  have e0:ad.add 0=ad:=by obtain⟨b,of,sp⟩:=ad;simp only at hsp;subst hsp;rw[dS];rfl
  rw[e0] at h
  exact⟨_,h⟩
 rcases Nat.lt_or_ge i n with hlt|hge
 ·rcases hrow with ⟨_,h0,_⟩|⟨g,arr,rfl,hg,hnc,hcm,has,htk,hne⟩
  ·omega
  ·rcases Nat.lt_or_ge cap (n+1) with h|h
   ·exact akT g n cap i 1 xc arr cells vs ad w hlt (by omega) hnc h hfit hg has htk hvl' hvs hva hc1 hv1 (some g)
   ·exact akt g n cap i 1 xc arr cells vs ad w hlt (by omega) h hcm hg has htk hne had hvl' hvs hc1 hv1
 ·have hin':i=n:=by omega
  subst hin'
  have e1:cells.take (i*3)=cells:=List.take_of_length_le (by omega)
  have e2:cells.drop (i*3)=[]:=List.drop_of_length_le (by omega)
  rw[e1,e2,List.append_nil]
  rcases hrow with ⟨rfl,h0,h1,h2⟩|⟨g,arr,rfl,hg,hnc,hcm,has,htk,hne⟩
  ·subst h0;subst h1;subst h2
   exact ajE none 0 0 1 xc [] vs ad w (by omega) (by omega) (by omega) hfit (by simp) (fun _=>rfl) (fun a h=>by cases h) hvl' hvs hv1 none
  ·rcases Nat.lt_or_ge cap (i+1) with h|h
   ·refine ajE (some ⟨g,0,none⟩) i cap 1 xc cells vs ad w (by omega) hnc h hfit hcl (fun h=>by cases h) (fun a ha j v hj => ?_) hvl' hvs hv1 (some g)
    cases ha
    rw[dS]
    have hrow:Row w g 0 cells:=⟨arr,_,_,hg,by rw[hcl];simpa using htk⟩
    exact hrow.cell hj
   ·exact akS g i cap 1 xc arr cells vs ad w (by omega) h hcm hg has htk hvl' hvs hv1
theorem aku(e:Nat→V)(bx:Bxx)(n:Nat)(h:Nat→V)(id:Nat)(xs:List V)(x:V)(t:Tag)(i:Nat)(hid:id<n)(hi:i≤xs.length)(hf:Fits (xs.length+1) 32)(ht:t = .fz∨∃j e2,t = .own j e2∧j≠id) :
  Gxz 85 [.sl (.own id 119) 3 xs,.c (.int .i64 (i:Int)),.sl t 3 [x]] ⟨e,bx,n,h⟩ ⟨dX (aJ id) e,mapB (aJ id) bx,n,dX (aJ id) h⟩ (.sl (.own id 119) 3 (xs.take i++[x]++xs.drop i)):=by
 have key:∀s:St,Gxz 85 [.sl (.own id 119) 3 xs,.c (.int .i64 (i:Int)),.sl t 3 [x]] s { s.mapV (aJ id) with nid:=max s.nid (id+1) } (.sl (.own id 119) 3 (xs.take i++[x]++xs.drop i)):=fun s=>by
  refine alH (bytes:=32) abZ (by decide) ?_ id xs x t ht i s hi hf
  exact @alp
 have k:=key ⟨e,bx,n,h⟩
 have hm:max n (id+1)=n:=by omega
 simp only[hm] at k
 exact k
theorem aj8(e:Nat→V)(bx:Bxx)(n:Nat)(h:Nat→V)(k':Nat)(x:V)(t:Tag)(ht:t = .fz∨∃j e2,t = .own j e2) :
  Gxz 85 [.sl .nn k' [],.c (.int .i64 0),.sl t 3 [x]] ⟨e,bx,n,h⟩ ⟨e,bx,n+1,h⟩ (.sl (.own n 119) 3 [x]):=by
 refine alo abZ (by decide) ?_ k' x t ht ⟨e,bx,n,h⟩
 intro w ad0 vs ad xc hvl hvs hv1
 exact ajE (some ad0) 0 0 1 xc [] vs ad w (by omega) (by omega) (by omega) (by decide) (by simp) (fun h=>by cases h) (fun a _ j v hj=>by simp at hj) hvl hvs hv1 none
end Go.Proofs.YtiohdbjggmmjcaaGreat
namespace Go.Proofs.YtiohdbjggmmjcaaGreat
open Go Go.Pg
theorem alq(k:List Nat)(w:Int)(l:List En)(p:Nat):(ev l).take p++[.agg [vs k,vi w,vi 0]]++(ev l).drop p=ev (l.take p++(k,w,0)::l.drop p):=by
 unfold ev
 rw[List.map_append,List.map_cons,List.map_take,List.map_drop]
 simp
theorem akv(l:List En)(k:List Nat)(w:Int)(hk:oct k)(ho:octE l)(hn:∀y∈l,y.1≠k)(hl:l.length≤1000000)(e:Nat→V)(bx:Bxx)(n:Nat)(h:Nat→V)(id:Nat)(t:Tag)(hid:id<n)(ht:t = .fz∨∃j e2,t = .own j e2∧j≠id) :
  Gxz 85 [.sl (.own id 119) 3 (ev l),vi (CP l k),.sl t 3 [.agg [vs k,vi w,vi 0]]] ⟨e,bx,n,h⟩ ⟨dX (aJ id) e,mapB (aJ id) bx,n,dX (aJ id) h⟩ (.sl (.own id 119) 3 (ev (tH (k,w,0) l))):=by
 have h1:=ajQ (k,w,0) hk l 0 ho hn
 have h2:=(ai5 k l 0).2
 have h3:tH (k,w,0) l=l.take (CP l k)++(k,w,0)::l.drop (CP l k):=h1
 rw[h3,←alq]
 have hel:=aG l
 exact aku e bx n h id (ev l) _ t (CP l k) hid (by rw[hel];unfold CP;omega) ⟨by rw[hel];simp only[maxLen];omega,by rw[hel];omega⟩ ht
theorem akU(d:Int){l:List En}(h:octE l):octE (iU d l):=fun y hy=>by
 obtain⟨u,hu,he⟩:=GX d l y hy
 rw[←he];exact h u hu
theorem akV{l:List En}{k:List Nat}(h:∀y∈l,y.1≠k):¬0≤bi l k:=fun h0=>by
 obtain⟨z,hz,hk⟩:=CS k l 0 h0
 exact h z hz hk
theorem akw(x:Fq)(k:List Nat)(w:Int)(ho:oct k)(hx:octE x.e)(c1:vFq x=0)(c2:bT k w=0)(q1:¬0≤bi x.e k)(q2:(x.e.length:Int)<x.z) :
  Gxx 29 [.agg (fqF x),.agg [vs k,vi w]] (.tup [.agg [vi x.z,vi (aO x.t w).1,vi (dQ x k w).2.1,.sl (.own 0 119) 3 (ev (dQ x k w).1),vb (x.b||(aO x.t w).2||(dQ x k w).2.2)],vi 0]):=by
 have h1:=Ec x hx (by have:=(jW c1).2.2.2.1;have:=(jW c1).1;omega)
 have h2:=bz k w
 rw[c1] at h1
 rw[c2] at h2
 obtain⟨i1,i2,i2',i3,i4⟩:=jW c1
 obtain⟨j1,j2⟩:=fU c2
 have hw:W64 w:=by unfold W64;omega
 have hwt:W64 x.t:=by unfold W64;omega
 have hel:=aG x.e
 have hpl:=FP x.e k (by omega) hx ho
 rw[TP k x.e (mV hx c1),decide_eq_false q1] at hpl
 have hno:∀y∈x.e,y.1≠k:=wX k x.e 0 (by have:bi x.e k=jd k 0 x.e:=rfl;omega)
 have ei:dQ x k w=(tH (k,w,0) x.e,x.l,false):=by unfold dQ;rw[if_neg q1,if_pos q2]
 rw[ei]
 have hzt:=fun (e:Nat→V) (bx:Bxx) (n:Nat) (h:Nat→V) (en:V) (hb:bx 0=some (36,[vi x.z,vi x.t,vi x.l,en,vb x.b]))=>qC e bx n h 0 x.t w x.z x.t x.l en x.b hwt hw hb
 have hzi:=akv x.e k w ho hx hno (by omega)
 clear ei
 obtain⟨z,t,lo,l,b⟩:=x
 simp only at *
 have hzz:((l.length:Int)=z)=False:=eq_false (by omega)
 have hw0:(w > 0)=True:=eq_true (by omega)
 cases l with
 | nil =>
  have hev0:ev []=[]:=rfl
  have hp0:CP [] k=0:=rfl
  have hi0:ev (tH (k,w,0) [])=[V.agg [vs k,vi w,vi 0]]:=rfl
  rw[hp0] at hpl
  rw[hi0]
  have hl0:(([]:List V).length:Int)=0:=rfl
  have hz0:((0:Int)=z)=False:=eq_false (by omega)
  refine gI (eu [] mix) Tryz.func29 Tryz.results29 ?_
  (repeat' (first|(simp (disch:=first|exact dqz|fail) only[pgz,simprocAttr,pgE,pgj,iC,Oo,hev0,hz0,hw0])|(refine tC ?_;first|refine cU h1 ?_|refine cU h2 ?_|refine dZ _ (hzt _ _ _ _ _ (by first|rfl|simp [upd])) rfl ?_|refine cU hpl ?_|refine dZ _ (aj8 _ _ _ _ 3 _ _ (.inr ⟨_,_,rfl⟩)) rfl ?_)|(refine tE ?_ ?_<;>intro hc)|refine xK ?_|fail))
  refine bZ [6] (.tup [.agg [vi z,vi (aO t w).1,vi lo,.sl (.own 6 119) 3 [.agg [vs k,vi w,vi 0]],vb (b||(aO t w).2)],vi 0]) (by simp (disch:=first|assumption|omega) only[pgr,pgo,tyf,simprocAttr];first|rfl|skip) (by decide) (by simp only[pgo,simprocAttr]) ?_
  simp [V.map,V.mapL,nz,pgo]
 | cons y0' l' =>
  generalize hl:y0'::l'=l at *
  have hl1:0<l.length:=by rw[←hl];simp
  refine gI (eu [] mix) Tryz.func29 Tryz.results29 ?_
  (repeat' (first|(simp (disch:=first|exact dqz|fail) only[pgz,simprocAttr,pgE,pgj,iC,hel,hzz,hw0])|(refine tC ?_;first|refine cU h1 ?_|refine cU h2 ?_|refine dZ _ (hzt _ _ _ _ _ (by first|rfl|simp [upd])) rfl ?_|refine cU hpl ?_|refine dZ _ (hzi _ _ _ _ 4 _ (by decide) (.inr ⟨_,_,rfl,by decide⟩)) rfl ?_)|(refine tE ?_ ?_<;>intro hc)|refine xK ?_|fail))
  refine bZ [4] (.tup [.agg [vi z,vi (aO t w).1,vi lo,.sl (.own 4 119) 3 (ev (tH (k,w,0) l)),vb (b||(aO t w).2)],vi 0]) (by simp (disch:=first|assumption|omega) only[pgr,pgo,tyf,simprocAttr];first|rfl|skip) (by decide) (by simp only[pgo,simprocAttr]) ?_
  simp [V.map,V.mapL,nz,pgo]
theorem aj9(x:Fq)(k:List Nat)(w:Int)(ho:oct k)(hx:octE x.e)(c1:vFq x=0)(c2:bT k w=0)(q1:¬0≤bi x.e k)(q2:¬(x.e.length:Int)<x.z)(q3:w > dJ w x.e) :
  Gxx 29 [.agg (fqF x),.agg [vs k,vi w]] (.tup [.agg [vi x.z,vi (aO x.t w).1,vi (dQ x k w).2.1,.sl (.own 0 119) 3 (ev (dQ x k w).1),vb (x.b||(aO x.t w).2||(dQ x k w).2.2)],vi 0]):=by
 have h1:=Ec x hx (by have:=(jW c1).2.2.2.1;have:=(jW c1).1;omega)
 have h2:=bz k w
 rw[c1] at h1
 rw[c2] at h2
 obtain⟨i1,i2,i2',i3,i4⟩:=jW c1
 obtain⟨j1,j2⟩:=fU c2
 have hw:W64 w:=by unfold W64;omega
 have hwt:W64 x.t:=by unfold W64;omega
 have hcin:=MX i4
 have hel:=aG x.e
 have hpl:=FP x.e k (by omega) hx ho
 rw[TP k x.e (mV hx c1),decide_eq_false q1] at hpl
 have hmle:=zX x.e w
 have hmge:=zY x.e hcin w (by omega)
 have h0:∀y∈x.e,y.2.2=0:=fun y hy=>by
  obtain⟨i,hi,rfl⟩:=List.mem_iff_getElem.1 hy
  have:=(sF (i4 i hi)).2.2
  simpa [List.getD,hi] using this
 have hlo:=Eh x.e (dJ w x.e) hcin h0 (by omega) (by omega)
 have ei:dQ x k w=(tH (k,w-dJ w x.e,0) (iU (dJ w x.e) x.e),(aO x.l (dJ w x.e)).1,(aO x.l (dJ w x.e)).2):=by unfold dQ;rw[if_neg q1,if_neg q2,if_pos q3]
 rw[ei]
 have hs2:=zn (dJ w x.e) x.e (mV hx c1)
 have ho2:=akU (dJ w x.e) hx
 have hn2:=ajR (dJ w x.e) x.e k q1
 have hl2:=BF (dJ w x.e) x.e
 have hpl2:=FP (iU (dJ w x.e) x.e) k (by omega) ho2 ho
 rw[TP k _ hs2,decide_eq_false (akV hn2)] at hpl2
 have hzi:=akv (iU (dJ w x.e) x.e) k (w-dJ w x.e) ho ho2 hn2 (by omega)
 have hel2:=aG (iU (dJ w x.e) x.e)
 have hzt:=fun (e:Nat→V) (bx:Bxx) (n:Nat) (h:Nat→V) (en:V) (hb:bx 0=some (36,[vi x.z,vi x.t,vi x.l,en,vb x.b]))=>qC e bx n h 0 x.t w x.z x.t x.l en x.b hwt hw hb
 have hzl:=fun (e:Nat→V) (bx:Bxx) (n:Nat) (h:Nat→V) (t':Int) (en:V) (sa:Bool) (hb:bx 0=some (36,[vi x.z,vi t',vi x.l,en,vb sa]))=>qC e bx n h 0 x.l (dJ w x.e) x.z t' x.l en sa (by unfold W64;omega) (by unfold W64;omega) hb
 have hmt:=fun i (hi:i<x.e.length)=>xU w x.e i hi
 have hm0:dJ w (x.e.take 0)=w:=rfl
 have hmn:dJ w (x.e.take x.e.length)=dJ w x.e:=by rw[List.take_length]
 clear ei
 obtain⟨z,t,lo,l,b⟩:=x
 simp only at *
 have hzz:((l.length:Int)=z)=True:=eq_true (by omega)
 refine gI (eu [] mix) Tryz.func29 Tryz.results29 ?_
 (repeat' (first|(simp (disch:=first|exact dqz|fail) only[pgz,simprocAttr,pgE,pgj,iC,hel,hzz])|(refine tC ?_;first|refine cU h1 ?_|refine cU h2 ?_|refine dZ _ (hzt _ _ _ _ _ (by first|rfl|simp [upd])) rfl ?_|refine cU hpl ?_)|(refine tE ?_ ?_<;>intro hc)|refine xK ?_|fail))
 refine sO (ι:=Nat) (fun i=>⟨iP [(2,.ref 0 0),(3,.ref 1 0),(4,.ref 2 0),(10,vi w),(11,vi (dJ w (l.take i))),(73,.sl (.own 4 119) 3 (ev l)),(74,vi l.length),(75,vi i)],upd (upd (upd (fun _=>none) 0 (some (36,[vi z,vi (aO t w).1,vi lo,.sl (.own 4 119) 3 (ev l),vb (b||(aO t w).2)]))) 1 (some (45,[vs k,vi w]))) 2 (some (36,[y0,y0,y0,yn,yf])),5+i,fun _ => .top⟩) (fun i=>i≤l.length) (fun i=>l.length-i) 0 ?_ (Nat.zero_le _) ?_
 ·refine gK (gp ?_) (fun c => .inl ?_) (Nat.le_refl _)
  ·exact eE
  ·by_cases k0:c=0
   ·subst k0;rfl
   ·by_cases k1:c=1
    ·subst k1;rfl
    ·by_cases k2:c=2
     ·subst k2;rfl
     ·simp [upd,k0,k1,k2]
 ·rintro i hi
  have hi:i≤l.length:=hi
  rcases Nat.lt_or_ge i l.length with hlt|hge
  ·have hg:=eY l i hlt
   have hmi:=hmt i hlt
   have hlt2:((i:Int)<(l.length:Int))=True:=eq_true (by omega)
   generalize l.getD i ([],0,0)=y at *
   (repeat' (first|(simp (disch:=first|exact dqz|fail) only[pgz,simprocAttr,pgE,pgj,iC,hel,hlt2,hg,mmF])|(refine tE ?_ ?_<;>intro hc)|refine xK ?_|fail))
   refine lY (i+1) hlt (by show l.length-(i+1)<l.length-i;omega) (gK (gp ?_) (fun c => ?_) (by show _≤5+(i+1);omega))
   ·((try simp only[bu,jm,cO,cu,pgo,simprocAttr,and_true,true_and]);try (repeat' (first|exact trivial|rfl|apply aI)))
    all_goals (first|exact congrArg vi hmi.symm|skip)
   ·by_cases kc:c=5+i
    ·right;subst kc;simp [upd,show ¬5+i=0 by omega,show ¬5+i=1 by omega,show ¬5+i=2 by omega]
    ·left;simp [upd,kc]
  ·have hil:i=l.length:=by omega
   subst hil
   rw[hmn]
   have hlt2:((l.length:Int)<(l.length:Int))=False:=eq_false (by omega)
   have hle0:(w-dJ w l > 0)=True:=eq_true (by omega)
   (repeat' (first|(simp (disch:=first|exact dqz|fail) only[pgz,simprocAttr,pgE,pgj,iC,hel,hlt2,hle0,id_eq])|(refine tC ?_;first|refine cG [4] hlo ?_|refine dZ _ (hzl _ _ _ _ _ _ _ (by first|rfl|simp [upd])) rfl ?_|refine cU hpl2 ?_|refine dZ _ (hzi _ _ _ _ (5+l.length) _ (by omega) (.inr ⟨_,_,rfl,by omega⟩)) rfl ?_)|(refine tE ?_ ?_<;>intro hc)|refine xK ?_|fail))
   refine bZ [5+l.length] (.tup [.agg [vi z,vi (aO t w).1,vi (aO lo (dJ w l)).1,.sl (.own (5+l.length) 119) 3 (ev (tH (k,w-dJ w l,0) (iU (dJ w l) l))),vb (b||(aO t w).2||(aO lo (dJ w l)).2)],vi 0]) (by simp (disch:=first|assumption|omega) only[pgr,pgo,tyf,simprocAttr,id_eq];first|rfl|skip) (by simp) (by simp only[pgo,simprocAttr];first|rfl|simp) ?_
   simp [V.map,V.mapL,nz,pgo]
theorem akW(x:Fq)(k:List Nat)(w:Int)(ho:oct k)(hx:octE x.e)(hn:x.e.length≤1000000):Gxx 29 [.agg (fqF x),.agg [vs k,vi w]] (.tup [.agg (fqF (lU x k w).1),vi (lU x k w).2]):=by
 by_cases c:vFq x=0∧bT k w=0
 ·obtain⟨c1,c2⟩:=c
  unfold lU
  rw[if_neg (by omega),if_neg (by omega)]
  refine Good.fzt (vs:=[.agg [vi x.z,vi (aO x.t w).1,vi (dQ x k w).2.1,.sl (.own 0 119) 3 (ev (dQ x k w).1),vb (x.b||(aO x.t w).2||(dQ x k w).2.2)],vi 0]) ?_ rfl ?_
  ·by_cases q1:0≤bi x.e k
   ·exact akp x k w ho hx c1 c2 q1
   ·by_cases q2:(x.e.length:Int)<x.z
    ·exact akw x k w ho hx c1 c2 q1 q2
    ·by_cases q3:w > dJ w x.e
     ·exact aj9 x k w ho hx c1 c2 q1 q2 q3
     ·exact aj7 x k w ho hx c1 c2 q1 q2 q3
  ·exact⟨aH _,aH _,trivial⟩
 ·exact akq x k w hx hn (by by_cases c1:vFq x=0;exact .inr (fun h=>c ⟨c1,h⟩);exact .inl c1)
end Go.Proofs.YtiohdbjggmmjcaaGreat
