/-
  Merged texts.
-/
import Derived.Test.YtopbmdnbdpjheaaGreatWAE
import Derived.Lib.Split
import Derived.Lib.SplitLaws
import Derived.Lib.CountLaws
import Derived.Lib.IndexMore
import Derived.Lib.Strings
import Derived.Lib.Join
import Derived.Test.YtopbmdnbdpjheaaGreatWAD
import Derived.ScopeJumps
import Derived.Laws.BitsLemmas
set_option linter.all false
set_option linter.unusedVariables false
set_option linter.unusedSimpArgs false
set_option linter.unusedSectionVars false
set_option linter.defProp false
set_option maxRecDepth 100000
set_option maxHeartbeats 8000000
section
namespace Go.Pg
open Go
def VP(o:Oper):Bool:=match o.op with | .store _ _ _=>true|_=>false
def DT(ops:List Oper):Bool:=(decide (1<=(ops.filter VJ).length)||decide (2<=(ops.filter VP).length))&&ops.all okA
def dG(cuts:List Nat):Dw:=⟨fun P _ ops K s=>if DT ops.toList=true then Ce P ops K s else Et P ops K s,cuts,[]⟩
instance (cuts:List Nat):Plain (dG cuts):=⟨rfl⟩
def aeW{P:Program}[Tb P](cuts:List Nat)(hm:P.follows .mixedOrders=true):nN P (dG cuts):=by
 intro id C ops K Q s L a w d b c h S;subst c;simp only[dG]at h;split at h;case isFalse=>exact Es cuts hm id C ops _ Q s L a w d b rfl h S
 exact Jr hm id C ops Q s L a w d b h S
section
variable (P:Program) [Tb P]
theorem avx(x y:Code)(Q:Exit->St->Prop)(s:St):wpS (dG []) P (.seq x y) Q s=wpS (dG []) P x (nD (dG []) P y Q) s:=by
 have:pI (dG []).cuts (gm y)=false:=by cases h:gm y<;>rfl
 simp only[wpS,this,nD,cond_false]
theorem avk(cuts:List Nat)(id:Nat)(l:List Oper)(Q:Exit->St->Prop)(s:St):wpS (dG cuts) P (.region id l.toArray true) Q s=gJ P (DT l) l Q s:=by
 simp only[wpS,if_true,dG,gJ]
 cases h:DT l with
 |true=>rfl
 |false=>rfl
end
def TS{P:Program}[Tb P]{e:Nat->V}{b:BX}{n:Nat}{h:Nat->V}{l:List Oper}{Q:Exit->St->Prop}(h1:DT l=true)(h2:alC P n l Q l [] 0 ⟨e,b,n+l.length,h⟩):gJ P (DT l) l Q ⟨e,b,n,h⟩:=by rw[h1];exact h2
def TR{P:Program}[Tb P]{l:List Oper}{Q:Exit->St->Prop}{s:St}(h1:DT l=false)(h2:nP P (l.map (·.dst)) l Q l [] s):gJ P (DT l) l Q s:=by rw[h1];exact h2
def pgG:=aI @avx @avk
end Go.Pg
end
section
namespace Go.Pg
open Go
def wk1(a b:V):Prop:=a=b\/(a = .c (.slice none 0 0)/\∃t k,t.notNN=true/\b = .sl t k [])
def wkL:List V->List V->Prop
 |[],[]=>True
 |a::xs,b::ys=>wk1 a b/\wkL xs ys
 |_,_=>False
def wkV(a b:V):Prop:=wk1 a b\/∃cs d,a = .agg cs/\b = .agg d/\wkL cs d
def wkA:List V->List V->Prop
 |[],[]=>True
 |a::xs,b::ys=>wkV a b/\wkA xs ys
 |_,_=>False
theorem aC(a:V):wkV a a:=.inl (.inl rfl)
theorem Gh{a b:V}{xs ys:List V}(h:wk1 a b)(c:wkL xs ys):wkL (a::xs) (b::ys):=⟨h,c⟩
theorem jB(t:Tag)(k:Nat)(h:t.notNN=true:=by rfl):wk1 (.c (.slice none 0 0)) (.sl t k []):=.inr ⟨rfl,t,k,h,rfl⟩
section
variable {L:Lay} {w:World}
theorem Yy{a b:V}{u:Value}(h:wk1 a b)(d:Rep L w a u):Rep L w b u:=by
 rcases h with rfl|⟨rfl,t,k,c,rfl⟩
 .exact d
 .simp only[Rep]at d;subst d;refine⟨none,0,[],rfl,rfl,?_⟩;cases t with
  |fz=>exact⟨az _,.inl rfl⟩
  |nn=>cases c
  |own id e=>exact .inl ⟨rfl,rfl,rfl⟩
theorem aqd:∀{xs ys:List V} {us:List Value},wkL xs ys->Reps L w xs us->Reps L w ys us:=by
 intro xs
 induction xs with
 |nil=>intro ys us h c;cases ys with
  |nil=>exact c
  |cons _ _=>exact h.elim
 |cons a xs i=>intro ys us h c;cases ys with
  |nil=>exact h.elim
  |cons b ys =>obtain⟨u,r,rfl,h1,h2⟩:=c;exact⟨u,r,rfl,Yy h.1 h1,i h.2 h2⟩
theorem Iw{a b:V}{u:Value}(h:wkV a b)(c:Rep L w a u):Rep L w b u:=by
 rcases h with h|⟨cs,d,rfl,rfl,h⟩
 .exact Yy h c
 .obtain⟨x,rfl,h1⟩:=c;exact⟨x,rfl,aqd h h1⟩
theorem YA:∀{xs ys:List V} {us:List Value},wkA xs ys->Reps L w xs us->Reps L w ys us:=by
 intro xs
 induction xs with
 |nil=>intro ys us h c;cases ys with
  |nil=>exact c
  |cons _ _=>exact h.elim
 |cons a xs i=>intro ys us h c;cases ys with
  |nil=>exact h.elim
  |cons b ys =>obtain⟨u,r,rfl,h1,h2⟩:=c;exact⟨u,r,rfl,Iw h.1 h1,i h.2 h2⟩
end
def Good.wk{P:Program}[Tb P]{f:FuncId}{args args':List V}{r:V}(h:Good P f args r)(d:wkA args' args):Good P f args' r :=
 ⟨h.1,fun A w c b hA a=>h.2 A w c b hA (YA d a)⟩
def Good.wkr{P:Program}[Tb P]{f:FuncId}{args:List V}{r r':V}(h:Good P f args r)(d:wkV r r'):Good P f args r' :=
 ⟨h.1,fun A w c b hA a=>(h.2 A w c b hA a).mono fun _ _ ⟨u,L,he,hr,hk,hl⟩=>⟨u,L,he,Iw d hr,hk,hl⟩⟩
def Good.wkt{P:Program}[Tb P]{f:FuncId}{args vs ws:List V}(h:Good P f args (.tup vs))(d:wkA vs ws):Good P f args (.tup ws) :=
 ⟨h.1,fun A w c b hA a=>(h.2 A w c b hA a).mono fun _ _ ⟨u,L,he,hr,hk,hl⟩=>by obtain⟨x,rfl,h1⟩:=hr;exact⟨_,L,he,⟨x,rfl,YA d h1⟩,hk,hl⟩⟩
end Go.Pg
end
namespace Go.Pg
open Go
def Good.erz{P:Program}[Tb P]{f:FuncId}{args:List V}{r:V}(h:Good P f args r)(j:r.noRef=true):Good P f args r.erase:=by
 refine⟨h.1,fun A w c d hA a=>(h.2 A w c d hA a).mono ?_⟩;rintro e w' ⟨u,L,he,k,hk,hl⟩;let L':Lay:={A:=fun g=>L.A g\/∃id,L.own id=some g,own:=fun _=>none,box:=fun _=>none}
 have K:Trans (fun _=>false) (fun _=>true) (fun _=>.fz) id L L' w' w' :=
  ⟨rfl,fun g h=>⟨.inl h,.of rfl⟩,fun i e _ g h=>⟨.inr ⟨i,h⟩,rfl⟩,fun b hb=>by simp at hb⟩
 refine⟨u,L',he,k.trans rfl K (by simpa[V.noRef]using j),hk,?_,fun _ _ h=>(by cases h),fun _ _ _ h=>(by cases h)⟩;rintro g (h1|⟨id,h1⟩)
 .exact hl.A g h1
 .exact .inr ⟨(hl.own id g h1).1,(hl.own id g h1).2.1⟩
theorem Good.fzr{P:Program}[Tb P]{f:FuncId}{args:List V}{r r':V}(h:Good P f args r)(a:r.noRef=true)(b:wkV r.erase r'):Good P f args r':=(h.erz a).wkr b
theorem Good.fzt{P:Program}[Tb P]{f:FuncId}{args vs ws:List V}(h:Good P f args (.tup vs))(a:(V.tup vs).noRef=true)(b:wkA (V.mapL (fun _=>.fz) id vs) ws):Good P f args (.tup ws):=(h.erz a).wkt b
end Go.Pg
section
namespace Go.Pg
open Go
section
variable {α:Type} [DecidableEq α]
def spl(c:α):List α->List (List α)
 |[]=>[[]]
 |a::l=>if a=c then[]::spl c l else match spl c l with|h::t=>(a::h)::t|[]=>[[a]]
end
def bef(c:Nat)(l:List Nat):List Nat:=l.takeWhile (· != c)
end Go.Pg
end
namespace Go.Pg
open Go
def amS(w:List Nat):Bool := !w.isEmpty
def fld(l:List Nat):List (List Nat):=(spl 32 (bef 35 l)).filter amS
def tot(l:List (List Nat)):Nat:=(l.map fun w=>w.length+1).sum
end Go.Pg
namespace Go.Proofs.YtopbmdnbdpjheaaGreat
open Go Go.Pg
theorem dqz{p:Prop}(h:p:=by first|assumption|omega|(simp only[Fits,maxLen,pgq]at *;omega)):p:=h
def pgz:=Ad pgo pgb tyf @Jf
def X6:=Ac pgo pgb tyf
theorem rT{P:Program}{b:List ResultVar}{r a:V}{s:St}(l:List Nat)(c:a.map (mr l) id=r)
  (h:kH P s b=some a:=by first|exact aW _ _ _|exact jW _ _ _ _|exact KU _ _ _ _ _|exact KT _ _ _ _ _ _|(simp(disch:=first|exact dqz|fail) only[pgr,pgo,tyf,simprocAttr];rfl))
  (hl:l.Nodup:=by decide) (hi:a.any (Tag.notIn l) (fun _=>true) false=false:=by simp only[pgo,simprocAttr]):DC P b r s:=mD l a h hl hi c
theorem rE{P:Program}{b:List ResultVar}{r a:V}{s:St}(l:List Nat)
  (h:kH P s b=some a:=by first|exact aW _ _ _|exact jW _ _ _ _|exact KU _ _ _ _ _|exact KT _ _ _ _ _ _|(simp(disch:=first|exact dqz|fail) only[pgr,pgo,tyf,simprocAttr];rfl))
  (hl:l.Nodup:=by decide) (hi:a.any (Tag.notIn l) (fun _=>true) false=false:=by simp only[pgo,simprocAttr]) (c:a.map (mr l) id=r:=by first|rfl|(simp only[pgo,simprocAttr];done)):DC P b r s:=mD l a h hl hi c
def Ids(l:List Nat):Prop:=True
theorem ids(l:List Nat):Ids l:=trivial
theorem ay:Ids []:=trivial
theorem rI{P:Program}{b:List ResultVar}{r a:V}{s:St}{l:List Nat}(c:Ids l)
  (h:kH P s b=some a:=by first|exact aW _ _ _|exact jW _ _ _ _|exact KU _ _ _ _ _|exact KT _ _ _ _ _ _|(simp(disch:=first|exact dqz|fail) only[pgr,pgo,tyf,simprocAttr];rfl))
  (hl:l.Nodup:=by decide) (hi:a.any (Tag.notIn l) (fun _=>true) false=false:=by simp only[pgo,simprocAttr]) (d:a.map (mr l) id=r:=by first|rfl|(simp only[pgo,simprocAttr];done)):DC P b r s:=mD l a h hl hi d
theorem cU{P:Program}[Tb P]{g:FuncId}{args:List Operand}{d:Option Nat}{s:St}{K:Kd->St->Prop}{vs:List V}{r:V}(hg:Pg.Good P g vs r)(hK:K (kc (.fn g [] []::args.map s.ev) [] r) (St.put {s with nid:=s.nid+r.idb} d (r.shift s.nid)))
  (h:(args.map s.ev).map V.erase=vs:=by exact rfl) (h1:noRefs (args.map s.ev)=true:=by exact rfl) (h2:r.noRef=true:=by exact rfl) (h3:(ownFree (args.map s.ev)||r.flat)=true:=by exact rfl):eX P (.fn g [] []) args d s K:=oH r hg h h1 h2 h3 hK
def cF{P:Program}[Tb P]{g:FuncId}{args:List Operand}{d:Option Nat}{s:St}{K:Kd->St->Prop}{vs:List V}{r:V}(hg:Pg.Good P g vs r)(hf:r.flat=true)(hK:K (kc (.fn g [] []::args.map s.ev) [] r) (St.put {s with nid:=s.nid+r.idb} d (r.shift s.nid)))
  (h:(args.map s.ev).map V.erase=vs:=by exact rfl) (h1:noRefs (args.map s.ev)=true:=by exact rfl) (h2:r.noRef=true:=by exact rfl):eX P (.fn g [] []) args d s K:=oH r hg h h1 h2 (by rw[LV];exact .inr hf) hK
theorem cG{P:Program}[Tb P]{g:FuncId}{args:List Operand}{d:Option Nat}{s:St}{K:Kd->St->Prop}{vs:List V}(ids:List Nat){r:V}(hg:Pg.Good P g vs r)(hK:K (kc (.fn g [] []::args.map s.ev) ids r) (St.put {s.freezeAll ids with nid:=s.nid+r.idb} d (r.shift s.nid)))
  (h:(args.map (s.freezeAll ids).ev).map V.erase=vs:=by exact rfl) (h1:noRefs (args.map (s.freezeAll ids).ev)=true:=by exact rfl) (h2:r.noRef=true:=by exact rfl) (h3:(ownFree (args.map (s.freezeAll ids).ev)||r.flat)=true:=by exact rfl):eX P (.fn g [] []) args d s K:=SY ids r hg h h1 h2 h3 hK
theorem cZ{P:Program}[Tb P]{g:FuncId}{args:List Operand}{d:Option Nat}{s s':St}{K:Kd->St->Prop}{vs:List V}{r:V}(hg:Pg.GoodZ P g vs s s' r)(hK:K .z (s'.put d r))(h:args.map s.ev=vs:=by exact rfl):eX P (.fn g [] []) args d s K:=aU r hg h hK
theorem cY{P:Program}[Tb P]{g:FuncId}{fs cs:List V}{args:List Operand}{d:Option Nat}{s s':St}{K:Kd->St->Prop}{vs:List V}{r:V}(hg:Pg.GoodZ P g vs s s' r)(hK:K .z (s'.put d r))(h:fs++args.map s.ev++cs=vs:=by exact rfl):eX P (.fn g fs cs) args d s K:=adt r hg h hK
theorem cA{P:Program}[Tb P]{m:Nat}{g:FuncId}{fs cs:List V}{args:List Operand}{d:Option Nat}{s:St}{K:Ka->St->Prop}{vs:List V}{r:V}(hg:Pg.Good P g vs r)(hK:K .q (St.put s d (r.shift m)))(h:(fs++args.map s.ev++cs).map V.erase=vs:=by exact rfl)(a:ownFree (fs++cs)=true:=by exact rfl)(h1:noRefs (fs++args.map s.ev++cs)=true:=by exact rfl)
  (h2:r.noRef=true:=by exact rfl) (h3:(ownFree (args.map s.ev)||r.flat)=true:=by exact rfl) (h5:r.idb<=1:=by exact fP rfl):mX P m (.fn g fs cs) args d s K:=ads r hg h a h1 h2 h3 h5 hK
theorem cK{ops:List Oper}{k:List Kd}{q:Prop}(h2:q)(h1:qV ops k=true:=by kernel_rfl):qV ops k=true/\q:=adD h1 h2
theorem cKA{ops:List Oper}{k:List Ka}{q:Prop}(h2:q)(h1:qU ops k=true:=by kernel_rfl):qU ops k=true/\q:=adA h1 h2
theorem gI{D:Dw}(i:nN Tryz.prog D){f:FuncId}{fn:Func}{c:Code}{g:List ResultVar}{args:List V}{r:V}(h:wpS D Tryz.prog c (KR Tryz.prog g r) (Hr args))
  (hf:Tryz.prog.funcs[f]?=some fn:=by exact rfl) (d:fn.results=g.toArray:=by exact rfl) (hb:fn.body=some c:=by exact rfl) (j:(fn.name == "runtime.NumGoroutine")=false:=by kernel_rfl) (a:mf fn.ntmps c=true:=by kernel_rfl) (b:args.length<=fn.ntmps:=by exact fP Za):Gxx f args r:=pR i hf hb d j a b h
theorem gZ{D:Dw}(i:nN Tryz.prog D){f:FuncId}{fn:Func}{c:Code}{g:List ResultVar}{args:List V}{r:V}{s s':St}(h:wpS D Tryz.prog c (JR Tryz.prog g s' r) (EO args s))
  (hf:Tryz.prog.funcs[f]?=some fn:=by exact rfl) (d:fn.results=g.toArray:=by exact rfl) (hb:fn.body=some c:=by exact rfl) (j:(fn.name == "runtime.NumGoroutine")=false:=by kernel_rfl) (a:mf fn.ntmps c=true:=by kernel_rfl) (b:args.length<=fn.ntmps:=by exact fP Za):Gxz f args s s' r:=aiF i hf hb d j a b h
theorem oW(l:List Nat:=[]):nN Tryz.prog (dC l):=Es l mix
theorem oD(l:List Nat:=[]):nN Tryz.prog (Pg.dD l):=aeV l mix
theorem oG(l:List Nat:=[]):nN Tryz.prog (Pg.dG l):=aeW l mix
theorem tS{p q r:Prop}(b:q)(c:r)(h:q->r->p:=by
  intro b c;(with_reducible first|refine lD (fun a => ?_) (fun a => ?_)|refine lJ (fun a => ?_) (fun a => ?_)|refine lH (fun a => ?_) (fun a => ?_)|refine drf_at _ _ (fun a => ?_) (fun a => ?_))
  ·(try simp only[a]);(try simp only[pgd]at a);revert a;exact b
  ·(try simp only[a]);(try simp only[pgd]at a);revert a;exact c):p:=h b c
theorem tX{F p q r:Prop}(f:F)(b:q)(c:r)(h:F->q->r->p:=by
  intro f b c;(with_reducible first|refine lD (fun a => ?_) (fun a => ?_)|refine lJ (fun a => ?_) (fun a => ?_)|refine lH (fun a => ?_) (fun a => ?_)|refine drf_at _ _ (fun a => ?_) (fun a => ?_))
  ·(try simp only[a]);(try simp only[pgd,f]at a);revert a;exact b
  ·(try simp only[a]);(try simp only[pgd,f]at a);revert a;exact c):p:=h f b c
theorem cS{C p q:Prop}(c:C)(a:q)(h:C->q->p:=by
  intro c a
  (first
   |((with_reducible show eX _ _ _ _ _ _);first|refine cU c.1 ?_|refine cZ c.1 ?_|refine cU c ?_|refine cZ c ?_|refine cS c.2 ?_|fail)
   |((with_reducible show mX _ _ _ _ _ _ _);first|refine cA c.1 ?_|refine cAZ c.1 ?_|refine cA c ?_|refine cAZ c ?_|refine cS c.2 ?_|fail))
  exact a):p:=h c a
theorem wS{F C p q:Prop}(f:F)(c:C)(a:q)(h:F->C->q->p:=by intro f c a;(repeat'(first|(simp(maxSteps:=2000000) (disch:=first|exact dqz|fail) only[pgz,simprocAttr,f])|((with_reducible first|apply lD|apply lJ|apply lH)<;>intro b<;>(try simp only[b])<;>(try simp only[pgd]at b))|(with_reducible refine cK ?_)|(refine cS c ?_)|fail));all_goals exact a):p:=h f c a
theorem wP{F C p q:Prop}(f:F)(c:C)(a:q)(h:F->C->q->p:=by intro f c a;(repeat1' (first|(simp(maxSteps:=2000000) (disch:=first|exact dqz|fail) only[pgz,simprocAttr,f])|(with_reducible refine cK ?_)|(refine cS c ?_)|fail));all_goals exact a):p:=h f c a
theorem wR{F C p:Prop}(f:F)(c:C){l:List Nat}(hi:Ids l)(h:F->C->Ids l->p:=by intro f c hi;(repeat'(first|(simp(maxSteps:=2000000) (disch:=first|exact dqz|fail) only[pgz,simprocAttr,f])|((with_reducible first|apply lD|apply lJ|apply lH)<;>intro a<;>(try simp only[a])<;>(try simp only[pgd]at a))|(with_reducible refine cK ?_)|(refine cS c ?_)|fail));all_goals exact rI hi):p:=h f c hi
theorem wQ{F p q:Prop}(f:F)(a:q)(h:F->q->p:=by intro f a;(repeat1' (first|(simp(maxSteps:=2000000) (disch:=first|exact dqz|fail) only[pgz,simprocAttr,f])|(with_reducible refine cK ?_)|fail));all_goals exact a):p:=h f a
theorem wO{p q:Prop}(a:q)(h:q->p:=by intro a;(repeat1' (first|(simp(maxSteps:=2000000) (disch:=first|exact dqz|fail) only[pgz,simprocAttr])|(with_reducible refine cK ?_)|fail));all_goals exact a):p:=h a
theorem wT{F p q:Prop}(f:F)(a:q)(h:F->q->p:=by intro f a;(repeat'(first|(simp(maxSteps:=2000000) (disch:=first|exact dqz|fail) only[pgz,simprocAttr,f])|((with_reducible first|apply lD|apply lJ|apply lH)<;>intro b<;>(try simp only[b])<;>(try simp only[pgd]at b))|(with_reducible refine cK ?_)|fail));all_goals exact a):p:=h f a
theorem wP'{F C p q:Prop}(f:F)(c:C)(a:q)(h:F->C->q->p:=by intro f c a;(repeat1' (first|(simp(maxSteps:=2000000) (disch:=first|exact dqz|fail) only[X6,simprocAttr,f])|(with_reducible refine cK ?_)|(refine cS c ?_)|fail));all_goals exact a):p:=h f c a
theorem wSA{F C p q:Prop}(f:F)(c:C)(a:q)(h:F->C->q->p:=by intro f c a;(repeat'(first|(simp(maxSteps:=2000000) (disch:=first|exact dqz|fail) only[pgz,pga,simprocAttr,f])|((with_reducible first|apply lD|apply lJ|apply lH)<;>intro b<;>(try simp only[b])<;>(try simp only[pgd]at b))|(with_reducible refine cKA ?_)|((with_reducible show gJ _ _ _ _ _);first|refine lG (by decide +kernel) ?_|refine lF (by decide +kernel) ?_)|(with_reducible refine cK ?_)|(refine cS c ?_)|fail));all_goals exact a):p:=h f c a
theorem wPA{F C p q:Prop}(f:F)(c:C)(a:q)(h:F->C->q->p:=by intro f c a;(repeat1' (first|(simp(maxSteps:=2000000) (disch:=first|exact dqz|fail) only[pgz,pga,simprocAttr,f])|(with_reducible refine cKA ?_)|((with_reducible show gJ _ _ _ _ _);first|refine lG (by decide +kernel) ?_|refine lF (by decide +kernel) ?_)|(with_reducible refine cK ?_)|(refine cS c ?_)|fail));all_goals exact a):p:=h f c a
theorem wRA{F C p:Prop}(f:F)(c:C){l:List Nat}(hi:Ids l)(h:F->C->Ids l->p:=by intro f c hi;(repeat'(first|(simp(maxSteps:=2000000) (disch:=first|exact dqz|fail) only[pgz,pga,simprocAttr,f])|((with_reducible first|apply lD|apply lJ|apply lH)<;>intro a<;>(try simp only[a])<;>(try simp only[pgd]at a))|(with_reducible refine cKA ?_)|((with_reducible show gJ _ _ _ _ _);first|refine lG (by decide +kernel) ?_|refine lF (by decide +kernel) ?_)|(with_reducible refine cK ?_)|(refine cS c ?_)|fail));all_goals exact rI hi):p:=h f c hi
theorem wPG{F C p q:Prop}(f:F)(c:C)(a:q)(h:F->C->q->p:=by intro f c a;(repeat1' (first|(simp(maxSteps:=2000000) (disch:=first|exact dqz|fail) only[pgz,pga,pgG,simprocAttr,f])|(with_reducible refine cKA ?_)|((with_reducible show gJ _ _ _ _ _);first|refine lG (by decide +kernel) ?_|refine lF (by decide +kernel) ?_|refine TS (by decide +kernel) ?_|refine TR (by decide +kernel) ?_)|(with_reducible refine cK ?_)|(refine cS c ?_)|fail));all_goals exact a):p:=h f c a
theorem wRG{F C p:Prop}(f:F)(c:C){l:List Nat}(hi:Ids l)(h:F->C->Ids l->p:=by intro f c hi;(repeat'(first|(simp(maxSteps:=2000000) (disch:=first|exact dqz|fail) only[pgz,pga,pgG,simprocAttr,f])|((with_reducible first|apply lD|apply lJ|apply lH)<;>intro a<;>(try simp only[a])<;>(try simp only[pgd]at a))|(with_reducible refine cKA ?_)|((with_reducible show gJ _ _ _ _ _);first|refine lG (by decide +kernel) ?_|refine lF (by decide +kernel) ?_|refine TS (by decide +kernel) ?_|refine TR (by decide +kernel) ?_)|(with_reducible refine cK ?_)|(refine cS c ?_)|fail));all_goals exact rI hi):p:=h f c hi
theorem gz{p:Prop}(h:p:=by first|exact ae|exact eF Om|exact kZ rfl|exact fE rfl rfl|exact aiA rfl|exact iT rfl):p:=h
def kM{l m:List Nat}{s:St}{X:List (Nat×V)}{B:List (Nat×TypeId×List V)}{n:Nat}(a:GenA l m s.env X)(hB:GenB l m s.bx B)(hl:l.Nodup:=by decide)(hm:m.Nodup:=by decide)(b:l.length<=n:=by decide)(h:m.length<=n:=by decide):Keep l m s (mkA X B n (fun _=>.top)):=akP a hB (auw _ _ _) hl hm b h
def pgk:=Ah pgo @RD @RF @RG @RH @nS @ku @jS
theorem kE{p:Prop}(h:p:=by refine kM ?_ ?_;(repeat'(first|exact ae|refine dQ _ _ rfl rfl ?_ ?_));all_goals(try simp only[pgk,simprocAttr]);all_goals(try(repeat' apply aI));all_goals exact gz):p:=h
theorem kL{p q:Prop}(a:q)(h:q->p:=by intro a;refine kM ?_ ?_;(repeat'(first|exact ae|refine dQ _ _ rfl rfl ?_ ?_));all_goals(try simp only[pgk,simprocAttr]);all_goals(try(repeat' apply aI));all_goals(first|exact gz|exact a)):p:=h a
theorem bE{ι:Type}{S:ι->St}{I:ι->Prop}{μ:ι->Nat}{i:ι}{s:St}(j:ι)(l m:List Nat)(h1:I j)(h2:μ j<μ i:=by first|omega|(simp only[dB];omega))(h3:Keep l m s (S j):=by exact kE):uH S I μ i s:=dn j l m h1 h2 h3
theorem bL{ι:Type}{S:ι->St}{I:ι->Prop}{μ:ι->Nat}{i:ι}{s:St}(j:ι)(l m:List Nat)(h1:I j)(h3:Keep l m s (S j))(h2:μ j<μ i:=by first|omega|(simp only[dB];omega)):uH S I μ i s:=dn j l m h1 h2 h3
def pgm:=A8 pgs pgl pgx pgf pgw pgn @RD @RF (Ae @RG @RH @nS @ku @jS)
end Go.Proofs.YtopbmdnbdpjheaaGreat
section
namespace Go.Pg
open Go
def ins(S:Nat->Bool)(i:Nat):Nat->Bool:=fun j=>if j=i then true else S j
theorem ni(S:Nat->Bool)(i:Nat):ins S i i=true:=ah rfl
theorem iy{S:Nat->Bool}{i j:Nat}(h:j≠i):ins S i j=S j:=ag h
structure Ok (ops:Array Oper) (S:Nat->Bool):Prop where
 cl:∀i o,ops[i]?=some o->S i=true->∀e∈edgesOf o,S e=true
 bd:∀i,ops.size<=i->S i=false
section
variable {P:Program} [Tb P] {C:Cx} {ops:Array Oper} {Q:Exit->Act->World->Prop}
theorem ad1{l:List Bool}{i:Nat}(hi:i<l.length)(h:l[i]=false):(l.set i true).count false+1=l.count false:=by grind
theorem abe(I:(Nat->Bool)->Act->World->Prop)(u:∀i o,ops[i]?=some o->∀e∈edgesOf o,e<i)
  (lK:∀(S:Nat->Bool) i o a w,ops[i]?=some o->S i=false->(∀e∈edgesOf o,S e=true)->Ok ops S->I S a w->wpOp P ops Q i (I (ins S i)) a w)
  (m:∀S a w,(∀j,j<ops.size->S j=true)->Ok ops S->I S a w->Q .normal a w) :
  ∀(f:Nat) (b:Array Bool) (a:Act) (w:World),b.toList.count false<=f->b.size=ops.size->Ok ops (fun i=>b.getD i false)->I (fun i=>b.getD i false) a w->wpAny P .any ops Q f b a w:=by
 have C:∀(b:Array Bool),b.size=ops.size->Region.ready .any ops b=[]->∀j,j<ops.size->b.getD j false=true:=by
  intro b g E j
  induction j using Nat.strongRecOn with
  |_ j F =>
   intro hj
   cases q:b.getD j false with
   |true=>rfl
   |false =>
    exfalso;have d:j<b.size:=Om;have:j∈Region.ready .any ops b:=by refine mem_ready.2 ⟨by simpa[Array.getD,d]using q,ops[j],Array.getElem?_eq_getElem hj,fun e he hb => ?_⟩;have A:=u j ops[j] (Array.getElem?_eq_getElem hj) e.on (by simp[edgesOf];exact⟨e,⟨by simpa using he,hb⟩,rfl⟩);exact F e.on A Om
    rw[E]at this;cases this
 intro f
 induction f with
 |zero =>
  intro b a w K g c x
  have k:∀j,j<ops.size->b.getD j false=true:=by
   intro j hj
   cases q:b.getD j false with
   |true=>rfl
   |false =>
    exfalso;have d:j<b.size:=Om;have h1:b.toList[j]'(by simpa using d)=false:=by simpa[Array.getD,d]using q
    have:=List.count_pos_iff.2 (h1▸ji (by simpa using d:j<b.toList.length));omega
  refine⟨?_,m _ a w k c x⟩;rw[LY];intro i hi;obtain⟨r,o,ho,_⟩:=mem_ready.1 hi;have h1:=(lW.1 ho).1;have h2:=k i h1;have h:i<b.size:=Om;simp[Array.getD,h]at r h2;rw[h2]at r;cases r
 |succ f F =>
  intro b a w K g c x;refine⟨fun E=>m _ a w (C b g E) c x,fun i hi => ?_⟩;obtain⟨r,o,ho,p⟩:=mem_ready.1 hi;have H:i<ops.size:=(lW.1 ho).1;have h:i<b.size:=Om;have s:b.getD i false=false:=by simpa[Array.getD,h]using r
  have y:∀e∈edgesOf o,b.getD e false=true:=by intro e he;simp only[edgesOf,dP,Gl]at he;obtain⟨e',⟨h2,h3⟩,rfl⟩:=he;exact p e' (by simpa using h2) h3
  refine wpOp_mono (fun J w' t => ?_) (lK _ i o a w ho s y c x)
  have n:ins (fun i=>b.getD i false) i=fun j=>(b.setIfInBounds i true).getD j false:=by
   funext j;unfold ins;split
   .simp_all
   .rename_i hj;rw[getD_set_ne false (fun e=>hj e.symm)]
  rw[n]at t;refine F _ J w' ?_ (by simp[g]) ?_ t
  .have h1:b.toList[i]'(by simpa using h)=false:=by simpa[Array.getD,h]using s
   have h2:=ad1 (l:=b.toList) (by simpa using h) h1;have h3:(b.setIfInBounds i true).toList=b.toList.set i true:=Aa;rw[h3];omega
  .rw[<-n];refine⟨fun j L hj G e he => ?_,fun j hj => ?_⟩
   .by_cases v:j=i
    .subst v;rw[ho]at hj;simp only[aO]at hj;subst hj;unfold ins;split
     .rfl
     .grind
    .rw[iy v]at G;unfold ins;split
     .rfl
     .exact c.cl j L hj G e he
   .rw[iy Om];exact c.bd j hj
theorem aad(hm:P.follows .mixedOrders=true){id:Nat}{a:Act}{w:World}(I:(Nat->Bool)->Act->World->Prop)(d:∀i o,ops[i]?=some o->∀e∈edgesOf o,e<i)
  (lK:∀(S:Nat->Bool) i o a w,ops[i]?=some o->S i=false->(∀e∈edgesOf o,S e=true)->Ok ops S->I S a w->wpOp P ops Q i (I (ins S i)) a w)
  (b:∀S a w,(∀j,j<ops.size->S j=true)->Ok ops S->I S a w->Q .normal a w) (f:I (fun _=>false) a {w with drawn:=w.drawn+1}):(Code.region id ops true).wp P Q a w:=by
 have c:(fun i=>(Array.replicate ops.size false).getD i false)=fun _=>false:=by funext i;simp[Array.getD]
 refine wp_region_any hm (abe I d lK b ops.size _ a _ ?_ Aa ?_ ?_)
 .simp_all
 .rw[c];exact⟨fun _ _ _ h=>(by cases h),fun _ _=>rfl⟩
 .grind
theorem YX{s:St}{L:Lay}{a:Act}{w:World}(S:Sim C s L a w):Sim C s L a {w with drawn:=w.drawn+1}:=by have K:qN L L w w.drew:=⟨rfl,fun g h=>⟨h,.of rfl⟩,fun id e _ g h=>⟨⟨rfl,h⟩,rfl⟩,fun _ _ _ h=>⟨h,.of rfl⟩⟩;exact⟨S.defers,S.size,fun t=>(S.env t).whole K,fun t=>(S.hid t).whole K,fun b cs h=>(S.box b cs h).keep rfl rfl (fun _ k=>⟨k,rfl⟩) (fun _ k=>k.whole K),S.wf.mono (az _) (az _),S.kp.drew⟩
def dT:Dw:=⟨fun P _ ops K s=>Et P ops K s\/∀(id:Nat) (C:Cx) (Q:Exit->St->Prop) (L:Lay) (a:Act) (w:World),C.TOk P->Ig C.n ops.toList=true->Q .normal=K->Sim C s L a w->(Code.region id ops true).wp P (zH C Q) a w,[],[]⟩
instance:Plain (dT):=⟨rfl⟩
theorem zN(hm:P.follows .mixedOrders=true):nN P dT:=by
 intro id C ops K Q s L a w d b c h S;rcases h with h|h
 .exact Es [] hm id C ops K Q s L a w d b c h S
 .grind
theorem iq(x y:Code)(Q:Exit->St->Prop)(s:St):wpS dT P (.seq x y) Q s=wpS dT P x (nD dT P y Q) s:=by
 have:pI dT.cuts (gm y)=false:=by cases h:gm y<;>rfl
 simp[wpS,this];rfl
theorem ap1(hm:P.follows .mixedOrders=true)(m:Nat){l:List Oper}{id:Nat}{Q:Exit->St->Prop}{s:St}(F:(Nat->Bool)->St)(hF:F (fun _=>false)=s)
  (J:(l.zipIdx.all fun x=>(edgesOf x.1).all fun e=>decide (e<x.2))=true) (G:((List.range l.length).all fun i=>decide (i<m)||(List.range i).all fun j=>((sK [] l).getD i 0).testBit j)=true) (hg:(l.all fun o=>o.guard.isNone)=true)
  (lK:∀(S:Nat->Bool) i o,l[i]?=some o->i<m->S i=false->(∀e∈edgesOf o,S e=true)->(∀j N,l[j]?=some N->S j=true->∀e∈edgesOf N,S e=true)->aB P (F S) o (fun _ s'=>s'=F (ins S i)))
  (v:∀S,(∀j,j<m->j<l.length->S j=true)->qH P (l.map (·.dst)) Q (l.drop m) (F S)):wpS dT P (.region id l.toArray true) Q s:=by
 refine .inr fun id C Q' L a w hT H E S0 => ?_
 have q:∀(i:Nat) (o:Oper),l[i]?=some o->o.guard=none:=fun i o ho=>by have:=lM.1 hg o (Gp ho);simpa using this
 have u:∀(S:Nat->Bool) (i:Nat) (o:Oper),l[i]?=some o->m<=i->(∀e∈edgesOf o,S e=true)->Ok l.toArray S->∀j,j<i->S j=true:=by intro S i o ho hi he d j hj;have n:i<l.length:=(qK.1 ho).1;have h1:=lM.1 G i (List.mem_range.2 n);rw[dK Om,Bool.false_or]at h1;have h2:=lM.1 h1 j (List.mem_range.2 hj);exact MP (fun i=>S i=true) l [] (fun k j _ h=>by simp at h) (fun k o hk hD e he=>d.cl k o (by simpa using hk) (by simpa using hD) e he) i o ho he j (by simpa using h2)
 refine aad hm (fun S a w=>((∀j,m<=j->S j=false)/\∃L,Sim C (F S) L a w)\/∃k,m<k/\(∀j,j<k->j<l.length->S j=true)/\(∀j,k<=j->S j=false)/\∃s' L,Sim C s' L a w/\wpL P (l.map (·.dst)) (Q .normal) (l.drop k) s') ?_ ?_ ?_ (.inl ⟨fun _ _=>rfl,L,hF▸YX S0⟩)
 .intro i o ho e he;have hm:(o,i)∈l.zipIdx:=by grind
  have:=lM.1 (lM.1 J (o,i) hm) e he;simpa using this
 .intro S i o a w ho hi he d hI;have c:l[i]?=some o:=by simpa using ho
  have n:i<l.length:=(qK.1 c).1;have hd:∀t,o.dst=some t->t<C.n:=Dl H o (by simpa using LU ho);have I:=q i o c;have go:∀{s1:St} {L:Lay} {K':St->Prop},aB P s1 o (fun _ s'=>K' s')->Sim C s1 L a w->∀{R:Act->World->Prop},(∀s' L' A w',K' s'->Sim C s' L' A w'->R A w')->wpOp P l.toArray (zH C Q') i R a w:=by intro s1 L K' h1 f R T;obtain⟨κ,s2,h2,h3⟩:=Lp h1;exact Zb (κ:=κ) hT ho (by unfold cO;rw[I];exact h2) f hd (fun L' A w' S'=>T _ _ _ _ h3 S')
  have K:∀{s1:St} {L:Lay},wpL P (l.map (·.dst)) (Q .normal) (l.drop i) s1->Sim C s1 L a w->(∀j,j<i->S j=true)->(∀j,i<=j->S j=false)->m<=i->wpOp P l.toArray (zH C Q') i (fun a w=>((∀j,m<=j->ins S i j=false)/\∃L,Sim C (F (ins S i)) L a w)\/∃k,m<k/\(∀j,j<k->j<l.length->ins S i j=true)/\(∀j,k<=j->ins S i j=false)/\∃s' L,Sim C s' L a w/\wpL P (l.map (·.dst)) (Q .normal) (l.drop k) s') a w:=by
   intro s1 L h1 f r g hmi;rw[zx n]at h1;have hoe:l[i]=o:=(qK.1 c).2;rw[hoe]at h1;unfold wpL at h1;rw[I]at h1;refine go h1 f (fun s' L' A w' h2 y=>.inr ⟨i+1,by omega,fun j hj _ => ?_,fun j hj => ?_,s',L',y,h2⟩)
   .unfold ins;split
    .rfl
    .grind
   .grind[iy]
  rcases hI with⟨p,L,f⟩|⟨k,hk,r,g,s1,L,f,M⟩
  .rcases au i m with h1|h1
   .refine go (lK S i o c h1 hi he (fun j N hj=>d.cl j N (by simpa using hj))) f (fun s' L' A w' h2 y=>.inl ⟨fun j hj => ?_,L',h2▸y⟩);rw[iy Om];exact p j hj
   .have b:=u S i o c h1 he d
    have W:i=m:=by
     rcases au m i with h2|h2
     .have:=b m h2;rw[p m (az _)]at this;cases this
     .omega
    subst W;have:=v S (fun j hj _=>b j hj);exact K this f b p (az _)
  .have b:=u S i o c (by
    rcases au i k with h2|h2
    .have:=r i h2 n;rw[hi]at this;cases this
    .omega) he d
   have U:i=k:=by
    rcases au i k with h2|h2
    .have:=r i h2 n;rw[hi]at this;cases this
    .rcases au k i with h3|h3
     .have:=b k h3;rw[g k (az _)]at this;cases this
     .omega
   subst U;exact K M f b g Om
 .rintro S a w b d (⟨p,L,f⟩|⟨k,hk,r,g,s1,L,f,M⟩)
  .have Z:l.length<=m:=by
    rcases au m l.length with h1|h1
    .have:=b m (by simpa using h1);rw[p m (az _)]at this;cases this
    .exact h1
   have:=v S (fun j hj X=>b j (by simpa using X));rw[BF Z]at this;exact⟨F S,L,by rw[E];exact this,f⟩
  .have Y:l.length<=k:=by
    rcases au k l.length with h1|h1
    .have:=b k (by simpa using h1);rw[g k (az _)]at this;cases this
    .exact h1
   rw[BF Y]at M;exact⟨s1,L,by rw[E];exact M,f⟩
def jL:List (Nat×V)->Nat->(Nat->Bool)->(Nat->V)->Nat->V
 |[],_,_,e=>e
 |(d,v)::r,k,S,e=>fun t=>if t=d then(if S k=true then v else e t)else jL r (k+1) S e t
theorem dA(k:Nat)(S:Nat->Bool)(e:Nat->V):jL [] k S e=e:=rfl
theorem bH(d:Nat)(v:V)(r:List (Nat×V))(k:Nat)(S:Nat->Bool)(e:Nat->V)(t:Nat):jL ((d,v)::r) k S e t=if t=d then(if S k=true then v else e t)else jL r (k+1) S e t:=rfl
theorem Zr:∀(T:List (Nat×V)) (k:Nat) (e:Nat->V),jL T k (fun _=>false) e=e:=by
 intro T
 induction T with
 |nil=>intro k e;rfl
 |cons x r i =>intro k e;obtain⟨d,v⟩:=x;funext t;simp_all[bH]
theorem Zp(i:Nat)(S:Nat->Bool)(e:Nat->V):∀(T:List (Nat×V)) (k:Nat) (d:Nat) (v:V),k<=i->T[i-k]?=some (d,v)->(T.map (·.1)).Nodup->upd (jL T k S e) d v=jL T k (ins S i) e:=by
 intro T
 induction T with
 |nil=>intro k d v _ h;simp at h
 |cons x r n =>
  intro k d v hk h c;obtain⟨f,p⟩:=x;simp at c;funext t;rw[bH];rcases au k i with m|l
  .have g:i-k=(i-(k+1))+1:=Om;rw[g]at h;have:=congrFun (n (k+1) d v Om h c.2) t;grind[upd,bH,iy]
  .have a:k=i:=Om;subst a;unfold upd;rw[bH,ni];by_cases h1:t=f
   .grind
   .have:∀(T:List (Nat×V)) (j:Nat),k<j->jL T j (ins S k) e=jL T j S e:=by
     intro T
     induction T with
     |nil=>intro j _;rfl
     |cons x r b =>intro j hj;funext t;rw[bH,bH,b (j+1) Om,iy Om]
    simp_all
theorem ig{T:List (Nat×V)}{S:Nat->Bool}{e:Nat->V}{bx bx':BX}{n n':Nat}{h:Nat->V}(i:Nat){d:Nat}{v:V}(b:T[i]?=some (d,v))(c:(T.map (·.1)).Nodup)(hb:bx=bx')(a:n=n'):(⟨upd (jL T 0 S e) d v,bx,n,h⟩:St)=⟨jL T 0 (ins S i) e,bx',n',h⟩:=by grind[Zp]
theorem Ir(hm:P.follows .mixedOrders=true)(m:Nat)(T:List (Nat×V))(a:(Nat->Bool)->BX)(N:(Nat->Bool)->Nat){l:List Oper}{id:Nat}{Q:Exit->St->Prop}{e:Nat->V}{bx:BX}{n:Nat}{h:Nat->V}
  (f:a (fun _=>false)=bx) (g:N (fun _=>false)=n)
  (d:(l.zipIdx.all fun x=>(edgesOf x.1).all fun e=>decide (e<x.2))=true) (b:((List.range l.length).all fun i=>decide (i<m)||(List.range i).all fun j=>((sK [] l).getD i 0).testBit j)=true) (hg:(l.all fun o=>o.guard.isNone)=true)
  (lK:∀(S:Nat->Bool) i o,l[i]?=some o->i<m->S i=false->(∀e∈edgesOf o,S e=true)->(∀j k,l[j]?=some k->S j=true->∀e∈edgesOf k,S e=true)->aB P ⟨jL T 0 S e,a S,N S,h⟩ o (fun _ s'=>s'=⟨jL T 0 (ins S i) e,a (ins S i),N (ins S i),h⟩))
  (c:∀S,(∀j,j<m->j<l.length->S j=true)->qH P (l.map (·.dst)) Q (l.drop m) ⟨jL T 0 S e,a S,N S,h⟩):wpS dT P (.region id l.toArray true) Q ⟨e,bx,n,h⟩ :=
 ap1 hm m (fun S=>⟨jL T 0 S e,a S,N S,h⟩) (by simp[Zr,f,g]) d b hg lK c
end
end Go.Pg
end
section
namespace Go.Pg
open Go
section
variable {ι:Type} {D:Dw} {P:Program} [Tb P]
theorem rF{x:Code}{Q:Exit->St->Prop}{e:Nat->V}{bx:BX}{n:Nat}{h:Nat->V}(X:ι->List (Nat×V))(B:ι->BX)(N:ι->Nat)(H:ι->Nat->V)(I:ι->Prop)(μ:ι->Nat)(a:ι)(he:BK e (X a))(hb:∀b,B a b=bx b\/B a b=none)(f:n<=N a)(d:h=H a)(c:I a)
  (g:∀i,I i->wpS D P x (CS (fun i=>⟨ja (X i),B i,N i,H i⟩) I μ i Q) ⟨ja (X i),B i,N i,H i⟩):Aw D P x Q ⟨e,bx,n,h⟩:=by
 subst d
 refine⟨fun m s1=>∃i,I i/\μ i=m/\s1=⟨ja (X i),B i,N i,H i⟩,μ a,⟨_,QZ (lI he) hb f,a,c,rfl,rfl⟩,?_⟩
 rintro m s1 ⟨i,hi,rfl,rfl⟩
 exact g i hi
theorem qo{X:ι->List (Nat×V)}{B:ι->BX}{N:ι->Nat}{H:ι->Nat->V}{I:ι->Prop}{μ:ι->Nat}{i:ι}{e:Nat->V}{bx:BX}{n:Nat}{h:Nat->V}(j:ι)(h1:I j)(h2:μ j<μ i)(he:BK e (X j))(hb:∀b,B j b=bx b\/B j b=none)(c:n<=N j)(a:h=H j) :
  uH (fun i=>(⟨ja (X i),B i,N i,H i⟩:St)) I μ i ⟨e,bx,n,h⟩:=by
 subst a
 exact⟨μ j,_,h2,QZ (lI he) hb c,j,h1,rfl,rfl⟩
end
def Nj(n:Nat)(f:BX):BX:=fun b=>if b<n then f b else none
end Go.Pg
end
section
namespace Go.Pg
open Go
section
variable {P:Program}
theorem aa4(p:Tag->Bool)(q:Nat->Bool)(tp:Bool)(b:Nat)(e:TypeId)(o k n:Nat):V.any p q tp (.bs b e o k n)=q b:=rfl
theorem alX(τ:Tag->Tag)(ρ:Nat->Nat)(b:Nat)(e:TypeId)(o k n:Nat):V.map τ ρ (.bs b e o k n) = .bs (ρ b) e o k n:=rfl
theorem ad4(b:Nat)(e:TypeId)(o k n:Nat):V.cs (.bs b e o k n)=some [.bs b e o k n]:=rfl
theorem anb(b:Nat)(e:TypeId)(o k n:Nat):V.one (.bs b e o k n)=true:=rfl
theorem aji(b:Nat)(e:TypeId)(o k n:Nat):V.ids (.bs b e o k n)=[]:=rfl
theorem agr(b:Nat)(e:TypeId)(o k n:Nat):V.free (.bs b e o k n)=false:=rfl
theorem EG(id:Nat)(e:TypeId)(k:Nat)(xs:List V):V.free (.sl (.own id e) k xs)=false:=rfl
theorem ale(t:TypeId)(b:Nat)(e:TypeId)(o k n:Nat):rC P t (.bs b e o k n)=if(elemT P t).isSome then some (.c (.int .i64 n))else none:=rfl
theorem ai1(t:TypeId)(b:Nat)(e:TypeId)(o k n:Nat)(a:IntKind)(i:Int)(c:0<=i)(h:i<n):iaV P t (.bs b e o k n) (.c (.int a i))=if(elemT P t).bind (tsz P)=some k then some (.ref b (o+i.toNat*k))else none:=by show(if _/\_/\_ then _ else _)=_;grind
theorem arX(s:St)(d:Option Nat)(t:TypeId)(b:Nat)(e:TypeId)(o k n:Nat)(lo hi:Option V)(l:List V)(K:Kd->St->Prop):DK P s d t (.bs b e o k n) lo hi l K=iP (slV P t (.bs b e o k n) lo hi) s d l K:=rfl
theorem arR(t:TypeId)(b:Nat)(e:TypeId)(o k n:Nat)(i:IntKind)(h:Int)(a:0<=h)(h1:h<=n):slV P t (.bs b e o k n) none (some (.c (.int i h)))=if(elemT P t).bind (tsz P)=some k then some (.bs b e o k h.toNat)else none:=by grind[slV,bdV]
theorem alo(e:Nat->V)(b:BX)(n:Nat)(h:Nat->V)(t:TypeId)(v:V):EU P ⟨e,b,n,h⟩ t 1 [(0,v)]=(elemT P t).bind fun el=>(tapp P el).bind fun p=>v.cs.bind fun l=>if l.length=p.1/\l.all V.one=true/\p.1<=16777216/\v.free=false then some (.bs n el 0 p.1 1,⟨e,upd b n (some (el,l)),n+1,h⟩)else none:=rfl
theorem asb(e:Nat->V)(b:BX)(n:Nat)(h:Nat->V)(t:TypeId)(k a:Nat)(e':TypeId)(o c n':Nat):FQ P ⟨e,b,n,h⟩ t k (.bs a e' o c n')=if c=k/\(elemT P t).isSome/\0<n' then(b a).bind fun x=>if o+n'*k<=x.2.length then some (n',(x.2.drop o).take (n'*k))else none else none:=rfl
theorem ase(s:St)(t:TypeId)(k:Nat)(b:Tag)(a:Nat)(xs:List V):FQ P s t k (.sl b a xs)=(rQ P t k (.sl b a xs)).bind fun ys=>(rf k ys).map fun cs=>(ys.length,cs):=rfl
theorem af4(k:Nat):rf k []=some []:=rfl
theorem af2(k:Nat)(v:V)(r:List V):rf k (v::r)=v.cs.bind fun l=>if l.length=k then(rf k r).map (l++·)else none:=rfl
theorem af5(l:List ByteArray):rf 1 (l.map fun z=>V.c (.string z))=some (l.map fun z=>V.c (.string z)):=by
 induction l with
 |nil=>rfl
 |cons z l i=>simp[rf,V.cs,Value.cells,i]
theorem ana(e:Nat->V)(b:BX)(n:Nat)(h:Nat->V)(i m:Nat):Fb ⟨e,b,n,h⟩ i m=if m=0 then some []else(b i).bind fun x=>if m<=x.2.length then some (x.2.take m)else none:=rfl
def apB(e:Nat->V)(b:BX)(n:Nat)(h:Nat->V)(el:TypeId)(k bytes m:Nat)(cs:List V)(x:V):Option (V×St) :=
 match x with
 | .c (.slice none 0 0)=>if 0<m/\cs.all V.one=true/\Fits m bytes then some (.bs n el 0 k m,⟨e,upd b n (some (el,cs)),n+1,h⟩)else none
 | .bs i e' 0 a n'=>(Fb ⟨e,b,n,h⟩ i (n'*k)).bind fun old=>if e'=el/\a=k/\0<m/\cs.all V.one=true/\Fits (n'+m) bytes then
   some (.bs i el 0 k (n'+m),⟨bD (gY i) e,upd (df (gY i) b) i (some (el,(old++cs).map (gY i))),max n (i+1),bD (gY i) h⟩)else none
 |_=>none
theorem abK(e:Nat->V)(b:BX)(n:Nat)(h:Nat->V)(t t2:TypeId)(x y:V):zK P ⟨e,b,n,h⟩ t t2 x y=(elemT P t).bind fun el=>(tapp P el).bind fun p=>(FQ P ⟨e,b,n,h⟩ t2 p.1 y).bind fun q=>apB e b n h el p.1 p.2 q.1 q.2 x:=by rfl
theorem abm(e:Nat->V)(b:BX)(n:Nat)(h:Nat->V)(el:TypeId)(k bytes m:Nat)(cs:List V)(hf:Fits m bytes):apB e b n h el k bytes m cs (.c (.slice none 0 0))=if 0<m/\cs.all V.one=true then some (.bs n el 0 k m,⟨e,upd b n (some (el,cs)),n+1,h⟩)else none:=by grind[apB]
theorem abl(e:Nat->V)(b:BX)(n:Nat)(h:Nat->V)(el:TypeId)(k bytes m:Nat)(cs:List V)(i:Nat)(e':TypeId)(a n':Nat)(hf:Fits (n'+m) bytes):apB e b n h el k bytes m cs (.bs i e' 0 a n')=(Fb ⟨e,b,n,h⟩ i (n'*k)).bind fun old=>if e'=el/\a=k/\0<m/\cs.all V.one=true then
   some (.bs i el 0 k (n'+m),⟨bD (gY i) e,upd (df (gY i) b) i (some (el,(old++cs).map (gY i))),max n (i+1),bD (gY i) h⟩)else none:=by
 grind[apB]
theorem aua(s:St)(t:TypeId)(id:Nat)(e:TypeId)(k:Nat)(xs:List V)(i off:Nat)(y:V):FU P s t id e k xs i off y=if y.free=true then none else(rf k xs).bind fun cs=>oZ P (boS s id e cs) t s.nid (i*k+off) (V.bo id s.nid y):=rfl
theorem acX(e:Nat->V)(b:BX)(n:Nat)(h:Nat->V)(id:Nat)(e':TypeId)(cs:List V):boS ⟨e,b,n,h⟩ id e' cs=⟨bD (V.bo id n) e,upd (df (V.bo id n) b) n (some (e',cs.map (V.bo id n))),n+1,bD (V.bo id n) h⟩:=rfl
theorem ac0(id m:Nat)(v:Value):V.bo id m (.c v) = .c v:=rfl
theorem ac3(id m k:Nat)(xs:List V):V.bo id m (.sl .fz k xs) = .sl .fz k xs:=rfl
theorem ac5(id m k:Nat)(xs:List V):V.bo id m (.sl .nn k xs) = .sl .nn k xs:=rfl
theorem ac6(id m j:Nat)(e:TypeId)(k:Nat)(xs:List V):V.bo id m (.sl (.own j e) k xs)=if j=id then .bs m e 0 k xs.length else .sl (.own j e) k xs:=rfl
theorem ac1(id m j:Nat)(e:TypeId)(k:Nat)(xs:List V)(i off:Nat):V.bo id m (.el (.own j e) k xs i off)=if j=id then .ref m (i*k+off)else .el (.own j e) k xs i off:=rfl
theorem acY(id m:Nat)(cs:List V):V.bo id m (.agg cs) = .agg (cs.map (V.bo id m)):=by simp[V.bo,MR]
theorem ac9(id m:Nat)(cs:List V):V.bo id m (.tup cs) = .tup (cs.map (V.bo id m)):=by simp[V.bo,MR]
theorem ac7(id m b o:Nat):V.bo id m (.ref b o) = .ref b o:=rfl
theorem ac8(id m:Nat):V.bo id m .top = .top:=rfl
theorem ac4(id m:Nat):V.bo id m .nif = .nif:=rfl
theorem acZ(id m b:Nat)(e:TypeId)(o k n:Nat):V.bo id m (.bs b e o k n) = .bs b e o k n:=rfl
theorem ac2(id m:Nat)(f:FuncId)(fs cs:List V):V.bo id m (.fn f fs cs) = .fn f (fs.map (V.bo id m)) (cs.map (V.bo id m)):=by simp[V.bo,MR]
theorem asf(t:TypeId)(k b:Nat)(e:TypeId)(o a n:Nat):rQ P t k (.bs b e o a n)=none:=rfl
theorem abn(e:Nat->V)(b:BX)(n:Nat)(h:Nat->V)(el:TypeId)(k bytes i:Nat)(e':TypeId)(o a n':Nat)(ys:List V):apK e b n h el k bytes (.bs i e' o a n') ys=none:=rfl
theorem abq(e:Nat->V)(b:BX)(n:Nat)(h:Nat->V)(el:TypeId)(k bytes a:Nat)(ys:List V)(hf:Fits ys.length bytes):apK e b n h el k bytes (.sl .nn a []) ys=some (.sl (AP ys n el) k ys,⟨e,b,n+1,h⟩):=ah hf
def apa:=A8 @asf @abn @aa4 @alX @ad4 @anb @aji @agr (A8 @EG @ale @ai1 @arX @arR @alo @asb @ase (A8 @af4 @af2 @af5 @ana @abK @abm @abl @aua (A8 @acX @ac0 @ac3 @ac5 @ac6 @ac1 @acY @ac9 (Ae @ac7 @ac8 @ac4 @acZ @ac2))))
theorem alQ{ψ:V->V}{e:Nat->V}(h:∀t,ψ (e t)=e t):bD ψ e=e:=funext h
theorem WJ{ψ:V->V}{b:BX}(h:∀k x,b k=some x->∀v∈x.2,ψ v=v):df ψ b=b:=by
 funext k
 show(b k).map _=b k
 cases hb:b k with
 |none=>rfl
 |some x =>
  simp;refine Prod.ext rfl ?_;conv=>rhs;rw[<-List.map_id x.2]
  grind[List.map_congr_left]
theorem GoodZ.freshM[Tb P]{g:FuncId}{args:List V}{n n':Nat}{r:V}(M:Nat->Option (Option (TypeId×List V)))(j:BX)
  (q:∀b x,j b=some x->∀v∈x.2,Fr n v) (e:Nat->V) (bx:BX) (h:Nat->V) (hb:∀b x,j b=some x->bx b=some x)
  (H:∀e bx h,FrE n e->FrB n bx->FrE n h->(∀b x,j b=some x->bx b=some x)->GoodZ P g args ⟨e,bx,n,h⟩ ⟨e,fun k=>match M k with|some y=>y|none=>bx k,n',h⟩ r) :
  GoodZ P g args ⟨e,bx,n,h⟩ ⟨e,fun k=>match M k with|some y=>y|none=>bx k,n',h⟩ r:=by
 intro C L a w d E S p
 have A:=Tq (L:=L) (w:=w) (n:=n) S.wf.nidO S.wf.nidB
 have f:Sim C ⟨fun t=>V.cl n (e t),fun k=>(bx k).map fun x=>(x.1,x.2.map (V.cl n)),n,fun t=>V.cl n (h t)⟩ L a w:=by refine⟨S.defers,S.size,fun t=>(A.1 _ _ (S.env t)).1.1,fun t=>(A.1 _ _ (S.hid t)).1.1,?_,S.wf,S.kp⟩;intro k cs hk;simp only[bF]at hk;obtain⟨y,s,rfl⟩:=hk;exact(S.box k y s).keep rfl (aj ..) (fun _ k=>⟨k,rfl⟩) (fun _ h3=>by rw[<-Ed];exact((A.2 _).1 _ h3).1.1)
 have hl:∀l:List V,(∀v∈l,Fr n v)->l.map (V.cl n)=l:=fun l hl=>by
  conv=>rhs;rw[<-List.map_id l]
  exact kN fun v hv=>(Tt n).1 v (hl v hv)
 have i:∀l:List V,V.anyL (Tag.gf n) (fun b=>decide (n<=b)) false l=false->∀v∈l,Fr n v:=by
  intro l
  induction l with
  |nil=>intro _ v hv;cases hv
  |cons x xs I =>
   intro h v hv;simp only[V.anyL,qh]at h;rcases fG.1 hv with rfl|hv
   .exact h.1
   .grind
 have m:∀b x,j b=some x->(bx b).map (fun x=>(x.1,x.2.map (V.cl n)))=some x:=by intro b x hx;rw[hb b x hx];show some (x.1,x.2.map (V.cl n))=some x;rw[hl _ (q b x hx)]
 have G:=H (fun t=>V.cl n (e t)) (fun k=>(bx k).map fun x=>(x.1,x.2.map (V.cl n))) (fun t=>V.cl n (h t)) (fun t=>(A.1 _ _ (S.env t)).1.2) (by intro k x hk v hv;simp only[bF]at hk;obtain⟨y,s,rfl⟩:=hk;obtain⟨_,_,_,h1,h2,h3⟩:=S.box k y s;have:=((A.2 _).1 _ h3).1.2;rw[Ed]at this;exact i _ this v hv) (fun t=>(A.1 _ _ (S.hid t)).1.2) m
 have back:∀L' w',Sim C ⟨fun t=>V.cl n (e t),fun k=>match M k with|some y=>y|none=>(bx k).map fun x=>(x.1,x.2.map (V.cl n)),n',fun t=>V.cl n (h t)⟩ L' a w' ->
   Sim C ⟨e,fun k=>match M k with|some y=>y|none=>bx k,n',h⟩ L' a w':=by
  intro L' w' c
  refine⟨c.defers,c.size,fun t=>(A.1 _ _ (S.env t)).2 _ _ _ (c.env t),fun t=>(A.1 _ _ (S.hid t)).2 _ _ _ (c.hid t),?_,c.wf,c.kp⟩
  intro k cs hk
  have f:=c.box k
  simp only at hk f
  cases hm:M k with
  |some y=>grind
  |none =>
   rw[hm]at hk f
   simp only at hk f
   obtain⟨_,_,_,h1,h2,h3⟩:=S.box k cs hk
   exact(f (cs.1,cs.2.map (V.cl n)) (by rw[hk];rfl)).keep rfl (aj ..).symm (fun _ k=>⟨k,rfl⟩) (fun _ F=>((A.2 _).1 _ h3).2 _ _ _ (by rw[Ed];exact F))
 rcases G C L a w d E f p with⟨h1,h2⟩|⟨u,w',L',h1,h2,h3⟩
 .exact .inl ⟨h1,h2.mono fun e w' ⟨u,L',he,hs,p⟩=>⟨u,L',he,back L' w' hs,p⟩⟩
 .grind
end
end Go.Pg
end
section
namespace Go.Pg
open Go
def dU(ex:List Nat):Dw:={dT with ex:=ex}
section
variable {P:Program} [Tb P]
theorem fJ(ex:List Nat)(hm:P.follows .mixedOrders=true):nN P (dU ex):=zN (P:=P) hm
theorem avz(ex:List Nat)(x y:Code)(Q:Exit->St->Prop)(s:St):wpS (dU ex) P (.seq x y) Q s=wpS (dU ex) P x (nD (dU ex) P y Q) s:=by
 have:pI (dU ex).cuts (gm y)=false:=by cases h:gm y<;>rfl
 simp[wpS,this];rfl
theorem mM(ex:List Nat)(id:Nat)(l:List Oper)(Q:Exit->St->Prop)(s:St)(h:nP P (l.map (·.dst)) l Q l [] s):wpS (dU ex) P (.region id l.toArray true) Q s:=.inl (by exact h)
theorem oh(hm:P.follows .mixedOrders=true){ex:List Nat}{id:Nat}{l:List Oper}{Q:Exit->St->Prop}{e:Nat->V}{b:BX}{n:Nat}{h:Nat->V}(hl:alC P n l Q l [] 0 ⟨e,b,n+l.length,h⟩):wpS (dU ex) P (.region id l.toArray true) Q ⟨e,b,n,h⟩ :=
 .inr fun id' C d L a w g c f S=>Jr hm id' C l.toArray d _ L a w g c (by rw[f];simpa[Ce,alC]using hl) S
variable (P)
def ug(d:List (Option Nat))(Q:Exit->St->Prop)(ops:List Oper)(s:St):Prop:=BA P d (Q .normal) ops s
def NC(Q:Exit->St->Prop)(s:St):Prop:=Q .normal s\/Q4 (Q .normal) s
def Eb(f:Operand)(args:List Operand)(d:Option Nat)(s:St)(K:St->Prop):Prop:=eX P (s.ev f) args d s (fun _=>K)\/SS P f args d s K
def EM(v:Option V)(a:Bool)(d:List (Option Nat))(Q:Exit->St->Prop)(o:Oper)(r:List Oper)(s:St):Prop :=
 match v with
 |some (.c (.bool b))=>if b=a then eQ P s o (ug P d Q r)else ug P d Q r (s.put o.dst (.c undef))
 |some (.c _)=>ug P d Q r (s.put o.dst (.c undef))
 |_=>False
def ajU:Op->Bool
 | .call {callee:=.value _,..}=>true
 |_=>false
variable {P}
theorem avp(ex:List Nat)(id:Nat)(l:List Oper)(Q:Exit->St->Prop)(s:St):wpS (dU ex) P (.region id l.toArray false) Q s=bif ex.contains id then ug P (l.map (·.dst)) Q l s else qH P (l.map (·.dst)) Q l s:=by rfl
theorem apY(d:List (Option Nat))(Q:Exit->St->Prop)(s:St):ug P d Q [] s=NC Q s:=rfl
theorem ap0(a:List (Option Nat))(Q:Exit->St->Prop)(s:St)(d:Option Nat)(op:Op)(ty:TypeId)(pos:String)(b:Array Edge)(r:List Oper) :
  ug P a Q (⟨d,op,ty,pos,b,none⟩::r) s=eQ P s ⟨d,op,ty, "",#[],none⟩ (ug P a Q r):=by rfl
theorem apX(a:List (Option Nat))(Q:Exit->St->Prop)(s:St)(d:Option Nat)(op:Op)(ty:TypeId)(pos:String)(c:Array Edge)(j:Nat)(b:Bool)(r:List Oper) :
  ug P a Q (⟨d,op,ty,pos,c,some (j,b)⟩::r) s=EM P (jT s a j) b a Q ⟨d,op,ty, "",#[],none⟩ r s:=by rfl
theorem atd{s:St}{d:Option Nat}{op:Op}{ty:TypeId}{K:St->Prop}(h:ajU op=false):eQ P s ⟨d,op,ty, "",#[],none⟩ K=aB P s ⟨d,op,ty, "",#[],none⟩ (fun _=>K):=by
 unfold eQ;split
 .rename_i a;subst a;cases h
 .rfl
theorem atb(s:St)(d:Option Nat)(f:Operand)(args:Array Operand)(ts:Array TypeId)(ty:TypeId)(K:St->Prop):eQ P s ⟨d,.call {callee:=.value f,args:=args,argTypes:=ts},ty, "",#[],none⟩ K=Eb P f args.toList d s K:=rfl
theorem aiQ(b:Bool)(d:List (Option Nat))(Q:Exit->St->Prop)(o:Oper)(r:List Oper)(s:St):EM P (some (.c (.bool b))) b d Q o r s=eQ P s o (ug P d Q r):=by simp[EM]
theorem aiR(d:List (Option Nat))(Q:Exit->St->Prop)(o:Oper)(r:List Oper)(s:St):EM P (some (.c (.bool true))) false d Q o r s=ug P d Q r (s.put o.dst (.c undef)):=by rfl
theorem aiP(d:List (Option Nat))(Q:Exit->St->Prop)(o:Oper)(r:List Oper)(s:St):EM P (some (.c (.bool false))) true d Q o r s=ug P d Q r (s.put o.dst (.c undef)):=by rfl
theorem aiS(a:Bool)(d:List (Option Nat))(Q:Exit->St->Prop)(o:Oper)(r:List Oper)(s:St):EM P (some (.c undef)) a d Q o r s=ug P d Q r (s.put o.dst (.c undef)):=rfl
theorem SX{f:Operand}{args:List Operand}{d:Option Nat}{s:St}{K:St->Prop}(h:eX P (s.ev f) args d s (fun _=>K)):Eb P f args d s K:=.inl h
theorem qR{g:FuncId}{f:Operand}{args:List Operand}{d:Option Nat}{s:St}{K:St->Prop}{vs:List V}{φ:St->V->Prop}(hf:s.ev f = .fn g [] [])(hg:GoodE P g vs s φ)(h:args.map s.ev=vs)(hK:∀s' r,φ s' r->K (s'.put d r)):Eb P f args d s K:=by refine .inr ⟨s,fun C L a w S=>⟨L,S⟩,?_⟩;grind
theorem Jg{g:FuncId}{f:Operand}{args:List Operand}{d:Option Nat}{s:St}{K:St->Prop}{vs:List V}{φ:St->V->Prop}(s1:St)(a:Weak s s1)(hf:s1.ev f = .fn g [] [])(hg:GoodE P g vs s1 φ)(h:args.map s1.ev=vs)(hK:∀s' r,φ s' r->K (s'.put d r)):Eb P f args d s K:=by refine .inr ⟨s1,a,?_⟩;grind
theorem sQ{Q:Exit->St->Prop}{s:St}(h:Q .normal s):NC Q s:=.inl h
theorem Jt{Q:Exit->St->Prop}{s s':St}(a:Weak s s')(h:Q .normal s'):NC Q s:=.inr ⟨s',a,h⟩
def pgE:=A8 @avz @avp @apY @ap0 @apX @atd @atb @aiQ (Ac @aiR @aiP @aiS)
theorem Weak.refl(s:St):Weak s s:=fun _ L _ _ S=>⟨L,S⟩
theorem Weak.trans{a b c:St}(h:Weak a b)(k:Weak b c):Weak a c:=fun C L x w S=>by obtain⟨d,f⟩:=h C L x w S;exact k C d x w f
theorem DV(s:St)(ids:List Nat):Weak s (s.freezeAll ids):=fun _ _ _ _ S=>by obtain⟨L,a,_⟩:=S.freezeAll ids;exact⟨L,a⟩
theorem mJ{e e':Nat->V}{bx bx':BX}{n n':Nat}{h:Nat->V}(he:∀t,e' t=e t\/e' t = .top)(hb:∀b,bx' b=bx b\/bx' b=none)(a:n<=n'):Weak ⟨e,bx,n,h⟩ ⟨e',bx',n',h⟩:=QZ he hb a
def wkT(a b:V):Prop:=b = .top\/wkV a b\/(a = .c (.slice none 0 0)/\∃j e o k,b = .bs j e o k 0)
theorem dJ(a:V):wkT a a:=.inr (.inl (aC a))
theorem Q5(t:Tag)(k:Nat)(h:t.notNN=true:=by rfl):wkT (.c (.slice none 0 0)) (.sl t k []):=.inr (.inl (.inl (jB t k h)))
theorem Yz{L:Lay}{w:World}{a b:V}{u:Value}(h:wkT a b)(c:Rep L w a u):Rep L w b u:=by
 rcases h with rfl|h|⟨rfl,j,e,o,k,rfl⟩
 .trivial
 .exact Iw h c
 .exact .inl ⟨rfl,c⟩
def zq:List V->List V->Prop
 |_,[]=>True
 |a::xs,b::ys=>wkT a b/\zq xs ys
 |[],_::_=>False
theorem rY:∀l:List V,zq l l
 |[]=>trivial
 |a::l=>⟨dJ a,rY l⟩
theorem Z7{L:Lay}{w:World}:∀{xs ys:List V} {us:List Value},zq xs ys->Reps L w xs us->Reps L w ys (us.take ys.length):=by
 intro xs ys
 induction ys generalizing xs with
 |nil=>intro us _ _;simp[Reps]
 |cons y ys i =>
  intro us h a
  cases xs with
  |nil=>exact h.elim
  |cons x xs =>obtain⟨u,r,rfl,h1,h2⟩:=a;exact⟨u,r.take ys.length,by simp,Yz h.1 h1,i h.2 h2⟩
theorem Z5:∀{xs ys:List V},zq xs ys->ys.length<=xs.length:=by
 intro xs ys
 induction ys generalizing xs with
 |nil=>intro _;exact ax _
 |cons y ys i =>
  intro h
  cases xs with
  |nil=>exact h.elim
  |cons x xs=>simp;have:=i h.2;omega
def BL(e:Nat->V):List (Nat×V)->Prop
 |[]=>True
 |(k,v)::r=>wkT (e k) v/\BL e r
theorem zG(e:Nat->V):BL e []=True:=rfl
theorem zF(e:Nat->V)(k:Nat)(v:V)(r:List (Nat×V)):BL e ((k,v)::r)=(wkT (e k) v/\BL e r):=rfl
theorem afZ{e:Nat->V}:∀{X:List (Nat×V)},BL e X->∀t,wkT (e t) (ja X t):=by
 intro X
 induction X with
 |nil=>intro _ t;exact .inl rfl
 |cons p r i =>rintro⟨h1,h2⟩ t;grind[jQ]
theorem Gg{e:Nat->V}{bx bx':BX}{n n':Nat}{h:Nat->V}{X:List (Nat×V)}(he:BL e X)(hb:∀c b,bx' c=some b->∃x,bx c=some x/\x.1=b.1/\zq x.2 b.2)(f:n<=n'):Weak ⟨e,bx,n,h⟩ ⟨ja X,bx',n',h⟩:=by intro C L a w S;refine⟨L,S.defers,S.size,fun t=>Yz (afZ he t) (S.env t),S.hid,fun c b d => ?_,S.wf.mono f (az _),S.kp⟩;obtain⟨x,hx,h1,h2⟩:=hb c b d;obtain⟨g,o,l,k,k2,i⟩:=S.box c x hx;refine⟨g,o,l,k,by rw[<-h1];exact k2,?_⟩;have h3:=Z7 h2 i;grind[Z5]
theorem CX{ι:Type}{D:Dw}{x:Code}{Q:Exit->St->Prop}{s:St}(S:ι->St)(I:ι->Prop)(μ:ι->Nat)(a:ι)(c:Weak s (S a))(h:I a)
  (b:∀i,I i->wpS D P x (CS S I μ i Q) (S i)):Aw D P x Q s:=by
 refine⟨fun n s1=>∃i,I i/\μ i=n/\s1=S i,μ a,⟨S a,c,a,h,rfl,rfl⟩,?_⟩
 rintro n s1 ⟨i,hi,rfl,rfl⟩
 exact b i hi
theorem wz{ι:Type}{S:ι->St}{I:ι->Prop}{μ:ι->Nat}{i:ι}{s:St}(j:ι)(h1:I j)(h2:μ j<μ i)(h:Weak s (S j)):uH S I μ i s:=⟨μ j,S j,h2,h,j,h1,rfl,rfl⟩
def CU(P:Program)[Tb P](a:List ResultVar)(φ:St->V->Prop)(s:St):Prop:=∃s2 s' r,Weak s s2/\φ s' r/\yH P a s' r s2
def OD(P:Program)[Tb P](r:List ResultVar)(φ:St->V->Prop):Exit->St->Prop:=fun e s =>
 match e with
 | .normal | .ret=>CU P r φ s
 |_=>False
theorem bz(r:List ResultVar)(φ:St->V->Prop)(s:St):OD P r φ .ret s=CU P r φ s:=rfl
theorem bu(r:List ResultVar)(φ:St->V->Prop)(s:St):OD P r φ .normal s=CU P r φ s:=rfl
theorem kz{a:List ResultVar}{φ:St->V->Prop}{s s':St}{r:V}(b:φ s' r)(h:yH P a s' r s):CU P a φ s:=⟨s,s',r,Weak.refl s,b,h⟩
theorem Aj{a:List ResultVar}{φ:St->V->Prop}{s s2:St}(b:Weak s s2)(h:CU P a φ s2):CU P a φ s:=by obtain⟨c,s',r,h1,h2,h3⟩:=h;exact⟨c,s',r,b.trans h1,h2,h3⟩
theorem lg{D:Dw}(M:nN P D){f:FuncId}{fn:Func}{c:Code}{A:List ResultVar}{args:List V}{s:St}{φ:St->V->Prop}(hf:P.funcs[f]?=some fn)(hb:fn.body=some c)(x:fn.results=A.toArray)(Q:(fn.name == "runtime.NumGoroutine")=false)
  (m:mf fn.ntmps c=true) (E:args.length<=fn.ntmps) (h:wpS D P c (OD P A φ) (EO args s)):GoodE P f args s φ:=by
 intro C L a w b N S d
 refine⟨by simp[oI,hf,hb,Q],?_⟩
 let l:Cx:={n:=fn.ntmps,A0:=C.A0,Wr:=C.Wr,w0:=C.w0,hid:=bM (fun t=>a.tmps.getD t undef) C.hid}
 have hl:=d.length
 have W:=S.wf
 have J:Sim l (EO args s) L {tmps:=b.toArray++Array.replicate (fn.ntmps-b.toArray.size) undef,defers:=[]} w:=by
  refine⟨rfl,by simp[l];omega,fun t => ?_,fun t => ?_,S.box,⟨W.nidO,W.nidB,W.own,W.boxW,W.injO,W.injB,W.dis,W.old,W.frz⟩,S.kp⟩
  .have:=OC args b 0 (List.replicate (fn.ntmps-b.length) undef) d [] rfl t;have e:(b++List.replicate (fn.ntmps-b.length) undef).toArray=b.toArray++Array.replicate (fn.ntmps-b.toArray.size) undef:=by apply iE;simp
   rw[iY,e]at this;exact this
  .show Rep L w (bM s.env s.hd t) (bM (fun t=>a.tmps.getD t undef) C.hid t);unfold bM;split
   .exact S.env _
   .exact S.hid _
 refine calls_of_wp hf hb (Code.wp_mono ?_ (Q8 (C:=l) M N c h m J))
 rintro e p w' ⟨s2,H,q,K⟩
 have fin:CU P A φ s2->p.defers=[]/\∃v,(results fn p.tmps).run P w' = .ok v w'/\∃u L' s' r,φ s' r/\Ending.returned v = .returned u/\Sim C s' L' a w'/\Rep L' w' r u:=by
  rintro⟨s3,s',r,R,T,h1,F,k2,G,y⟩;obtain⟨I,k⟩:=R l H p w' K;obtain⟨u,h3,h4⟩:=Qj x h1 k;refine⟨k.defers,u,h3,u,I,s',r,T,rfl,?_,h4⟩;have j:=k.wf;obtain⟨Y,U,Z,X⟩:=s';simp only at F k2 G y;subst F;subst k2;subst G;refine⟨S.defers,S.size,fun t => ?_,fun t => ?_,k.box,⟨fun i g h=>sF (j.nidO i g h) y,fun i g h=>sF (j.nidB i g h) y,j.own,j.boxW,j.injO,j.injB,j.dis,j.old,j.frz⟩,k.kp⟩
  .have h5:=k.hid (2*t);have e:l.hid (2*t)=a.tmps.getD t undef:=congrFun (aP (fun t=>a.tmps.getD t undef) C.hid) t;rw[e]at h5;exact h5
  .have h5:=k.hid (2*t+1);have e:l.hid (2*t+1)=C.hid t:=congrFun (aQ (fun t=>a.tmps.getD t undef) C.hid) t;rw[e]at h5;exact h5
 cases e with
 |normal=>exact fin q
 |ret=>exact fin q
 |_=>exact q.elim
theorem GoodZ.e{g:FuncId}{args:List V}{s s':St}{r:V}(h:GoodZ P g args s s' r)(hb:oI P g=true)(hx:∀(c:Array Value) (w:World) u w',(callFunc g c).run P w ≠ .ok (.value u) w'):GoodE P g args s (fun s2 f=>s2=s'/\f=r):=by
 intro C L a w c d S b;rcases h C L a w c d S b with⟨_,h2⟩|⟨u,w',L',h2,_⟩
 .grind
 .grind
theorem GoodE.mono{g:FuncId}{args:List V}{s:St}{φ ψ:St->V->Prop}(h:GoodE P g args s φ)(hk:∀s' r,φ s' r->ψ s' r):GoodE P g args s ψ:=by intro C L a w c d S b;obtain⟨h1,h2⟩:=h C L a w c d S b;exact⟨h1,h2.mono fun e w' ⟨u,L',s',r,hφ,he,hs,hr⟩=>⟨u,L',s',r,hk _ _ hφ,he,hs,hr⟩⟩
end
end Go.Pg
end
section
namespace Go.Pg
open Go
def GoodZ.wkr{P:Program}[Tb P]{g:FuncId}{args:List V}{s s':St}{r r':V}(h:GoodZ P g args s s' r)(f:wkV r r'):GoodZ P g args s s' r':=by
 intro C L a w c d S b;rcases h C L a w c d S b with⟨h1,h2⟩|⟨u,w',L',h1,h2,h3⟩
 .exact .inl ⟨h1,h2.mono fun e w' ⟨u,L',he,hs,b⟩=>⟨u,L',he,hs,Iw f b⟩⟩
 .grind[Iw]
def Tag.lo(n:Nat):Tag->Bool
 | .own id _=>decide (id<n)
 | .fz=>false
 | .nn=>false
def Lay.frzN(L:Lay)(n:Nat):Lay:={A:=fun g=>L.A g\/∃id,n<=id/\L.own id=some g,own:=fun id=>if id<n then L.own id else none,box:=L.box}
section
variable {P:Program} [Tb P] {C:Cx} {L:Lay} {a:Act} {w:World} {n n':Nat}
theorem EI{id g:Nat}(h:(L.frzN n).own id=some g):id<n/\L.own id=some g:=by grind[Lay.frzN]
theorem agI{nid:Nat}(W:Wf C nid L w):Wf C nid (L.frzN n) w where
 nidO:=fun id g h=>W.nidO id g (EI h).2
 nidB:=W.nidB
 own:=fun id g h=>by
  obtain⟨d,h⟩:=EI h;obtain⟨h1,h2,h3⟩:=W.own id g h;refine⟨h1,h2,?_⟩;rintro(h4|⟨id',h5,c⟩)
  .exact h3 h4
  .have:=W.injO id id' g h c;omega
 boxW:=fun b g h=>by
  obtain⟨h1,h2,h3⟩:=W.boxW b g h;refine⟨h1,h2,?_⟩;rintro(h4|⟨id',h5,c⟩)
  .exact h3 h4
  .exact W.dis id' b g c h
 injO:=fun i j g h a=>W.injO i j g (EI h).2 (EI a).2
 injB:=W.injB
 dis:=fun i j g h a=>W.dis i j g (EI h).2 a
 old:=fun g h=>by
  rcases h with h|⟨id,_,h⟩
  .exact W.old g h
  .exact(W.own id g h).1
 frz:=fun g h=>by
  rcases h with h|⟨id,_,h⟩
  .exact W.frz g h
  .exact .inr (W.own id g h).2.1
theorem agH:Trans (Tag.gf n) (fun b=>decide (n<=b)) id id L (L.frzN n) w w :=
 ⟨rfl,fun g h=>⟨.inl h,.of rfl⟩,fun i e hi g h=>⟨⟨rfl,by
  have:i<n:=by simpa[Tag.gf]using hi
  simp[Lay.frzN,this,h]⟩,rfl⟩,fun _ _ _ h=>⟨h,.of rfl⟩⟩
theorem Qh{v:V}{u:Value}(hv:Fr n v)(h:Rep L w v u):Rep (L.frzN n) w v u:=by have:=h.trans rfl (agH (n:=n)) hv;rwa [map_id.1]at this
theorem aqc:∀{l:List V} {us:List Value},(∀v∈l,Fr n v)->Reps L w l us->Reps (L.frzN n) w l us:=by
 intro l
 induction l with
 |nil=>intro us _ h;exact h
 |cons x xs i =>rintro us hl ⟨u,r,rfl,h2,h3⟩;exact⟨u,r,rfl,Qh (hl x Aa) h2,i (fun v hv=>hl v (by simp[hv])) h3⟩
theorem aqa{v:V}{u:Value}(hv:v.any (Tag.lo n) (fun _=>true) false=false)(h:Rep L w v u):Rep (L.frzN n) w v.erase u:=by
 have K:Trans (Tag.lo n) (fun _=>true) (fun _=>.fz) id L (L.frzN n) w w :=
  ⟨rfl,fun g h=>⟨.inl h,.of rfl⟩,fun i e hi g h=>⟨.inr ⟨i,by simpa[Tag.lo]using hi,h⟩,rfl⟩,fun b hb=>by simp at hb⟩
 exact h.trans rfl K hv
end
end Go.Pg
end
section
namespace Go.Pg
open Go
section
variable {P:Program} [Tb P] {C:Cx} {L:Lay} {a:Act} {w:World} {n n':Nat}
def Lay.cutBx(L:Lay)(n:Nat):Lay:={L with box:=fun b=>if b<n then L.box b else none}
theorem GV{b g:Nat}(h:(L.cutBx n).box b=some g):b<n/\L.box b=some g:=by grind[Lay.cutBx]
theorem aeh:Trans (fun _=>false) (fun b=>decide (n<=b)) id id L (L.cutBx n) w w :=
 ⟨rfl,fun g h=>⟨h,.of rfl⟩,fun i e _ g h=>⟨⟨rfl,h⟩,rfl⟩,fun b hb g h=>⟨by
  have:b<n:=by simpa using hb
  simp[Lay.cutBx,this,h],.of rfl⟩⟩
theorem KP{v:V}{u:Value}(hv:v.any (fun _=>false) (fun b=>decide (n<=b)) false=false)(h:Rep L w v u):Rep (L.cutBx n) w v u:=by have:=h.trans rfl (aeh (n:=n)) hv;rwa [map_id.1]at this
theorem NR{v:V}(h:Fr n v):v.any (fun _=>false) (fun b=>decide (n<=b)) false=false:=(Jc (fun _ h=>by cases h) (fun _ h=>h)).1 v h
theorem aqb:∀{l:List V} {us:List Value},(∀v∈l,Fr n v)->Reps L w l us->Reps (L.cutBx n) w l us:=by
 intro l
 induction l with
 |nil=>intro us _ h;exact h
 |cons x xs i =>rintro us hl ⟨u,r,rfl,h2,h3⟩;exact⟨u,r,rfl,KP (NR (hl x Aa)) h2,i (fun v hv=>hl v (by simp[hv])) h3⟩
theorem arN{e:Nat->V}{bx bx':BX}{h:Nat->V}{r:Lay}{s:Act}{w0:World}(m:FrE n e)(hB:FrB n bx)(p:FrE n h)(l:Sim C ⟨e,bx,n,h⟩ r s w0)(hb:∀k,k<n->bx' k=bx k)(S:Sim C ⟨e,bx',n',h⟩ L a w) :
  Sim C ⟨e,bx,n,h⟩ ((L.frzN n).cutBx n) a w:=by
 have W:=agI (n:=n) S.wf
 refine⟨S.defers,S.size,fun t=>KP (NR (m t)) (Qh (m t) (S.env t)),fun t=>KP (NR (p t)) (Qh (p t) (S.hid t)),fun b cs q => ?_,?_,S.kp⟩
 .have d:b<n:=by obtain⟨g,_,_,h1,_⟩:=l.box b cs q;exact l.wf.nidB b g h1
  have c:bx b=some cs:=q;refine(S.box b cs ((hb b d).trans c)).keep rfl rfl (fun g k=>⟨?_,rfl⟩) (fun _ h3=>aqb (hB b cs c) (aqc (hB b cs c) h3));simp[Lay.cutBx,d];exact k
 .exact⟨fun id g h=>(EI h).1,fun b g h=>(GV h).1,W.own,fun b g h=>W.boxW b g (GV h).2,W.injO,fun i j g h f=>W.injB i j g (GV h).2 (GV f).2,fun i j g h f=>W.dis i j g h (GV f).2,W.old,W.frz⟩
theorem aa7(q:Nat->Bool):(∀v:V,v.any (fun _=>false) q false=false->v.erase.any (fun _=>false) q false=false)/\(∀l,V.anyL (fun _=>false) q false l=false->V.anyL (fun _=>false) q false (V.mapL (fun _=>.fz) id l)=false):=by
 refine V.ind ?_ ?_ ?_ ?_ ?_ ?_ ?_ ?_ ?_ ?_ ?_ ?_ ?_
 case refine_13 =>
  intro x xs h1 h2 h
  simp[V.anyL]at h
  exact qh.2 ⟨h1 h.1,h2 h.2⟩
 all_goals(intros;first|assumption|rfl|simp_all[V.any,V.erase,V.map])
theorem afG{r:V}(a:r.any (Tag.lo n) (fun _=>true) false=false):r.erase.any (fun _=>false) (fun b=>decide (n<=b)) false=false :=
 (aa7 _).1 r ((Jc (fun _ h=>by cases h) (fun _ _=>rfl)).1 r a)
theorem GoodZ.rd{g:FuncId}{args:List V}{r:V}(i:BX)(l:∀b x,i b=some x->∀v∈x.2,Fr n v)(q:r.any (Tag.lo n) (fun _=>true) false=false)
  (H:∀e bx h,FrE n e->FrB n bx->FrE n h->(∀b x,i b=some x->bx b=some x)->∃n' bx',(∀k,k<n->bx' k=bx k)/\GoodZ P g args ⟨e,bx,n,h⟩ ⟨e,bx',n',h⟩ r)
  (e:Nat->V) (bx:BX) (h:Nat->V) (hb:∀b x,i b=some x->bx b=some x):GoodZ P g args ⟨e,bx,n,h⟩ ⟨e,bx,n,h⟩ r.erase:=by
 refine GoodZ.freshM (fun _=>none) i l e bx h hb fun e bx h m hB p hb C L a w d s S j => ?_
 obtain⟨n',bx',h1,G⟩:=H e bx h m hB p hb
 have fin:∀w' L',Sim C ⟨e,bx',n',h⟩ L' a w'->∀u,Rep L' w' r u->Sim C ⟨e,bx,n,h⟩ ((L'.frzN n).cutBx n) a w'/\Rep ((L'.frzN n).cutBx n) w' r.erase u:=fun w' L' f u c =>
  ⟨arN m hB p S h1 f,KP (afG q) (aqa q c)⟩
 rcases G C L a w d s S j with⟨h1,h2⟩|⟨u,w',L',h1,h2,h3⟩
 .exact .inl ⟨h1,h2.mono fun _ w' ⟨u,L',he,f,c⟩=>⟨u,_,he,(fin w' L' f u c).1,(fin w' L' f u c).2⟩⟩
 .grind
theorem GoodZ.rdc{g:FuncId}{args:List V}{v:Value}(a:BX)(c:∀b x,a b=some x->∀v∈x.2,Fr n v)
  (H:∀e bx h,FrE n e->FrB n bx->FrE n h->(∀b x,a b=some x->bx b=some x)->∃n' bx',(∀k,k<n->bx' k=bx k)/\GoodZ P g args ⟨e,bx,n,h⟩ ⟨e,bx',n',h⟩ (.c v))
  (e:Nat->V) (bx:BX) (h:Nat->V) (hb:∀b x,a b=some x->bx b=some x):GoodZ P g args ⟨e,bx,n,h⟩ ⟨e,bx,n,h⟩ (.c v):=GoodZ.rd (r:=.c v) a c rfl H e bx h hb
def Chg(e:Nat->V)(bx:BX)(n:Nat)(h:Nat->V)(D:List Nat)(Ψ:(BX)->Nat->V->Prop)(st:St)(r:V):Prop :=
 ∃bx' n',st=⟨e,bx',n',h⟩/\(∀k,k<n->k∉D->bx' k=bx k)/\Ψ bx' n' r
theorem GoodE.fr{g:FuncId}{args:List V}(j:BX)(F:∀b x,j b=some x->∀v∈x.2,Fr n v)(D:List Nat)(Ψ:(BX)->Nat->V->Prop)(T:∀K M m r,(∀k,(k∈D\/n<=k)->K k=M k)->Ψ K m r->Ψ M m r)
  (H:∀e bx h,FrE n e->FrB n bx->FrE n h->(∀b x,j b=some x->bx b=some x)->GoodE P g args ⟨e,bx,n,h⟩ (Chg e bx n h D Ψ))
  (e:Nat->V) (bx:BX) (h:Nat->V) (hb:∀b x,j b=some x->bx b=some x):GoodE P g args ⟨e,bx,n,h⟩ (Chg e bx n h D Ψ):=by
 intro C L a w d Q S R
 have A:=Tq (L:=L) (w:=w) (n:=n) S.wf.nidO S.wf.nidB
 have N:Sim C ⟨fun t=>V.cl n (e t),fun k=>(bx k).map fun x=>(x.1,x.2.map (V.cl n)),n,fun t=>V.cl n (h t)⟩ L a w:=by refine⟨S.defers,S.size,fun t=>(A.1 _ _ (S.env t)).1.1,fun t=>(A.1 _ _ (S.hid t)).1.1,?_,S.wf,S.kp⟩;intro k cs hk;simp only[bF]at hk;obtain⟨y,I,rfl⟩:=hk;exact(S.box k y I).keep rfl (aj ..) (fun _ k=>⟨k,rfl⟩) (fun _ h3=>by rw[<-Ed];exact((A.2 _).1 _ h3).1.1)
 have i:∀l:List V,V.anyL (Tag.gf n) (fun b=>decide (n<=b)) false l=false->∀v∈l,Fr n v:=by
  intro l
  induction l with
  |nil=>intro _ v hv;cases hv
  |cons x xs X =>
   intro h v hv;simp only[V.anyL,qh]at h;rcases fG.1 hv with rfl|hv
   .exact h.1
   .grind
 have p:∀b x,j b=some x->(bx b).map (fun x=>(x.1,x.2.map (V.cl n)))=some x:=by
  intro b x hx;rw[hb b x hx];show some (x.1,x.2.map (V.cl n))=some x
  have:x.2.map (V.cl n)=x.2:=by
   conv=>rhs;rw[<-List.map_id x.2]
   exact kN fun v hv=>(Tt n).1 v (F b x hx v hv)
  rw[this]
 have G:=H (fun t=>V.cl n (e t)) (fun k=>(bx k).map fun x=>(x.1,x.2.map (V.cl n))) (fun t=>V.cl n (h t)) (fun t=>(A.1 _ _ (S.env t)).1.2) (by intro k x hk v hv;simp only[bF]at hk;obtain⟨y,I,rfl⟩:=hk;obtain⟨_,_,_,h1,h2,h3⟩:=S.box k y I;have:=((A.2 _).1 _ h3).1.2;rw[Ed]at this;exact i _ this v hv) (fun t=>(A.1 _ _ (S.hid t)).1.2) p
 obtain⟨h1,h2⟩:=G C L a w d Q N R
 refine⟨h1,h2.mono ?_⟩
 rintro ex w' ⟨u,L',s',r,⟨bx',n',rfl,hk,hp⟩,he,c,E⟩
 refine⟨u,L',⟨e,fun k=>if k<n/\k∉D then bx k else bx' k,n',h⟩,r,⟨_,n',rfl,fun k J k2=>ah ⟨J,k2⟩,T _ _ _ _ (fun k J => ?_) hp⟩,he,?_,E⟩
 .grind
 .refine⟨c.defers,c.size,fun t=>(A.1 _ _ (S.env t)).2 _ _ _ (c.env t),fun t=>(A.1 _ _ (S.hid t)).2 _ _ _ (c.hid t),?_,c.wf,c.kp⟩;intro k cs f;simp only at f;by_cases q:k<n/\k∉D
  .rw[ah q]at f;obtain⟨_,_,_,J,k2,U⟩:=S.box k cs f;have s:bx' k=some (cs.1,cs.2.map (V.cl n)):=by rw[hk k q.1 q.2];simp only[f,mQ]
   exact(c.box k _ s).keep rfl (aj ..).symm (fun _ k=>⟨k,rfl⟩) (fun _ W=>((A.2 _).1 _ U).2 _ _ _ (by rw[Ed];exact W))
  .rw[ag q]at f;exact c.box k cs f
theorem oC{g:FuncId}{args:List Operand}{d:Option Nat}{s:St}{K:Kd->St->Prop}{vs:List V}(r:V)(hg:∀e n h,GoodZ P g vs ⟨e,s.bx,n,h⟩ ⟨e,s.bx,n,h⟩ r)(a:args.map s.ev=vs)(hK:K .r (s.put d r)):eX P (.fn g [] []) args d s K:=by refine .inr (.inr ⟨r,?_,hK⟩);grind
theorem Sim.live{C:Cx}{s:St}{L:Lay}{a:Act}{w:World}(S:Sim C s L a w){k:Nat}{x:TypeId×List V}(h:s.bx k=some x):k<s.nid:=by obtain⟨g,o,l,b,_⟩:=S.box k x h;exact S.wf.nidB k g b
end
end Go.Pg
end
namespace Go.Proofs.YtopbmdnbdpjheaaGreat
open Go Go.Pg
theorem tC{p q:Prop}(a:q)(h:q->p:=by intro a;first|(with_reducible show eX _ _ _ _ _ _);exact a|(with_reducible show Eb _ _ _ _ _ _);refine SX ?_;exact a):p:=h a
theorem iL{P:Program}{d:List ResultVar}{e':Nat->V}{a:BX}{n':Nat}{c:Nat->V}{r:V}{e:Nat->V}{b:BX}{n:Nat}{h:Nat->V}(h4:b=a)(h5:n<=n')
  (h1:kH P ⟨e,b,n,h⟩ d=some r:=by first|exact aW _ _ _|exact jW _ _ _ _|(simp(disch:=first|exact dqz|fail) only[pgr,pgo,tyf,simprocAttr];done)|(simp(disch:=first|exact dqz|fail) only[pgr,pgo,tyf,simprocAttr];rfl))
  (h2:unE h=e':=by exact aP _ _) (h3:unH h=c:=by exact aQ _ _):yH P d ⟨e',a,n',c⟩ r ⟨e,b,n,h⟩:=⟨h1,h2,h3,h4,h5⟩
theorem eE{p:Prop}(h:p:=by(try simp only[lu,lw,jQ,kW,pgo,simprocAttr,jb,lN]);(try(repeat'(first|exact ae|rfl|apply aI)))):p:=h
theorem kX{p:Prop}(h:p:=by
  refine kM ?_ ?_;(repeat'(first|exact ae|refine dQ _ _ rfl rfl ?_ ?_));all_goals(try simp only[pgm,simprocAttr])
  all_goals(try(repeat' apply aI))
  all_goals exact gz):p:=h
theorem bX{ι:Type}{S:ι->St}{I:ι->Prop}{μ:ι->Nat}{i:ι}{s:St}(j:ι)(l m:List Nat)(h1:I j)(h2:μ j<μ i:=by first|omega|(simp only[dB];omega))(h3:Keep l m s (S j):=by exact kX):uH S I μ i s:=dn j l m h1 h2 h3
theorem cL{P:Program}[Tb P]{g:FuncId}{args:List Operand}{d:Option Nat}{s:St}{K:Kd->St->Prop}{vs:List V}{r:V}(hg:∀e n h,Pg.GoodZ P g vs ⟨e,s.bx,n,h⟩ ⟨e,s.bx,n,h⟩ r)(hK:K .r (s.put d r))(a:args.map s.ev=vs:=by exact rfl):eX P (.fn g [] []) args d s K:=oC r hg a hK
theorem cT{C p q:Prop}(c:C)(a:q)(h:C->q->p:=by intro c a;(first|refine cU c ?_|refine cL c ?_|refine cZ c ?_|refine cU c.1 ?_|refine cL c.1 ?_|refine cZ c.1 ?_|refine cT c.2 ?_);exact a):p:=h c a
theorem wED{F C p q:Prop}(f:F)(c:C)(a:q)(h:F->C->q->p:=by intro f c a;(repeat1' (first|(simp(maxSteps:=2000000) (disch:=first|exact dqz|fail) only[pgz,simprocAttr,f])|(refine tC ?_;refine cT c ?_)|(with_reducible refine sQ ?_)|(refine mM _ _ _ _ _ ?_)|(with_reducible refine cK ?_)|fail));all_goals exact a):p:=h f c a
theorem wEX{F C p q:Prop}(f:F)(c:C)(a:q)(h:F->C->q->p:=by intro f c a;(repeat1' (first|(simp(maxSteps:=2000000) (disch:=first|exact dqz|fail) only[pgz,simprocAttr,f])|(refine tC ?_;refine cT c ?_)|(with_reducible refine sQ ?_)|(with_reducible refine cK ?_)|fail));all_goals exact a):p:=h f c a
theorem wU{F p q:Prop}(f:F)(a:q)(h:F->q->p:=by intro f a;(repeat1' (first|(simp(maxSteps:=2000000) (disch:=first|exact dqz|fail) only[pgz,simprocAttr,f])|(with_reducible refine sQ ?_)|(refine mM _ _ _ _ _ ?_)|(with_reducible refine cK ?_)|fail));all_goals exact a):p:=h f a
theorem wV{F p q:Prop}(f:F)(a:q)(h:F->q->p:=by intro f a;(repeat1' (first|(simp(maxSteps:=2000000) (disch:=first|exact dqz|fail) only[pgz,simprocAttr,f])|(with_reducible refine sQ ?_)|(with_reducible refine cK ?_)|fail));all_goals exact a):p:=h f a
abbrev vi(n:Int):V:=.c (.int .i64 n)
abbrev vu(n:Int):V:=.c (.int .u64 n)
abbrev vb(b:Bool):V:=.c (.bool b)
abbrev vs(l:List Nat):V:=.c (.string (sB l))
abbrev nls:V:=.c (.slice none 0 0)
abbrev fzs(l:List (List Nat)):V:=.sl .fz 1 (sv l)
abbrev fzb(l:List Nat):V:=.sl .fz 1 (bv l)
def iv(l:List Int):List V:=l.map fun n=>V.c (.int .i64 n)
def bV(l:List Int):(iv l).length=l.length:=by simp[iv]
def lh(l:List Int)(i:Nat)(h:i<l.length):(iv l)[i]?=some (.c (.int .i64 (l.getD i 0))):=by simp[iv,h,List.getD]
abbrev fzi(l:List Int):V:=.sl .fz 1 (iv l)
def itv(l:List (List Nat×Int)):List V:=l.map fun x=>V.agg [vs x.1,vi x.2]
def VU(l:List (List Nat×Int)):(itv l).length=l.length:=by simp[itv]
def akt(l:List (List Nat×Int))(i:Nat)(h:i<l.length):(itv l)[i]?=some (.agg [vs (l.getD i ([],0)).1,vi (l.getD i ([],0)).2]):=by simp[itv,h,List.getD]
abbrev fzt(l:List (List Nat×Int)):V:=.sl .fz 2 (itv l)
structure O where
 kind:Int
 name:List Nat
 other:List Nat
 names:List (List Nat)
 pk:Int
 pz:Int
 pd:Int
 ps:Int
 items:List (List Nat × Int)
 coins:List Nat
 exp:Int
 src:Int
 hnd:Int
 idx:Int
 cur:Int
 cnt:Int
 qk:Int
 qkey:List Nat
 qc:Int
 qn:Int
 qd:Int
 data:List Nat
end Go.Proofs.YtopbmdnbdpjheaaGreat
section
namespace Go.Proofs.YtopbmdnbdpjheaaGreat
open Go Go.Pg
def uv(l:List Int):List V:=l.map fun n=>V.c (.int .u64 n)
def F7(l:List Int):(uv l).length=l.length:=by simp[uv]
def ZM(l:List Int)(i:Nat)(h:i<l.length):(uv l)[i]?=some (.c (.int .u64 (l.getD i 0))):=by grind[uv]
def auX(l:List Int)(n:Int):uv l++[V.c (.int .u64 n)]=uv (l++[n]):=by simp[uv]
abbrev fzu(l:List Int):V:=.sl .fz 1 (uv l)
def OJ(l:List Int)(n:Int):iv l++[V.c (.int .i64 n)]=iv (l++[n]):=by simp[iv]
def VW(l:List Int)(i:Nat)(n:Int):(iv l).set i (V.c (.int .i64 n))=iv (l.set i n):=by simp_all[iv]
abbrev En:=List Nat×Int×Int
def ev(l:List En):List V:=l.map fun x=>V.agg [vs x.1,vi x.2.1,vi x.2.2]
def bJ(l:List En):(ev l).length=l.length:=by simp[ev]
def jP(l:List En)(i:Nat)(h:i<l.length):(ev l)[i]?=some (.agg [vs (l.getD i ([],0,0)).1,vi (l.getD i ([],0,0)).2.1,vi (l.getD i ([],0,0)).2.2]):=by grind[ev]
def uO(l:List En)(k:List Nat)(c e:Int):ev l++[V.agg [vs k,vi c,vi e]]=ev (l++[(k,c,e)]):=by simp[ev]
def GY(l:List En)(i:Nat)(k:List Nat)(c e:Int):(ev l).set i (V.agg [vs k,vi c,vi e])=ev (l.set i (k,c,e)):=by simp_all[ev]
def afM(l:List En)(n:Nat):(ev l).take n=ev (l.take n):=by simp_all[ev]
abbrev fzv(l:List En):V:=.sl .fz 3 (ev l)
def lv(l:List (List (List Nat))):List V:=l.map fun x=>fzs x
def kF(l:List (List (List Nat))):(lv l).length=l.length:=by simp[lv]
def uY(l:List (List (List Nat)))(i:Nat)(h:i<l.length):(lv l)[i]?=some (fzs (l.getD i [])):=by grind[lv]
def CY(l:List (List (List Nat)))(x:List (List Nat)):lv l++[fzs x]=lv (l++[x]):=by simp[lv]
def alG(l:List (List (List Nat)))(i:Nat)(x:List (List Nat)):(lv l).set i (fzs x)=lv (l.set i x):=by simp_all[lv]
def alH(l:List (List (List Nat)))(n:Nat):(lv l).take n=lv (l.take n):=by simp_all[lv]
abbrev fzl(l:List (List (List Nat))):V:=.sl .fz 1 (lv l)
section
variable (P:Program) (t:TypeId) (k:Nat) (xs:List V) (ik ik':IntKind) (a c:Int)
theorem QB(h:0<=c)(h1:c<=xs.length):slV P t (.sl .fz k xs) none (some (.c (.int ik c)))=if(elemT P t).bind (tsz P)=some k then some (.sl .fz k (xs.take c.toNat))else none:=by grind[Ld,bdV]
theorem Y3(h:0<=a)(h1:a<=xs.length):slV P t (.sl .fz k xs) (some (.c (.int ik a))) none=if(elemT P t).bind (tsz P)=some k then some (.sl .fz k (xs.drop a.toNat))else none:=by simp_all[Ld,bdV]
theorem Y2(h:0<=a)(h1:a<=c)(h2:c<=xs.length):slV P t (.sl .fz k xs) (some (.c (.int ik a))) (some (.c (.int ik' c)))=if(elemT P t).bind (tsz P)=some k then some (.sl .fz k ((xs.take c.toNat).drop a.toNat))else none:=by grind[Ld,bdV]
theorem ar4(e:Nat->V)(b:BX)(n:Nat)(h:Nat->V)(id:Nat)(lo hi:Option V):zf P ⟨e,b,n,h⟩ t id k xs lo hi=(slV P t (.sl .fz k xs) lo hi).map fun r=>(r,⟨bD (frz id) e,df (frz id) b,n,bD (frz id) h⟩):=rfl
theorem ajO(v:Value):isC (.c v)=true:=rfl
end
def pgv:=A8 QB Y3 Y2 ar4 ajO bJ bV F7 kF
structure Tl where
 t:Int
 i:Int
 b:Bool
structure Cm where
 d:Int
 z:Int
 s:Int
 c:List Int
 b:Bool
structure Ll where
 p:Int
 s:Int
 r:List Int
structure Tp where
 z:Int
 t:Int
 e:List En
 b:Bool
structure Fq where
 z:Int
 t:Int
 l:Int
 e:List En
 b:Bool
structure Rk where
 z:Int
 t:Int
 l:Int
 v:List (List (List Nat))
 b:Bool
structure Pm where
 k:Int
 z:Int
 d:Int
 s:Int
structure Sk where
 p:Pm
 tl:Tl
 cm:Cm
 ll:Ll
 tp:Tp
 fq:Fq
 rk:Rk
abbrev pmF(p:Pm):List V:=[vi p.k,vi p.z,vi p.d,vu p.s]
abbrev tlF(t:Tl):List V:=[vi t.t,vi t.i,vb t.b]
abbrev cmF(c:Cm):List V:=[vi c.d,vi c.z,vu c.s,fzi c.c,vb c.b]
abbrev llF(l:Ll):List V:=[vi l.p,vu l.s,fzi l.r]
abbrev tpF(t:Tp):List V:=[vi t.z,vi t.t,fzv t.e,vb t.b]
abbrev fqF(f:Fq):List V:=[vi f.z,vi f.t,vi f.l,fzv f.e,vb f.b]
abbrev rkF(r:Rk):List V:=[vi r.z,vi r.t,vi r.l,fzl r.v,vb r.b]
abbrev skF(s:Sk):List V:=[vi s.p.k,vi s.p.z,vi s.p.d,vu s.p.s,vi s.tl.t,vi s.tl.i,vb s.tl.b,vi s.cm.d,vi s.cm.z,vu s.cm.s,fzi s.cm.c,vb s.cm.b,vi s.ll.p,vu s.ll.s,fzi s.ll.r,vi s.tp.z,vi s.tp.t,fzv s.tp.e,vb s.tp.b,vi s.fq.z,vi s.fq.t,vi s.fq.l,fzv s.fq.e,vb s.fq.b,vi s.rk.z,vi s.rk.t,vi s.rk.l,fzl s.rk.v,vb s.rk.b]
def Tl.o:Tl:=⟨0,0,false⟩
def Cm.o:Cm:=⟨0,0,0,[],false⟩
def Ll.o:Ll:=⟨0,0,[]⟩
def Tp.o:Tp:=⟨0,0,[],false⟩
def Fq.o:Fq:=⟨0,0,0,[],false⟩
def Rk.o:Rk:=⟨0,0,0,[],false⟩
def Pm.o:Pm:=⟨0,0,0,0⟩
def Sk.o:Sk:=⟨Pm.o,Tl.o,Cm.o,Ll.o,Tp.o,Fq.o,Rk.o⟩
end Go.Proofs.YtopbmdnbdpjheaaGreat
end
section
namespace Go.Pg
open Go
section
variable {P:Program} [Tb P] {s:St} {d:Option Nat} {ty:TypeId} {pos:String} {af:Array Edge} {g:Option (Nat × Bool)} {K:Kd->St->Prop}
theorem atB(t:TypeId):aB P s ⟨d,.makeMap t none,ty,pos,af,g⟩ K=dN (C9 P s t) d .x K:=by simp[aB,kqo,jr,kx,qv,rv,xv,zv,nX,fZ,dM]
def mhK(x:V)(d:Option Nat)(f:Nat->Option (V×St))(K:Kd->St->Prop):Prop :=
 match x with
 | .mh false b=>dN (f b) d .x K
 |_=>False
theorem ame(b:Nat)(f:Nat->Option (V×St)):mhK (.mh false b) d f K=dN (f b) d .x K:=rfl
theorem WO(x:V)(f:Nat->Option (V×St)):dN (match x with | .mh false b=>f b|_=>none) d .x K=mhK x d f K:=by
 cases x with
 |mh i b=>cases i<;>rfl
 |_=>rfl
def mhR(s:St)(x:V)(d:Option Nat)(f:Nat->Option V)(K:Kd->St->Prop):Prop :=
 match x with
 | .mh false b=>mi (f b) s d K
 |_=>False
theorem amf(b:Nat)(f:Nat->Option V):mhR s (.mh false b) d f K=mi (f b) s d K:=rfl
theorem amg(x:V)(f:Nat->Option V):mi (match x with | .mh false b=>f b|_=>none) s d K=mhR s x d f K:=by
 cases x with
 |mh i b=>cases i<;>rfl
 |_=>rfl
theorem atz(t:TypeId)(x i:Operand)(ok:Bool):aB P s ⟨d,.lookup t x i ok,ty,pos,af,g⟩ K=mhR s (s.ev x) d (fun b=>lkB P s t b (s.ev i) ok) K:=by simp only[aB,kqo,jr,qv,xv,zv,nX,dM,sG,uF];exact amg _ _
theorem atD(t:TypeId)(m k x:Operand):aB P s ⟨d,.mapUpdate t m k x,ty,pos,af,g⟩ K=mhK (s.ev m) d (fun b=>(rH P s t b (s.ev k) (s.ev x)).map fun s'=>(.top,s')) K:=by simp only[aB,kqo,jr,qv,rv,zv,nX,fZ,dM,sG,uF];exact WO _ _
theorem atp(x k:Operand)(t tk:TypeId):aB P s ⟨d,.call {callee:=.builtin .delete,args:=#[x,k],argTypes:=#[t,tk]},ty,pos,af,g⟩ K=mhK (s.ev x) d (fun b=>(yc P s t b (s.ev k)).map fun s'=>(.tup [],s')) K:=by simp only[aB,kqo,jr,qv,rv,zv,nX,fZ,dM,sG,uF];exact WO _ _
end
section
variable (P:Program) (e:Nat->V) (b:BX) (n:Nat) (h:Nat->V) (t:TypeId) (c:Nat) (q:Nat × List Me) (x y:V)
theorem amo:C9 P ⟨e,b,n,h⟩ t=(ny P t).map fun _=>(.mh false n,⟨e,upd b n (some (t,mpC 0 [])),n+1,h⟩):=rfl
theorem alq(ok:Bool):lkB P ⟨e,b,n,h⟩ t c y ok=(b c).bind fun x=>(mpQ x.2).bind fun q=>atM P t q y ok:=rfl
theorem amr:rH P ⟨e,b,n,h⟩ t c y x=(b c).bind fun z=>(mpQ z.2).bind fun q=>(upM P t q y x).map fun r=>⟨e,upd b c (some (z.1,mpC r.1 r.2)),n,h⟩:=rfl
theorem aeS:yc P ⟨e,b,n,h⟩ t c y=(b c).bind fun z=>(mpQ z.2).bind fun q=>(dlM P t q y).map fun r=>⟨e,upd b c (some (z.1,mpC r.1 r.2)),n,h⟩:=rfl
theorem alv:lnB P ⟨e,b,n,h⟩ t c=(b c).bind fun z=>(mpQ z.2).bind fun q=>(ny P t).map fun _=>.c (.int .i64 q.2.length):=rfl
theorem abP(k:Value):atM P t q (.c k) false=(ny P t).bind fun p=>if rJ P p.1 k=true then(mIx q.2 k 0).bind fun r=>(lV P p.2).map fun z=>AA r z else none:=rfl
theorem abS(k:Value):atM P t q (.c k) true=(ny P t).bind fun p=>if rJ P p.1 k=true then(mIx q.2 k 0).bind fun r=>(lV P p.2).map fun z=>.tup [AA r z,.c (.bool r.isSome)]else none:=rfl
theorem alK(j:Nat)(z:Value):AA (some (j,x)) z=x:=rfl
theorem alJ(z:Value):AA none z=jd z:=rfl
theorem auT(k:Value):upM P t q (.c k) x=(ny P t).bind fun p=>if rJ P p.1 k=true then yN q.2 q.1 k x else none:=rfl
theorem aeU(k:Value):dlM P t q (.c k)=(ny P t).bind fun p=>if rJ P p.1 k=true then(OX q.2 k).map fun r=>(q.1,r)else none:=rfl
theorem am9(k:IntKind)(i:Int):rJ P t (.int k i)=(kS P t).isSome:=by unfold rJ kS;grind
theorem Pi(z:ByteArray):rJ P t (.string z)=iU P t:=by unfold rJ iU;grind
theorem aa9(p:Tag->Bool)(r:Nat->Bool)(tp:Bool)(i:Bool):V.any p r tp (.mh i c)=r c:=rfl
theorem al4(τ:Tag->Tag)(ρ:Nat->Nat)(i:Bool):V.map τ ρ (.mh i c) = .mh i (ρ c):=rfl
theorem aea(i:Bool):V.cs (.mh i c)=some [.mh i c]:=rfl
theorem ani(i:Bool):V.one (.mh i c)=true:=rfl
theorem ajo(i:Bool):V.ids (.mh i c)=[]:=rfl
end
def pgp:=A8 @atB @atz @atD @atp @ame @amf @alc amo (A8 alq amr aeS alv abP abS alK alJ (A8 auT aeU am9 Pi aa9 al4 aea ani (aI ajo @tH)))
end Go.Pg
end
namespace Go.Proofs.YtopbmdnbdpjheaaGreat
open Go Go.Pg
def ckP(z:Nat)(b:List Nat)(n:Nat):List (List Nat):=(List.range n).map fun i=>(b.drop (i*z)).take z
abbrev pgV(l:List (List Nat)):List V:=l.map fun p=>.sl .fz 1 (bv p)
def X5(z:Nat)(b:List Nat)(n:Nat):pgV (ckP z b n)++[.sl .fz 1 (bv ((b.drop (n*z)).take z))]=pgV (ckP z b (n+1)):=by simp[ckP,BI]
def sN(z:Nat)(b:List Nat)(n:Nat):(ckP z b n).length=n:=by simp[ckP]
def nPg(z:Nat)(b:List Nat):Nat:=(b.length+z-1) / z
theorem Dc{z:Nat}{b:List Nat}{i:Nat}(h:0<z):i<nPg z b↔i*z<b.length:=by grind[nPg,Nat.lt_div_iff_mul_lt]
def TF(b:List Nat)(z i:Nat)(h:i*z<b.length):(b.take (min (i*z+z) b.length)).drop (i*z)=(b.drop (i*z)).take z:=by grind[List.drop_take,Nat.le_total,Nat.min_eq_left,Nat.min_eq_right,List.take_of_length_le]
def Ti(z:Nat)(b:List Nat):∀n,(ckP z b n).flatten=b.take (n*z)
 |0=>by simp[ckP]
 |n+1=>by have i:=Ti z b n;rw[ckP,BI,nJ,aas,<-ckP,i,nK,List.take_add];simp
theorem MW(z:Nat)(b:List Nat)(a:0<z):(ckP z b (nPg z b)).flatten=b:=by rw[Ti,oz];exact Nat.le_of_not_lt fun h=>Nat.lt_irrefl _ ((Dc (i:=nPg z b) (b:=b) a).2 h)
def GM(z:Nat)(b:List Nat)(n:Nat):∀p∈ckP z b n,p.length<=z:=by grind[ckP]
def QC(z:Int)(b:List Nat):V:=if z<1\/1024<z then .tup [.c (.slice none 0 0),vi 5]else .tup [.sl (.own 0 60) 1 (pgV (ckP z.toNat b (nPg z.toNat b))),vi 0]
def Uu(l:List (List Nat))(h:∀p∈l,p.length<=1024):∀i,(l.take i).flatten.length<=1024*i:=by
 intro i
 induction i with
 |zero=>simp
 |succ i a=>grind[List.take_succ_eq_append_getElem,List.take_of_length_le]
def V7(l:List (List Nat))(b:∀p∈l,p.length<=1024)(hl:l.length<=100000)(i:Nat)(h:i<l.length):(pgV l)[i]?=some (.sl .fz 1 (bv (l.getD i [])))/\(l.getD i []).length<=1024/\bv (l.take i).flatten++bv (l.getD i [])=bv (l.take (i+1)).flatten/\Fits ((bv (l.take i).flatten).length+(bv (l.getD i [])).length) 1:=by
 have a:=Uu l b;have hm:(l.getD i []).length<=1024:=by rw[gW,dY h];exact b _ (ji h)
 have hj:bv (l.take i).flatten++bv (l.getD i [])=bv (l.take (i+1)).flatten:=by grind[dE,List.take_succ_eq_append_getElem]
 have c:Fits ((bv (l.take i).flatten).length+(bv (l.getD i [])).length) 1:=by have:=a i;rw[aA,aA];exact⟨by simp only[maxLen];omega,by omega⟩
 grind
def ahJ(l:List (List Nat))(hl:l.length<=100000)(d:∀p∈l,p.length<=1024):Gxx 85 [.sl .fz 1 (pgV l)] (.sl .fz 1 (bv l.flatten)):=by
 refine Good.fzr (r:=.sl (.own 0 5) 1 (bv l.flatten)) ?_ rfl (.inl (.inl rfl));refine gI oW ?_;(repeat' first|refine wQ @aj.{0,0} ?_|refine tS ?_ ?_<;>intro a|fail);refine aJ (fun i:Nat=>mkA [(0,.sl .fz 1 (pgV l)),(3,.sl (.own 0 5) 1 (bv (l.take i).flatten)),(4,vi i)] [] 1 (fun _=>.top)) (fun i=>i<=l.length) (fun i=>l.length-i) 0 [] [] ?_ (ax _) ?_
 .exact kX;all_goals first|exact iT rfl|skip
 .rintro i hi;rcases au i l.length with h|c
  .obtain⟨hg,hm,hj,b⟩:=V7 l d hl i h;(repeat' first|refine wQ (Ad @aj.{0,0} @hg @hj b) ?_|refine tS ?_ ?_<;>intro a|fail);exact bX (i+1) [0] [] h
  .have:i=l.length:=Om;subst this;(repeat' first|refine wQ (aI @aj.{0,0} @gB.{0}) ?_|refine tS ?_ ?_<;>intro a|fail);exact rE [0]
theorem Nj(b:List Nat)(i m:Nat)(h2:i<=m)(h3:m<=b.length):slV Tryz.prog 60 (.sl .fz 1 (bv b)) (some (vi i)) (some (vi m))=some (.sl .fz 1 (bv ((b.take m).drop i))):=by rw[Y2 _ _ _ _ _ _ _ _ Om Om (by rw[aA];omega),ah Za,fC,fC,SI,adq]
def MQ:BO Tryz.prog 117=false:=Za
def N7(b:List Nat)(z:Int)(hb:b.length<=1048576):Gxx 109 [.sl .fz 1 (bv b),vi z] (QC z b):=by
 unfold QC;by_cases l:z<1\/1024<z
 .rw[ah l];by_cases r:z<1
  .refine gI oW ?_;(repeat' first|refine wO ?_|refine tS ?_ ?_<;>intro c|fail);exact rE []
  .refine gI oW ?_;(repeat' first|refine wO ?_|refine tS ?_ ?_<;>intro c|fail);exact rE []
 .rw[ag l];obtain⟨n,rfl⟩:=Rn (show 0<=z by omega);simp only[fC];have k:0<n:=Om;refine gI oW ?_;(repeat' first|refine wO ?_|refine tS ?_ ?_<;>intro c|fail);refine aJ (fun i:Nat=>mkA [(0,.sl .fz 1 (bv b)),(1,vi n),(6,.sl (.own 0 60) 1 (pgV (ckP n b i))),(7,vi ((i*n:Nat):Int))] [] 1 (fun _=>.top)) (fun i=>i<=nPg n b) (fun i=>nPg n b-i) 0 [] [] ?_ (ax _) ?_
  .exact kX;all_goals first|exact iT rfl|skip
  .rintro i hi;rcases au i (nPg n b)with a|q
   .have h1:=(Dc k).1 a;have c:=TF b n i h1;have g:(i*n:Nat)+(n:Int)=(((i+1)*n:Nat):Int):=by rw[nK];omega
    have f:min (((i+1)*n:Nat):Int) (b.length:Int)=((min (i*n+n) b.length:Nat):Int):=by rw[<-g];omega
    have h2:i*n<=min (i*n+n) b.length:=Om;have h3:min (i*n+n) b.length<=b.length:=Om;generalize min (i*n+n) b.length=m at *;have d:=(Nj b (i*n) m h2 h3).trans (by rw[c]);have hl:((b.drop (i*n)).take n).length<=1024:=by simp only[bI];omega
    have p:Fits (bv ((b.drop (i*n)).take n)).length 1:=by rw[aA];exact⟨by simp only[maxLen];omega,by omega⟩
    have j:Fits ((pgV (ckP n b i)).length+1) 24:=by have:i<=i*n:=Nat.le_mul_of_pos_right i k;rw[aj,sN];exact⟨by simp only[maxLen];omega,by omega⟩
    (repeat' first|refine wQ (A8 @aA f d @EG @MQ @X5 p j g) ?_|refine tS ?_ ?_<;>intro c|fail);exact bX (i+1) [0] [] a
   .have h1:¬i*n<b.length:=fun h=>by have:=(Dc k).2 h;omega
    have:i=nPg n b:=Om;subst this;(repeat' first|refine wQ @aA ?_|refine tS ?_ ?_<;>intro c|fail);exact rE [0]
structure Vr where
 f:Int
 t:Int
 z:Int
 p:List Int
def vr0:Vr:=⟨0,0,0,[]⟩
abbrev vrF(v:Vr):List V:=[vi v.f,vi v.t,vi v.z,.sl .fz 1 (v.p.map vi)]
abbrev vrV(l:List Vr):List V:=l.map fun v=>.agg (vrF v)
def rX(l:List Vr)(i:Nat)(h:i<l.length):(vrV l)[i]?=some (.agg [vi (l.getD i vr0).f,vi (l.getD i vr0).t,vi (l.getD i vr0).z,.sl .fz 1 ((l.getD i vr0).p.map vi)]):=by simp[h,List.getD]
def gQ(f t c:Int):Bool:=decide (f<=c)&&(decide (c<t)||decide (t=0))
def fvA(c:Int):List Vr->Nat->Int×Bool
 |[],_=>(0,false)
 |v::r,i=>if gQ v.f v.t c=true then(i,true)else fvA c r (i+1)
def UQ(c:Int)(l:List Vr)(i:Nat)(h:i<l.length):fvA c (l.drop i) i=if gQ (l.getD i vr0).f (l.getD i vr0).t c=true then((i:Int),true)else fvA c (l.drop (i+1)) (i+1):=by rw[zx h,gW,dY h];rfl
def Hf(f t c:Int):Gxx 210 [vi f,vi t,vi c] (vb (gQ f t c)):=by
 unfold gQ;by_cases h1:f<=c
 .by_cases h2:c<t
  .simp only[h1,h2,decide_true,Bool.true_or,xJ];refine gI oW ?_;(repeat' first|refine wO ?_|refine tS ?_ ?_<;>intro h|fail);exact rE []
  .simp only[h1,h2,decide_true,decide_false,Bool.false_or,qi];refine gI oW ?_;(repeat' first|refine wO ?_|refine tS ?_ ?_<;>intro h|fail);exact rE []
 .simp only[h1,decide_false,nH];refine gI oW ?_;(repeat' first|refine wO ?_|refine tS ?_ ?_<;>intro h|fail);exact rE []
def ahx(l:List Vr)(c:Int)(hl:l.length<=1000000):Gxx 184 [.sl .fz 4 (vrV l),vi c] (.tup [vi (fvA c l 0).1,vb (fvA c l 0).2]):=by
 generalize d:fvA c l 0=E;refine gI oW ?_;(repeat' first|refine wO ?_|refine tS ?_ ?_<;>intro a|fail);refine aJ (fun i:Nat=>mkA [(0,.sl .fz 4 (vrV l)),(1,vi c),(6,vi i)] [] 0 (fun _=>.top)) (fun i=>i<=l.length/\fvA c (l.drop i) i=E) (fun i=>l.length-i) 0 [] [] ?_ ⟨ax _,d⟩ ?_
 .exact kX
 .rintro i ⟨hi,he⟩;rcases au i l.length with h|f
  .have hg:=rX l i h;rw[UQ c l i h]at he;have k:=Hf (l.getD i vr0).f (l.getD i vr0).t c;cases b:gQ (l.getD i vr0).f (l.getD i vr0).t c
   .rw[b]at he k;rw[ag Aa]at he;(repeat' first|refine wP (aI @aj.{0,0} @hg) k ?_|refine tS ?_ ?_<;>intro a|fail);exact bX (i+1) [] [] ⟨h,he⟩
   .rw[b]at he k;rw[ah rfl]at he;subst he;(repeat' first|refine wP (aI @aj.{0,0} @hg) k ?_|refine tS ?_ ?_<;>intro a|fail);exact rE []
  .have:i=l.length:=Om;subst this;rw[jM]at he;have he:(0,false)=E:=he;subst he;(repeat' first|refine wQ @aj.{0,0} ?_|refine tS ?_ ?_<;>intro a|fail);exact rE []
def aof(l:List Vr)(c:Int)(hl:l.length<=1000000):Gxx 130 [.sl .fz 4 (vrV l),vi c] (.tup [vi (fvA c l 0).1,vb (fvA c l 0).2]):=by
 generalize b:fvA c l 0=E;refine gI oW ?_;(repeat' first|refine wQ @aj.{0,0} ?_|refine tS ?_ ?_<;>intro a|fail);refine aJ (fun i:Nat=>mkA [(1,vi c),(8,.sl .fz 4 (vrV l)),(9,vi l.length),(10,vi i)] [] 0 (fun _=>.top)) (fun i=>i<=l.length/\fvA c (l.drop i) i=E) (fun i=>l.length-i) 0 [] [] ?_ ⟨ax _,b⟩ ?_
 .exact kX
 .rintro i ⟨hi,he⟩;rcases au i l.length with h|d
  .have hg:=rX l i h;rw[UQ c l i h]at he;generalize l.getD i vr0=v at *;obtain⟨f,t,z,p⟩:=v;simp only at hg he;unfold gQ at he;by_cases h1:f<=c
   .by_cases h2:c<t
    .simp only[h1,h2,decide_true,Bool.true_or,xJ,if_true]at he;subst he;(repeat' first|refine wQ (aI @aj.{0,0} @hg) ?_|refine tS ?_ ?_<;>intro a|fail);exact rE []
    .by_cases h3:t=0
     .simp only[h1,h2,h3,decide_true,Bool.or_true,xJ,if_true]at he;subst he;(repeat' first|refine wQ (aI @aj.{0,0} @hg) ?_|refine tS ?_ ?_<;>intro a|fail);exact rE []
     .simp only[h1,h2,h3,decide_true,decide_false,Bool.or_self,vV,oq,if_false]at he;(repeat' first|refine wQ (aI @aj.{0,0} @hg) ?_|refine tS ?_ ?_<;>intro a|fail);exact bX (i+1) [] [] ⟨h,he⟩
   .simp only[h1,decide_false,nH,oq,if_false]at he;(repeat' first|refine wQ (aI @aj.{0,0} @hg) ?_|refine tS ?_ ?_<;>intro a|fail);exact bX (i+1) [] [] ⟨h,he⟩
  .have:i=l.length:=Om;subst this;rw[jM]at he;have he:(0,false)=E:=he;subst he;(repeat' first|refine wQ @aj.{0,0} ?_|refine tS ?_ ?_<;>intro a|fail);exact rE []
structure Bd where
 n:List Nat
 o:Int
 f:Int
 t:Int
def bd0:Bd:=⟨[],0,0,0⟩
abbrev bdF(b:Bd):List V:=[vs b.n,vi b.o,vi b.f,vi b.t]
abbrev aS(l:List Bd):List V:=l.map fun b=>.agg (bdF b)
def jZ(l:List Bd)(i:Nat)(h:i<l.length):(aS l)[i]?=some (.agg [vs (l.getD i bd0).n,vi (l.getD i bd0).o,vi (l.getD i bd0).f,vi (l.getD i bd0).t]):=by simp[h,List.getD]
def opA(k:List Nat):List Bd->Nat->Int
 |[],_ => -1
 |x::r,i=>if sB x.n=sB k/\x.t=0 then i else opA k r (i+1)
def ann(k:List Nat)(l:List Bd)(i:Nat)(h:i<l.length):opA k (l.drop i) i=if sB (l.getD i bd0).n=sB k/\(l.getD i bd0).t=0 then(i:Int)else opA k (l.drop (i+1)) (i+1):=by rw[zx h,gW,dY h];rfl
def Oh(l:List Bd)(k:List Nat)(hl:l.length<=1000000):Gxx 220 [.sl .fz 4 (aS l),vs k] (vi (opA k l 0)):=by
 generalize f:opA k l 0=E;refine gI oW ?_;(repeat' first|refine wO ?_|refine tS ?_ ?_<;>intro c|fail);refine aJ (fun i:Nat=>mkA [(0,.sl .fz 4 (aS l)),(1,vs k),(5,vi i)] [] 0 (fun _=>.top)) (fun i=>i<=l.length/\opA k (l.drop i) i=E) (fun i=>l.length-i) 0 [] [] ?_ ⟨ax _,f⟩ ?_
 .exact kX
 .rintro i ⟨hi,he⟩;rcases au i l.length with a|g
  .have hg:=jZ l i a;rw[ann k l i a]at he;by_cases b:sB (l.getD i bd0).n=sB k
   .by_cases d:(l.getD i bd0).t=0
    .rw[ah ⟨b,d⟩]at he;subst he;(repeat' first|refine wQ (Ad @aj.{0,0} @hg b d) ?_|refine tS ?_ ?_<;>intro c|fail);exact rE []
    .rw[ag (fun h=>d h.2)]at he;(repeat' first|refine wQ (Ac @aj.{0,0} @hg b) ?_|refine tS ?_ ?_<;>intro c|fail);exact bX (i+1) [] [] ⟨a,he⟩
   .rw[ag (fun h=>b h.1)]at he;(repeat' first|refine wQ (Ac @aj.{0,0} @hg b) ?_|refine tS ?_ ?_<;>intro c|fail);exact bX (i+1) [] [] ⟨a,he⟩
  .have:i=l.length:=Om;subst this;rw[jM]at he;have he : -1=E:=he;subst he;(repeat' first|refine wQ @aj.{0,0} ?_|refine tS ?_ ?_<;>intro c|fail);exact rE []
def lkA(k:List Nat)(c:Int):List Bd->Int×Bool
 |[]=>(0,false)
 |x::r=>if sB x.n=sB k/\gQ x.f x.t c=true then(x.o,true)else lkA k c r
def Wn(k:List Nat)(c:Int)(l:List Bd)(i:Nat)(h:i<l.length):lkA k c (l.drop i)=if sB (l.getD i bd0).n=sB k/\gQ (l.getD i bd0).f (l.getD i bd0).t c=true then((l.getD i bd0).o,true)else lkA k c (l.drop (i+1)):=by rw[zx h,gW,dY h];rfl
def NW(l:List Bd)(k:List Nat)(c:Int)(hl:l.length<=1000000):Gxx 182 [.sl .fz 4 (aS l),vs k,vi c] (.tup [vi (lkA k c l).1,vb (lkA k c l).2]):=by
 generalize j:lkA k c l=E;refine gI oW ?_;(repeat' first|refine wO ?_|refine tS ?_ ?_<;>intro d|fail);refine aJ (fun i:Nat=>mkA [(0,.sl .fz 4 (aS l)),(1,vs k),(2,vi c),(8,vi i)] [] 0 (fun _=>.top)) (fun i=>i<=l.length/\lkA k c (l.drop i)=E) (fun i=>l.length-i) 0 [] [] ?_ ⟨ax _,j⟩ ?_
 .exact kX
 .rintro i ⟨hi,he⟩;rcases au i l.length with a|m
  .have hg:=jZ l i a;rw[Wn k c l i a]at he;have f:=Hf (l.getD i bd0).f (l.getD i bd0).t c;by_cases b:sB (l.getD i bd0).n=sB k
   .cases g:gQ (l.getD i bd0).f (l.getD i bd0).t c
    .rw[g]at he f;rw[ag (fun h=>by cases h.2)]at he;(repeat' first|refine wP (Ac @aj.{0,0} @hg b) f ?_|refine tS ?_ ?_<;>intro d|fail);exact bX (i+1) [] [] ⟨a,he⟩
    .rw[g]at he f;rw[ah ⟨b,rfl⟩]at he;subst he;(repeat' first|refine wP (Ac @aj.{0,0} @hg b) f ?_|refine tS ?_ ?_<;>intro d|fail);exact rE []
   .rw[ag (fun h=>b h.1)]at he;(repeat' first|refine wQ (Ac @aj.{0,0} @hg b) ?_|refine tS ?_ ?_<;>intro d|fail);exact bX (i+1) [] [] ⟨a,he⟩
  .have:i=l.length:=Om;subst this;rw[jM]at he;have he:(0,false)=E:=he;subst he;(repeat' first|refine wQ @aj.{0,0} ?_|refine tS ?_ ?_<;>intro d|fail);exact rE []
def Oe(l:List Bd)(c:Int)(hl:l.length<=1000000)(hv:∀i,i<l.length->(l.getD i bd0).f<=c/\(l.getD i bd0).t<=c):Gxx 213 [.sl .fz 4 (aS l),vi c] (vb false):=by
 refine gI oW ?_;(repeat' first|refine wO ?_|refine tS ?_ ?_<;>intro a|fail);refine aJ (fun i:Nat=>mkA [(0,.sl .fz 4 (aS l)),(1,vi c),(5,vi i)] [] 0 (fun _=>.top)) (fun i=>i<=l.length) (fun i=>l.length-i) 0 [] [] ?_ (ax _) ?_
 .exact kX
 .rintro i hi;rcases au i l.length with h|b
  .have hg:=jZ l i h;obtain⟨h1,h2⟩:=hv i h;(repeat' first|refine wQ (aI @aj.{0,0} @hg) ?_|refine tS ?_ ?_<;>intro a|fail);exact bX (i+1) [] [] h
  .have:i=l.length:=Om;subst this;(repeat' first|refine wQ @aj.{0,0} ?_|refine tS ?_ ?_<;>intro a|fail);exact rE []
def is9:iU Tryz.prog 9=true:=Za
def it5:kS Tryz.prog 5=some .u8:=Za
def ixs(l:List Nat)(k:IntKind)(n:Int)(ho:oct l)(a:0<=n)(h:n<l.length):ixV Tryz.prog 9 (.c (.string (sB l))) (.c (.int k n))=some (.c (.int .u8 (l.getD n.toNat 0:Nat))):=by unfold ixV;simp only;rw[ah ⟨is9,a,by rw[mG];exact h⟩,KX ho]
theorem xh(n:Int)(h : -9223372036854775808<=n/\n<=9223372036854775807):IntKind.i64.wrap n=n:=IntWalk.i64_in n h
theorem o7(b:Bool):unV .not (.c (.bool b))=some (.c (.bool (!b))):=rfl
def bt(c a b:Nat):Bool:=decide (a<=c)&&decide (c<=b)
def dle(a b:Nat):decide ((a:Int)<=(b:Int))=decide (a<=b):=by
 by_cases h:a<=b
 .rw[eU h,eU Om]
 .rw[dK h,dK Om]
def Ol(c a b:Nat):Gxx 209 [.c (.int .u8 (c:Int)),.c (.int .u8 (a:Int)),.c (.int .u8 (b:Int))] (.c (.bool (bt c a b))):=by
 refine pR (Ci mix) Tryz.func209 rfl Tryz.results209 rfl Za (fP Za) ?_;have d:=dle a c;have f:=dle c b;unfold bt;cases h:decide (a<=c)<;>rw[h]at d
 all_goals
  simp only[Tryz.f209,pgs,pgl,pgx,pgf,Nat.reduceEqDiff,reduceIte,d,f]
  refine mD [] _ (aW _ _ _) .nil ?_ ?_
  .simp only[pgs,pgl,pgx,pgf,Nat.reduceEqDiff,reduceIte]
  .simp only[pgs,pgl,pgx,pgf,Nat.reduceEqDiff,reduceIte]
def Vw(c:Nat):Gxx 197 [.c (.int .u8 (c:Int))] (.c (.bool (bt c 97 122))):=by
 refine pR (Ci mix) Tryz.func197 rfl Tryz.results197 rfl Za (fP Za) ?_;have a:decide ((97:Int)<=(c:Int))=decide (97<=c):=dle 97 c;have b:decide ((c:Int)<=122)=decide (c<=122):=dle c 122;unfold bt;cases h:decide (97<=c)<;>rw[h]at a
 all_goals
  simp only[Tryz.f197,pgs,pgl,pgx,pgf,Nat.reduceEqDiff,reduceIte,a,b]
  refine mD [] _ (aW _ _ _) .nil ?_ ?_
  .simp only[pgs,pgl,pgx,pgf,Nat.reduceEqDiff,reduceIte]
  .simp only[pgs,pgl,pgx,pgf,Nat.reduceEqDiff,reduceIte]
def aiE(c:Nat):Gxx 198 [.c (.int .u8 (c:Int))] (.c (.bool (bt c 48 57))):=by
 refine pR (Ci mix) Tryz.func198 rfl Tryz.results198 rfl Za (fP Za) ?_;have a:decide ((48:Int)<=(c:Int))=decide (48<=c):=dle 48 c;have b:decide ((c:Int)<=57)=decide (c<=57):=dle c 57;unfold bt;cases h:decide (48<=c)<;>rw[h]at a
 all_goals
  simp only[Tryz.f198,pgs,pgl,pgx,pgf,Nat.reduceEqDiff,reduceIte,a,b]
  refine mD [] _ (aW _ _ _) .nil ?_ ?_
  .simp only[pgs,pgl,pgx,pgf,Nat.reduceEqDiff,reduceIte]
  .simp only[pgs,pgl,pgx,pgf,Nat.reduceEqDiff,reduceIte]
def oL(l:List Nat):Bool:=decide (1<=l.length)&&decide (l.length<=32)
def Oj(l:List Nat):Gxx 295 [.c (.string (sB l))] (.c (.bool (oL l))):=by
 refine pR (Ci mix) Tryz.func295 rfl Tryz.results295 rfl Za (fP Za) ?_;have a:decide ((1:Int)<=(l.length:Int))=decide (1<=l.length):=dle 1 _;have b:decide ((l.length:Int)<=32)=decide (l.length<=32):=dle _ 32;unfold oL;cases h:decide (1<=l.length)<;>rw[h]at a
 all_goals
  simp only[Tryz.f295,pgs,pgl,pgx,pgf,Nat.reduceEqDiff,reduceIte,is9,mG,a,b]
  refine mD [] _ (aW _ _ _) .nil ?_ ?_
  .simp only[pgs,pgl,pgx,pgf,Nat.reduceEqDiff,reduceIte]
  .simp only[pgs,pgl,pgx,pgf,Nat.reduceEqDiff,reduceIte]
def EL(l:List Nat):Gxx 223 [.c (.string (sB l))] (.c (.bool (oL l))):=by
 refine pR (Ci mix) Tryz.func223 rfl Tryz.results223 rfl Za (fP Za) ?_;have a:decide ((1:Int)<=(l.length:Int))=decide (1<=l.length):=dle 1 _;have b:decide ((l.length:Int)<=32)=decide (l.length<=32):=dle _ 32;unfold oL;cases h:decide (1<=l.length)<;>rw[h]at a
 all_goals
  simp only[Tryz.f223,pgs,pgl,pgx,pgf,Nat.reduceEqDiff,reduceIte,is9,mG,a,b]
  refine mD [] _ (aW _ _ _) .nil ?_ ?_
  .simp only[pgs,pgl,pgx,pgf,Nat.reduceEqDiff,reduceIte]
  .simp only[pgs,pgl,pgx,pgf,Nat.reduceEqDiff,reduceIte]
def nmC(c:Nat):Bool:=bt c 97 122||bt c 48 57||c == 45||c == 46
def iK(l:List Nat):Bool:=decide (1<=l.length)&&decide (l.length<=16)&&bt (l.getD 0 0) 97 122&&l.all nmC
def neI(c k:Nat):((c:Int) != (k:Int))=(c != k):=by rw[DY,bne_iff_ne,bne_iff_ne];omega
def zJ{p:Nat->Bool}{l:List Nat}{i:Nat}(h:i<l.length)(ha:(l.take i).all p=true)(hp:p (l.getD i 0)=true):(l.take (i+1)).all p=true:=by
 rw[mP h,List.all_append,ha];have:l.getD i 0=l[i]:=by simp[List.getD,h]
 rw[this]at hp;simp[hp]
def RZ{p:Nat->Bool}{l:List Nat}{i:Nat}(h:i<l.length)(hp:p (l.getD i 0)=false):l.all p=false:=by
 have:l.getD i 0=l[i]:=by simp[List.getD,h]
 rw[this]at hp;rw[<-Rl,lM];intro hx;have:=hx _ (ji h);rw[hp]at this;cases this
def yC(l:List Nat)(ho:oct l):Gxx 102 [.c (.string (sB l))] (.c (.bool (iK l))):=by
 refine pR (Ci mix) Tryz.func102 rfl Tryz.results102 rfl Za (fP Za) ?_;unfold iK;rcases au l.length 1 with h1|h1
 .have j:decide ((l.length:Int)<1)=true:=eU Om;rw[dK (show ¬1<=l.length by omega)];simp only[Tryz.f102,pgs,pgl,pgx,pgf,Nat.reduceEqDiff,reduceIte,is9,mG,j];refine mD [] _ (aW _ _ _) .nil ?_ ?_
  .simp only[pgs,pgl,pgx,pgf,Nat.reduceEqDiff,reduceIte]
  .simp only[pgs,pgl,pgx,pgf,Nat.reduceEqDiff,reduceIte]
 have j:decide ((l.length:Int)<1)=false:=dK Om;rw[eU h1];rcases au 16 l.length with h2|h2
 .have p:decide ((16:Int)<(l.length:Int))=true:=eU Om;rw[dK (show ¬l.length<=16 by omega)];simp only[Tryz.f102,pgs,pgl,pgx,pgf,Nat.reduceEqDiff,reduceIte,is9,mG,j,p];refine mD [] _ (aW _ _ _) .nil ?_ ?_
  .simp only[pgs,pgl,pgx,pgf,Nat.reduceEqDiff,reduceIte]
  .simp only[pgs,pgl,pgx,pgf,Nat.reduceEqDiff,reduceIte]
 have p:decide ((16:Int)<(l.length:Int))=false:=dK Om;rw[eU h2];simp(disch:=first|assumption|omega) only[Tryz.f102,pgs,pgl,pgx,pgf,Nat.reduceEqDiff,reduceIte,is9,mG,j,p,ixs,Int.reduceToNat];have t:=Vw (l.getD 0 0);cases h3:bt (l.getD 0 0) 97 122<;>rw[h3]at t
 .refine oH _ t rfl rfl rfl rfl ?_;simp only[pgs,pgl,pgx,pgf,Nat.reduceEqDiff,reduceIte,o7];refine mD [] _ (aW _ _ _) .nil ?_ ?_
  .simp only[pgs,pgl,pgx,pgf,Nat.reduceEqDiff,reduceIte]
  .simp only[pgs,pgl,pgx,pgf,Nat.reduceEqDiff,reduceIte]
 refine oH _ t rfl rfl rfl rfl ?_;simp only[pgs,pgl,pgx,pgf,Nat.reduceEqDiff,reduceIte,o7,is9,mG];refine OW (fun i=>mkS [.c (.string (sB l)),.top,.top,.top,.top,.top,.top,.top,.top,.top,.top,.top,.top,.top,.top,.top,.top,.top,.top,.top,.c (.int .i64 l.length),.c (.int .i64 (i:Nat))] 0) (fun i=>i<=l.length/\(l.take i).all nmC=true) (fun i=>l.length-i) 0 [] [] ?_ ⟨ax _,rfl⟩ ?_
 .refine xw ?_ .nil (az _);simp only[pgs,pgl,pgx,pgf,vZ,wo,nS,ku,jS,Nat.reduceEqDiff,reduceIte,Nat.reduceAdd];exact IY (ku _ _ _)
 .rintro i ⟨hi,h⟩ s y;simp only[WV,pgs,pgl,Nat.reduceAdd]at y;subst y;rcases au i l.length with b|A
  .have q:decide ((i:Int)<(l.length:Int))=true:=eU Om;simp(disch:=first|assumption|omega) only[pgs,pgl,pgx,pgf,Nat.reduceEqDiff,reduceIte,Nat.reduceAdd,q,ixs,fC];generalize a:l.getD i 0=c;have u:=Vw c;have v:=aiE c;have k:((c:Int) != 45)=(c != 45):=neI c 45;have r:((c:Int) != 46)=(c != 46):=neI c 46;cases m:bt c 97 122<;>rw[m]at u
   .refine oH _ u rfl rfl rfl rfl ?_;simp only[pgs,pgl,pgx,pgf,Nat.reduceEqDiff,reduceIte,o7];cases n:bt c 48 57<;>rw[n]at v
    .refine oH _ v rfl rfl rfl rfl ?_;cases f:(c != 45)<;>rw[f]at k
     .have d:nmC (l.getD i 0)=true:=by rw[a];unfold nmC;rw[bne_eq_false_iff_eq]at f;subst f;rfl
      simp(disch:=omega) only[pgs,pgl,pgx,pgf,Nat.reduceEqDiff,reduceIte,o7,k,xh,yG];refine dn (i+1) [] [] ⟨by omega,zJ b h d⟩ Om (xw ?_ .nil (az _));simp only[pgs,pgl,pgx,pgf,vZ,wo,nS,ku,jS,Nat.reduceEqDiff,reduceIte,Nat.reduceAdd,BD,zu]
     .cases g:(c != 46)<;>rw[g]at r
      .have d:nmC (l.getD i 0)=true:=by rw[a];unfold nmC;rw[bne_eq_false_iff_eq]at g;subst g;rfl
       simp(disch:=omega) only[pgs,pgl,pgx,pgf,Nat.reduceEqDiff,reduceIte,o7,k,r,xh,yG];refine dn (i+1) [] [] ⟨by omega,zJ b h d⟩ Om (xw ?_ .nil (az _));simp only[pgs,pgl,pgx,pgf,vZ,wo,nS,ku,jS,Nat.reduceEqDiff,reduceIte,Nat.reduceAdd,BD,zu]
      .have d:nmC (l.getD i 0)=false:=by rw[a];unfold nmC;rw[bne_iff_ne]at f g;simp[m,n,f,g]
       rw[RZ b d];simp(disch:=omega) only[pgs,pgl,pgx,pgf,Nat.reduceEqDiff,reduceIte,o7,k,r,xh,Oy];refine mD [] _ (aW _ _ _) .nil ?_ ?_
       .simp only[pgs,pgl,pgx,pgf,Nat.reduceEqDiff,reduceIte]
       .simp only[pgs,pgl,pgx,pgf,Nat.reduceEqDiff,reduceIte]
    .have d:nmC (l.getD i 0)=true:=by rw[a];unfold nmC;simp[n]
     refine oH _ v rfl rfl rfl rfl ?_;simp(disch:=omega) only[pgs,pgl,pgx,pgf,Nat.reduceEqDiff,reduceIte,o7,xh,yG];refine dn (i+1) [] [] ⟨by omega,zJ b h d⟩ Om (xw ?_ .nil (az _));simp only[pgs,pgl,pgx,pgf,vZ,wo,nS,ku,jS,Nat.reduceEqDiff,reduceIte,Nat.reduceAdd,BD,zu]
   .have d:nmC (l.getD i 0)=true:=by rw[a];unfold nmC;simp[m]
    refine oH _ u rfl rfl rfl rfl ?_;simp(disch:=omega) only[pgs,pgl,pgx,pgf,Nat.reduceEqDiff,reduceIte,o7,xh,yG];refine dn (i+1) [] [] ⟨by omega,zJ b h d⟩ Om (xw ?_ .nil (az _));simp only[pgs,pgl,pgx,pgf,vZ,wo,nS,ku,jS,Nat.reduceEqDiff,reduceIte,Nat.reduceAdd,BD,zu]
  .have x:i=l.length:=Om;subst x;rw[gB]at h;rw[h];have q:decide ((l.length:Int)<(l.length:Int))=false:=dK Om;simp only[pgs,pgl,pgx,pgf,Nat.reduceEqDiff,reduceIte,Nat.reduceAdd,q,Ox];refine mD [] _ (aW _ _ _) .nil ?_ ?_
   .simp only[pgs,pgl,pgx,pgf,Nat.reduceEqDiff,reduceIte]
   .simp only[pgs,pgl,pgx,pgf,Nat.reduceEqDiff,reduceIte]
def yD(l:List Nat)(ho:oct l):Gxx 110 [.c (.string (sB l))] (.c (.bool (iK l))):=by
 refine pR (Ci mix) Tryz.func110 rfl Tryz.results110 rfl Za (fP Za) ?_;unfold iK;rcases au l.length 1 with h1|h1
 .have j:decide ((l.length:Int)<1)=true:=eU Om;rw[dK (show ¬1<=l.length by omega)];simp only[Tryz.f110,pgs,pgl,pgx,pgf,Nat.reduceEqDiff,reduceIte,is9,mG,j];refine mD [] _ (aW _ _ _) .nil ?_ ?_
  .simp only[pgs,pgl,pgx,pgf,Nat.reduceEqDiff,reduceIte]
  .simp only[pgs,pgl,pgx,pgf,Nat.reduceEqDiff,reduceIte]
 have j:decide ((l.length:Int)<1)=false:=dK Om;rw[eU h1];rcases au 16 l.length with h2|h2
 .have p:decide ((16:Int)<(l.length:Int))=true:=eU Om;rw[dK (show ¬l.length<=16 by omega)];simp only[Tryz.f110,pgs,pgl,pgx,pgf,Nat.reduceEqDiff,reduceIte,is9,mG,j,p];refine mD [] _ (aW _ _ _) .nil ?_ ?_
  .simp only[pgs,pgl,pgx,pgf,Nat.reduceEqDiff,reduceIte]
  .simp only[pgs,pgl,pgx,pgf,Nat.reduceEqDiff,reduceIte]
 have p:decide ((16:Int)<(l.length:Int))=false:=dK Om;rw[eU h2];simp(disch:=first|assumption|omega) only[Tryz.f110,pgs,pgl,pgx,pgf,Nat.reduceEqDiff,reduceIte,is9,mG,j,p,ixs,Int.reduceToNat];have t:=Ol (l.getD 0 0) 97 122;cases h3:bt (l.getD 0 0) 97 122<;>rw[h3]at t
 .refine oH _ t rfl rfl rfl rfl ?_;simp only[pgs,pgl,pgx,pgf,Nat.reduceEqDiff,reduceIte,o7];refine mD [] _ (aW _ _ _) .nil ?_ ?_
  .simp only[pgs,pgl,pgx,pgf,Nat.reduceEqDiff,reduceIte]
  .simp only[pgs,pgl,pgx,pgf,Nat.reduceEqDiff,reduceIte]
 refine oH _ t rfl rfl rfl rfl ?_;simp only[pgs,pgl,pgx,pgf,Nat.reduceEqDiff,reduceIte,o7,is9,mG];refine OW (fun i=>mkS [.c (.string (sB l)),.top,.top,.c (.int .i64 (i:Nat))] 0) (fun i=>i<=l.length/\(l.take i).all nmC=true) (fun i=>l.length-i) 0 [] [] ?_ ⟨ax _,rfl⟩ ?_
 .refine xw ?_ .nil (az _);simp only[pgs,pgl,pgx,pgf,vZ,wo,nS,ku,jS,Nat.reduceEqDiff,reduceIte,Nat.reduceAdd];exact IY (ku _ _ _)
 .rintro i ⟨hi,a⟩ s y;simp only[WV,pgs,pgl,Nat.reduceAdd]at y;subst y;rcases au i l.length with b|A
  .have q:decide ((i:Int)<(l.length:Int))=true:=eU Om;simp(disch:=first|assumption|omega) only[pgs,pgl,pgx,pgf,Nat.reduceEqDiff,reduceIte,Nat.reduceAdd,is9,mG,q,ixs,fC];generalize h:l.getD i 0=c;have u:=Ol c 97 122;have v:=Ol c 48 57;have k:((c:Int) != 45)=(c != 45):=neI c 45;have r:((c:Int) != 46)=(c != 46):=neI c 46;cases m:bt c 97 122<;>rw[m]at u
   .refine oH _ u rfl rfl rfl rfl ?_;simp(disch:=first|assumption|omega) only[pgs,pgl,pgx,pgf,Nat.reduceEqDiff,reduceIte,o7,ixs,fC,h];cases n:bt c 48 57<;>rw[n]at v
    .refine oH _ v rfl rfl rfl rfl ?_;cases f:(c != 45)<;>rw[f]at k
     .have d:nmC (l.getD i 0)=true:=by rw[h];unfold nmC;rw[bne_eq_false_iff_eq]at f;subst f;rfl
      simp(disch:=first|assumption|omega) only[pgs,pgl,pgx,pgf,Nat.reduceEqDiff,reduceIte,o7,ixs,fC,h,k,xh,yG];refine dn (i+1) [] [] ⟨by omega,zJ b a d⟩ Om (xw ?_ .nil (az _));simp only[pgs,pgl,pgx,pgf,vZ,wo,nS,ku,jS,Nat.reduceEqDiff,reduceIte,Nat.reduceAdd,BD,zu]
     .cases g:(c != 46)<;>rw[g]at r
      .have d:nmC (l.getD i 0)=true:=by rw[h];unfold nmC;rw[bne_eq_false_iff_eq]at g;subst g;rfl
       simp(disch:=first|assumption|omega) only[pgs,pgl,pgx,pgf,Nat.reduceEqDiff,reduceIte,o7,ixs,fC,h,k,r,xh,yG];refine dn (i+1) [] [] ⟨by omega,zJ b a d⟩ Om (xw ?_ .nil (az _));simp only[pgs,pgl,pgx,pgf,vZ,wo,nS,ku,jS,Nat.reduceEqDiff,reduceIte,Nat.reduceAdd,BD,zu]
      .have d:nmC (l.getD i 0)=false:=by rw[h];unfold nmC;rw[bne_iff_ne]at f g;simp[m,n,f,g]
       rw[RZ b d];simp(disch:=first|assumption|omega) only[pgs,pgl,pgx,pgf,Nat.reduceEqDiff,reduceIte,o7,ixs,fC,h,k,r,xh,Oy];refine mD [] _ (aW _ _ _) .nil ?_ ?_
       .simp only[pgs,pgl,pgx,pgf,Nat.reduceEqDiff,reduceIte]
       .simp only[pgs,pgl,pgx,pgf,Nat.reduceEqDiff,reduceIte]
    .have d:nmC (l.getD i 0)=true:=by rw[h];unfold nmC;simp[n]
     refine oH _ v rfl rfl rfl rfl ?_;simp(disch:=first|assumption|omega) only[pgs,pgl,pgx,pgf,Nat.reduceEqDiff,reduceIte,o7,ixs,fC,h,xh,yG];refine dn (i+1) [] [] ⟨by omega,zJ b a d⟩ Om (xw ?_ .nil (az _));simp only[pgs,pgl,pgx,pgf,vZ,wo,nS,ku,jS,Nat.reduceEqDiff,reduceIte,Nat.reduceAdd,BD,zu]
   .have d:nmC (l.getD i 0)=true:=by rw[h];unfold nmC;simp[m]
    refine oH _ u rfl rfl rfl rfl ?_;simp(disch:=first|assumption|omega) only[pgs,pgl,pgx,pgf,Nat.reduceEqDiff,reduceIte,o7,ixs,fC,h,xh,yG];refine dn (i+1) [] [] ⟨by omega,zJ b a d⟩ Om (xw ?_ .nil (az _));simp only[pgs,pgl,pgx,pgf,vZ,wo,nS,ku,jS,Nat.reduceEqDiff,reduceIte,Nat.reduceAdd,BD,zu]
  .have x:i=l.length:=Om;subst x;rw[gB]at a;rw[a];have q:decide ((l.length:Int)<(l.length:Int))=false:=dK Om;simp only[pgs,pgl,pgx,pgf,Nat.reduceEqDiff,reduceIte,Nat.reduceAdd,is9,mG,q,Ox];refine mD [] _ (aW _ _ _) .nil ?_ ?_
   .simp only[pgs,pgl,pgx,pgf,Nat.reduceEqDiff,reduceIte]
   .simp only[pgs,pgl,pgx,pgf,Nat.reduceEqDiff,reduceIte]
def ry(l:List Nat):(oL l=true)=(1<=l.length/\l.length<=32):=by simp[oL]
def ajQ(l:List Nat):(oL l=false)=¬(1<=l.length/\l.length<=32):=by rw[<-ry,Rl]
def VM{l:List Nat}(h:1<=l.length/\l.length<=32):oL l=true:=by rw[ry];exact h
def iW(l:List Nat)(n:Int):Int:=if 1<=l.length/\l.length<=32 then(if 1<=n/\n<=4294967295 then 0 else 5)else 7
def CO(l:List Nat)(n:Int):Gxx 271 [.agg [vs l,vi n]] (vi (iW l n)):=by
 refine gI oW ?_;skip;(repeat' first|refine wO ?_|refine cU (EL _) ?_|refine tX (aI @ry @ajQ) ?_ ?_<;>intro h|fail);all_goals(refine rT [] ?_;first|rfl|simp only[pgo,simprocAttr]|skip)
 all_goals(unfold iW;(repeat' split)<;>first|rfl|omega)
def Ou(l p:List Nat):Bool:=decide (p.length<=l.length)&&decide (l.take p.length=p)
def mk5(c:Nat):Bool:=c != 95&&(c != 45&&(c != 46&&(c != 58&&c != 47)))
def plC(c:Nat):Bool:=bt c 97 122||bt c 65 90||bt c 48 57 || !mk5 c
def Ik(l:List Nat):Bool:=l.all plC
def aiX:List Nat:=[48,49,50,51,52,53,54,55,56,57,97,98,99,100,101,102]
def hx(d:Nat):Nat:=aiX.getD d 0
def nib(c:Nat):Int:=if bt c 48 57=true then(c:Int)-48 else if bt c 97 102=true then(c:Int)-97+10 else -1
def afj:elemT Tryz.prog 60=some 5:=Za
def it9:kS Tryz.prog 9=none:=Za
def aqW(l:List Nat):strOfNums (l.map fun(b:Nat)=>(b:Int))=sB l:=by simp[strOfNums,sB]
def adV(t:Tag)(l:List Nat):lZ Tryz.prog 60 9 (.sl t 1 (bv l))=some (.c (.string (sB l))):=by simp[lZ,it9,afj,it5,is9,ZF,aqW]
def adR(s:St)(d:Option Nat)(t:Tag)(l:List Nat)(K:Kd->St->Prop):zL Tryz.prog s d 60 9 (.sl t 1 (bv l)) K=K (kq [.sl t 1 (bv l)] (.c (.string (sB l)))) (s.put d (.c (.string (sB l)))):=by
 rw[GU,adV];have h1:(vP Tryz.prog 60 9 (.sl t 1 (bv l))).map (fun r=>(r,s))=none:=rfl;have h3:pY Tryz.prog s 60 9 (.sl t 1 (bv l))=none:=rfl;have h2:rP Tryz.prog s 60 9 (.sl t 1 (bv l))=none:=by cases t<;>simp[rP]
 rw[h1,h2,h3];simp only[Ky,dM,fZ,sG]
def prB(l:List Nat)(t:Nat):Nat:=(16*nib (l.getD (2*t) 0)+nib (l.getD (2*t+1) 0)).toNat
def prs(l:List Nat)(j:Nat):List Nat:=(List.range j).map (prB l)
def okP(l:List Nat)(t:Nat):Bool:=decide (0<=nib (l.getD (2*t) 0))&&decide (0<=nib (l.getD (2*t+1) 0))
def okB(l:List Nat)(j:Nat):Bool:=(List.range j).all (okP l)
end Go.Proofs.YtopbmdnbdpjheaaGreat
