/-
  Merged texts.
-/
import Derived.Deep.AppendSrc
import Derived.Laws.OwnMore
import Derived.Test.YtiohdbjggmmjcaaGreatWAC
set_option linter.unusedVariables false
set_option linter.unusedSimpArgs false
set_option linter.unusedSectionVars false
set_option linter.defProp false
set_option maxRecDepth 100000
set_option maxHeartbeats 8000000
section
namespace Go.Pg
open Go
def V.one:V→Bool
 | .c v=>v.oneCell'
 | .agg _=>false
 | .tup _=>false
 | .top=>false
 | .sl _ _ _=>true
 | .ref _ _=>true
 | .el _ _ _ _ _=>true
 | .fn _ _ _=>true
 | .nif=>true
 | .mp _ _=>true
 | .bs _ _ _ _ _=>true
def aJ(id:Nat)(v:V):V:=if v.has id then .top else v
def frz(id:Nat)(v:V):V:=v.map (fun t=>if t.is id then .fz else t) _root_.id
def aF(id k i:Nat)(x:V)(v:V):V :=
 match v with
 | .sl (.own j e) k' xs=>if j=id then (if k'=k then .sl (.own j e) k' (xs.set i x) else .top) else .sl (.own j e) k' xs
 | .el (.own j e) k' xs i' off=>if j=id then (if k'=k then .el (.own j e) k' (xs.set i x) i' off else .top) else .el (.own j e) k' xs i' off
 | v=>aJ id v
def St.mapV(s:St)(ψ:V→V):St:={ env:=fun t=>ψ (s.env t),bx:=fun b=>(s.bx b).map fun x=>(x.1,x.2.map ψ),nid:=s.nid,hd:=fun t=>ψ (s.hd t) }
structure Grow (w w':World):Prop where
 os:w'.os=w.os
 tape:w'.tape=w.tape
 output:w'.output=w.output
 size:w.heap.size≤w'.heap.size
 block:∀k,k<w.heap.size→w'.heap[k]?=w.heap[k]?
 drawn:w.drawn≤w'.drawn
theorem Grow.kp{w w':World}(G:Grow w w')(Wr:Nat→Prop){B:Nat}(hB:B≤w.heap.size):Kp Wr B w w' :=
 ⟨G.os,G.tape,G.output,G.size,fun k hk _=>G.block k (by omega),G.drawn⟩
theorem Grow.alloc(w:World)(o:Obj):Grow w (w.alloc o):=⟨rfl,rfl,rfl,by simp,fun k hk=>RowKit.Below.heap_alloc w o k hk,Nat.le_refl _⟩
theorem Grow.drewAlloc(w:World)(o:Obj):Grow w (w.drew.alloc o):=⟨rfl,rfl,rfl,by simp,fun k hk=>RowKit.Below.heap_alloc w.drew o k hk,Nat.le_succ _⟩
structure Lay.Le (L L':Lay):Prop where
 A:∀g,L.A g→L'.A g
 own:∀i g,L.own i=some g→L'.own i=some g
 box:∀b g,L.box b=some g→L'.box b=some g
section
variable {P:Program} {C:Cx} {s:St} {L L':Lay} {a:Act} {w w':World}
theorem Sim.hB(S:Sim C s L a w):C.B≤w.heap.size:=S.kp.size
theorem Wf.whole(W:Wf C s.nid L w)(G:Grow w w')(E:L.Le L'):o7 L L' w w' where
 fz':=rfl
 A:=fun g h=>⟨E.A g h,.of (G.block g (W.old g h))⟩
 own:=fun id _ _ g h=>⟨⟨rfl,E.own id g h⟩,G.block g (W.own id g h).1⟩
 box:=fun b _ g h=>⟨E.box b g h,.of (G.block g (W.boxW b g h).1)⟩
theorem BoxOk.grow{b:Nat}{cs:TypeId × List V}(W:Wf C s.nid L w)(G:Grow w w')(E:L.Le L')(h:BoxOk L w b cs):BoxOk L' w' b cs:=by
 obtain⟨g,arr,h1,h2,h3⟩:=h
 exact⟨g,arr,E.box b g h1,(G.block g (W.boxW b g h1).1).trans h2,h3.whole (W.whole G E)⟩
theorem Sim.grow{s':St}(S:Sim C s L a w)(G:Grow w w')(E:L.Le L')(he:s'.env=s.env)(hb:∀b cs,s'.bx b=some cs→s.bx b=some cs∨BoxOk L' w' b cs)(wf:Wf C s'.nid L' w')(hh:s'.hd=s.hd:=by rfl):Sim C s' L' a w' where
 defers:=S.defers
 size:=S.size
 env:=fun t=>by rw[he];exact (S.env t).whole (S.wf.whole G E)
 hid:=fun t=>by rw[hh];exact (S.hid t).whole (S.wf.whole G E)
 box:=fun b cs h=>(hb b cs h).elim (fun h=>(S.box b cs h).grow S.wf G E) id
 wf:=wf
 kp:=S.kp.trans (G.kp C.Wr S.hB)
def Lay.addOwn(L:Lay)(i g:Nat):Lay:={ L with own:=upd L.own i (some g) }
def Lay.addBox(L:Lay)(i g:Nat):Lay:={ L with box:=upd L.box i (some g) }
def Lay.addA(L:Lay)(g:Nat):Lay:={ L with A:=fun x=>L.A x∨x=g }
theorem Wf.leOwn(W:Wf C s.nid L w)(g:Nat):L.Le (L.addOwn s.nid g) :=
 ⟨fun _ h=>h,fun i g' h=>by have:=W.nidO i g' h;simp [Lay.addOwn,upd,show i≠s.nid by omega,h],fun _ _ h=>h⟩
theorem Wf.leBox(W:Wf C s.nid L w)(g:Nat):L.Le (L.addBox s.nid g) :=
 ⟨fun _ h=>h,fun _ _ h=>h,fun i g' h=>by have:=W.nidB i g' h;simp [Lay.addBox,upd,show i≠s.nid by omega,h]⟩
theorem Lay.leA(L:Lay)(g:Nat):L.Le (L.addA g):=⟨fun _ h => .inl h,fun _ _ h=>h,fun _ _ h=>h⟩
theorem Wf.addOwn{nid:Nat}(W:Wf C nid L w)(hB:C.B≤w.heap.size)(hs:w.heap.size<w'.heap.size):Wf C (nid+1) (L.addOwn nid w.heap.size) w' where
 nidO:=fun id g h=>by
  simp only[Lay.addOwn,upd] at h
  split at h
  ·omega
  ·have:=W.nidO id g h;omega
 nidB:=fun b g h=>by have:=W.nidB b g h;omega
 own:=fun id g h=>by
  simp only[Lay.addOwn,upd] at h
  split at h
  ·simp only[Option.some.injEq] at h;subst h;exact⟨hs,.inl hB,fun h=>by have:=W.old _ h;omega⟩
  ·obtain⟨h1,h2,h3⟩:=W.own id g h;exact⟨by omega,h2,h3⟩
 boxW:=fun b g h=>by obtain⟨h1,h2,h3⟩:=W.boxW b g h;exact⟨by omega,h2,h3⟩
 injO:=fun i j g h h'=>by
  simp only[Lay.addOwn,upd] at h h'
  split at h<;>split at h'
  ·omega
  ·simp only[Option.some.injEq] at h;subst h;have:=(W.own j _ h').1;omega
  ·simp only[Option.some.injEq] at h';subst h';have:=(W.own i _ h).1;omega
  ·exact W.injO i j g h h'
 injB:=W.injB
 dis:=fun i j g h h'=>by
  simp only[Lay.addOwn,upd] at h
  split at h
  ·simp only[Option.some.injEq] at h;subst h;have:=(W.boxW j _ h').1;omega
  ·exact W.dis i j g h h'
 old:=fun g h=>by have:=W.old g h;omega
 frz:=W.frz
theorem Wf.addBox{nid:Nat}(W:Wf C nid L w)(hB:C.B≤w.heap.size)(hs:w.heap.size<w'.heap.size):Wf C (nid+1) (L.addBox nid w.heap.size) w' where
 nidO:=fun b g h=>by have:=W.nidO b g h;omega
 nidB:=fun id g h=>by
  simp only[Lay.addBox,upd] at h
  split at h
  ·omega
  ·have:=W.nidB id g h;omega
 own:=fun b g h=>by obtain⟨h1,h2,h3⟩:=W.own b g h;exact⟨by omega,h2,h3⟩
 boxW:=fun id g h=>by
  simp only[Lay.addBox,upd] at h
  split at h
  ·simp only[Option.some.injEq] at h;subst h;exact⟨hs,.inl hB,fun h=>by have:=W.old _ h;omega⟩
  ·obtain⟨h1,h2,h3⟩:=W.boxW id g h;exact⟨by omega,h2,h3⟩
 injO:=W.injO
 injB:=fun i j g h h'=>by
  simp only[Lay.addBox,upd] at h h'
  split at h<;>split at h'
  ·omega
  ·simp only[Option.some.injEq] at h;subst h;have:=(W.boxW j _ h').1;omega
  ·simp only[Option.some.injEq] at h';subst h';have:=(W.boxW i _ h).1;omega
  ·exact W.injB i j g h h'
 dis:=fun i j g h h'=>by
  simp only[Lay.addBox,upd] at h'
  split at h'
  ·simp only[Option.some.injEq] at h';subst h';have:=(W.own i _ h).1;omega
  ·exact W.dis i j g h h'
 old:=fun g h=>by have:=W.old g h;omega
 frz:=W.frz
theorem Wf.addA{nid:Nat}(W:Wf C nid L w)(hB:C.B≤w.heap.size)(hs:w.heap.size<w'.heap.size):Wf C nid (L.addA w.heap.size) w' where
 nidO:=W.nidO
 nidB:=W.nidB
 own:=fun b g h=>by
  obtain⟨h1,h2,h3⟩:=W.own b g h
  exact⟨by omega,h2,fun h=>h.elim h3 (fun h=>by omega)⟩
 boxW:=fun b g h=>by
  obtain⟨h1,h2,h3⟩:=W.boxW b g h
  exact⟨by omega,h2,fun h=>h.elim h3 (fun h=>by omega)⟩
 injO:=W.injO
 injB:=W.injB
 dis:=W.dis
 old:=fun g h=>h.elim (fun h=>by have:=W.old g h;omega) (fun h=>by omega)
 frz:=fun g h=>h.elim (W.frz g) (fun h => .inr (.inl (by omega)))
theorem Wf.mono{nid nid':Nat}(W:Wf C nid L w)(hn:nid≤nid')(hs:w.heap.size≤w'.heap.size):Wf C nid' L w' where
 nidO:=fun id g h=>by have:=W.nidO id g h;omega
 nidB:=fun id g h=>by have:=W.nidB id g h;omega
 own:=fun b g h=>by obtain⟨h1,h2,h3⟩:=W.own b g h;exact⟨by omega,h2,h3⟩
 boxW:=fun b g h=>by obtain⟨h1,h2,h3⟩:=W.boxW b g h;exact⟨by omega,h2,h3⟩
 injO:=W.injO
 injB:=W.injB
 dis:=W.dis
 old:=fun g h=>by have:=W.old g h;omega
 frz:=W.frz
def uC(s:St)(e:TypeId)(l:List V):V × St:=(.ref s.nid 0,{ s with bx:=upd s.bx s.nid (some (e,l)),nid:=s.nid+1 })
theorem Reps.takeAll{l:List V}{us:List Value}(h:Reps L w l us):Reps L w l (us.take l.length):=by
 rw[List.take_of_length_le (by rw[h.length];exact Nat.le_refl _)];exact h
theorem Ui{α:Type}(a u:List α)(off n:Nat)(h:off+u.length≤n)(hn:n≤a.length):(a.take off++u++a.drop (off+u.length)).take n=(a.take n).take off++u++(a.take n).drop (off+u.length):=by
 have h1:(a.take off++u).length=off+u.length:=by simp;omega
 rw[List.take_take,Nat.min_eq_left (by omega),List.drop_take,List.take_append,List.take_of_length_le (by rw[h1];exact h),h1]
theorem SizeKept.setRow{w:World}{g:Nat}{arr0 arr:Array Value}{e:TypeId}(hg:w.heap[g]?=some (.cells arr0 e (0,0)))(hs:arr.size=arr0.size)(g':Nat):SizeKept w (w.setRow g arr) g':=by
 intro a1 e1 h1
 by_cases hj:g'=g
 ·subst hj
  rw[hg] at h1
  simp only[Option.some.injEq,Obj.cells.injEq] at h1
  obtain⟨rfl,rfl,_⟩:=h1
  exact⟨arr,setRow_heap w g' _ arr _ _ hg,hs⟩
 ·exact⟨a1,(setRow_other w g g' arr hj).trans h1,rfl⟩
theorem DJ{e:TypeId}{l:List V}{us:Array Value}(S:Sim C s L a w)(hr:Reps L w l us.toList) :
  ∃L',Sim C (uC s e l).2 L' a (w.alloc (.cells us e))∧Rep L' (w.alloc (.cells us e)) (uC s e l).1 (.pointer (some ⟨w.heap.size,0,none⟩)):=by
 have G:=Grow.alloc w (.cells us e)
 have E:=S.wf.leBox (s:=s) w.heap.size
 refine⟨L.addBox s.nid w.heap.size,S.grow G E rfl ?_ (S.wf.addBox S.hB (by simp)),w.heap.size,by simp [Lay.addBox,upd],rfl⟩
 intro b cs h
 simp only[uC,upd] at h
 split at h
 ·rename_i hb
  subst hb
  simp only[Option.some.injEq] at h
  subst h
  exact .inr ⟨w.heap.size,us,by simp [Lay.addBox,upd],heap_alloc_new w _,(hr.whole (S.wf.whole G E)).takeAll⟩
 ·exact .inl h
def qZ(P:Program)(s:St)(elem:TypeId):Option (V × St):=(kV P elem).map fun z=>uC s elem (z.cells.toList.map .c)
def J7(s:St)(e:TypeId)(x:V):Option (V × St):=x.cs.map fun l=>uC s e l
theorem PM{elem:TypeId}{r:V}{s':St}(h:qZ P s elem=some (r,s'))(S:Sim C s L a w) :
  ∃u w' L',(Instr.alloc elem true (.tuple #[])).run P w = .ok u w'∧Sim C s' L' a w'∧Rep L' w' r u:=by
 simp only[qZ,Option.map_eq_some_iff] at h
 obtain⟨z,hz,h⟩:=h
 obtain⟨L',h1,h2⟩:=DJ (e:=elem) (us:=z.cells) S (qf L w z.cells.toList)
 rw[h] at h1 h2
 exact⟨_,_,L',by simp [Instr.alloc,lh hz,newVar,newRow],h1,h2⟩
theorem Zz{elem:TypeId}{x r:V}{u:Value}{s':St}(h:J7 s elem x=some (r,s'))(S:Sim C s L a w)(hr:Rep L w x u) :
  ∃v w' L',(Instr.box elem u).run P w = .ok v w'∧Sim C s' L' a w'∧Rep L' w' r v:=by
 simp only[J7,Option.map_eq_some_iff] at h
 obtain⟨l,hl,h⟩:=h
 obtain⟨L',h1,h2⟩:=DJ (e:=elem) (us:=u.cells) S (qh hr hl)
 rw[h] at h1 h2
 exact⟨_,_,L',by simp [Instr.box,newVar,newRow],h1,h2⟩
def lH(P:Program)(s:St)(t:TypeId)(b off:Nat):Option V:=(s.bx b).bind fun x=>dY P t x.2 off
theorem Ar{t:TypeId}{b off:Nat}{r:V}{u:Value}(h:lH P s t b off=some r)(S:Sim C s L a w)(hu:Rep L w (.ref b off) u) :
  ∃v,(Instr.loadAt t u).run P w = .ok v w∧Rep L w r v:=by
 simp only[lH,Option.bind_eq_some_iff] at h
 obtain⟨⟨e,cs⟩,hcs,h⟩:=h
 obtain⟨g,arr,h1,h2,h3⟩:=S.box b _ hcs
 obtain⟨g',h1',rfl⟩:=hu
 rw[h1] at h1'
 simp only[Option.some.injEq] at h1'
 subst h1'
 obtain⟨v,h4,h5⟩:=yE (P:=P) (g:=g) (o:=0) h h3 ⟨arr,e,(0,0),h2,by rw[List.drop_zero,h3.length]⟩
 exact⟨v,by simpa [Instr.loadAt,Instr.sureAddr] using h4,h5⟩
theorem NZ{x:V}{u:Value}(h:Rep L w x u)(h1:x.one=true):u.oneCell'=true:=by
 cases x<;>simp only[V.one,Bool.false_eq_true] at h1
 case c v=>simp only[Rep] at h;subst h;exact h1
 case sl=>obtain⟨_,_,_,rfl,_⟩:=h;rfl
 case ref=>obtain⟨_,_,rfl⟩:=h;rfl
 case el=>obtain⟨_,_,_,rfl,_⟩:=h;rfl
 case fn=>obtain⟨_,_,rfl,_⟩:=h;rfl
 case nif=>obtain⟨_,_,rfl⟩:=h;rfl
 case mp=>obtain⟨_,rfl,_⟩:=h;rfl
 case bs=>obtain⟨_,rfl⟩|⟨_,_,_,_,rfl,_⟩:=h<;>rfl
theorem vG{l:List V}{us:List Value}(h:Reps L w l us)(h1:l.all V.one=true):∀u∈us,u.oneCell'=true:=by
 induction l generalizing us with
 | nil=>simp only[Reps] at h;simp [h]
 | cons x xs ih =>
  obtain⟨u,r,rfl,h2,h3⟩:=h
  simp only[List.all_cons,Bool.and_eq_true] at h1
  intro v hv
  rcases List.mem_cons.1 hv with rfl|hv
  ·exact NZ h2 h1.1
  ·exact ih h3 h1.2 v hv
theorem yH{t:TypeId}{g o:Nat}{v:Value}{arr:Array Value}{e:TypeId}(ht:tsz P t=some v.cells.size)(hg:w.heap[g]?=some (.cells arr e (0,0)))(hfit:o+v.cells.size≤arr.size)(h1:∀u∈v.cells.toList,u.oneCell'=true) :
  (Instr.storeAt t (.pointer (some ⟨g,o,none⟩)) v).run P w = .ok () (w.setRow g (arr.toList.take o++v.cells.toList++arr.toList.drop (o+v.cells.size)).toArray):=by
 have:=run_storeCells_at P g o e v.cells.toList 0 arr w hg (by simpa using hfit) h1
 simp only[Nat.add_zero,Array.length_toList] at this
 simp [Instr.storeAt,Instr.sureAddr,storeVar,gJ ht,this]
theorem Kp.setRow{Wr:Nat→Prop}{B g:Nat}(arr:Array Value)(hg:B≤g∨Wr g):Kp Wr B w (w.setRow g arr) :=
 ⟨rfl,rfl,rfl,by simp,fun k hk hW=>setRow_other w g k arr (fun e=>by subst e;exact hg.elim (fun h=>by omega) hW),Nat.le_refl _⟩
theorem G6{g:Nat}{arr arr0:Array Value}{e0:TypeId}(hg:w.heap[g]?=some (.cells arr0 e0 (0,0)))(hs:arr.size=arr0.size)(hA:¬L.A g)(hO:∀i,L.own i≠some g):o7 L L w (w.setRow g arr) where
 fz':=rfl
 A:=fun g' h=>⟨h,.of (setRow_other w g g' arr (fun e=>by subst e;exact hA h))⟩
 own:=fun id e _ g' h=>⟨⟨rfl,h⟩,setRow_other w g g' arr (fun e=>by subst e;exact hO id h)⟩
 box:=fun _ _ g' h=>⟨h,.setRow hg hs g'⟩
def jB(P:Program)(s:St)(t:TypeId)(b off:Nat)(x:V):Option St :=
 (s.bx b).bind fun y=>x.cs.bind fun l=>if tsz P t=some l.length∧off+l.length≤y.2.length∧l.all V.one=true then
  some { s with bx:=upd s.bx b (some (y.1,y.2.take off++l++y.2.drop (off+l.length))) } else none
theorem xg{t:TypeId}{b off:Nat}{x:V}{u ux:Value}{s':St}(h:jB P s t b off x=some s')(S:Sim C s L a w)(hu:Rep L w (.ref b off) u)(hx:Rep L w x ux) :
  ∃w',(Instr.storeAt t u ux).run P w = .ok () w'∧Sim C s' L a w':=by
 simp only[jB,Option.bind_eq_some_iff,Option.ite_none_right_eq_some,Option.some.injEq] at h
 obtain⟨⟨e,cs⟩,hcs,l,hl,⟨h1,h2,h3⟩,rfl⟩:=h
 simp only at h2
 obtain⟨g,arr,hg,ha,hr⟩:=S.box b _ hcs
 simp only at ha hr
 obtain⟨g',hg',rfl⟩:=hu
 rw[hg] at hg'
 simp only[Option.some.injEq] at hg'
 subst hg'
 have hrl:=qh hx hl
 have hll:ux.cells.size=l.length:=by simpa using hrl.length
 have hal:cs.length≤arr.size:=by have:=hr.length;simp at this;omega
 obtain⟨hw1,hw2,hw3⟩:=S.wf.boxW b g hg
 have hO:∀i,L.own i≠some g:=fun i h=>S.wf.dis i b g h hg
 have K:=G6 (w:=w) (arr:=(arr.toList.take off++ux.cells.toList++arr.toList.drop (off+ux.cells.size)).toArray) ha (by simp;omega) hw3 hO
 refine⟨_,yH (by rw[hll];exact h1) ha (by omega) (vG hrl h3),S.defers,S.size,fun t=>(S.env t).whole K,fun t=>(S.hid t).whole K, ?_,S.wf.mono (Nat.le_refl _) (by simp),S.kp.trans (Kp.setRow _ hw2)⟩
 intro b' cs' h
 simp only[upd] at h
 split at h
 ·rename_i hb
  subst hb
  simp only[Option.some.injEq] at h
  subst h
  refine⟨g,_,hg,setRow_heap w g arr _ e _ ha, ?_⟩
  have:=(((hr.take off).append hrl).append (hr.drop (off+l.length))).whole K
  have hd:off+l.length≤cs.length:=h2
  have hlen:(cs.take off++l++cs.drop (off+l.length)).length=cs.length:=by simp;omega
  show Reps L _ _ (List.take (cs.take off++l++cs.drop (off+l.length)).length _)
  rw[hlen,List.toList_toArray]
  have hul:ux.cells.toList.length=l.length:=hrl.length
  have hq:=Ui arr.toList ux.cells.toList off cs.length (by rw[hul];exact hd) (by simpa using hal)
  rw[hul] at hq
  rw[hll] at this ⊢;rw[hq]
  exact this
 ·rename_i hb
  obtain⟨g',arr',h4,h5,h6⟩:=S.box b' cs' h
  exact⟨g',arr',h4,(setRow_other w g g' _ (fun e=>by subst e;exact hb (S.wf.injB b' b g' h4 hg))).trans h5,h6.whole K⟩
theorem adh{id:Nat}{v:V}(h:v.has id=false):v.any (Tag.is id) (fun _=>false) false=false:=h
theorem jR{id:Nat}(K:Trans (Tag.is id) (fun _=>false) _root_.id _root_.id L L' w w'){v:V}{u:Value}(h:Rep L w v u):Rep L' w' (aJ id v) u:=by
 unfold aJ
 split
 ·trivial
 ·rename_i hn
  have:=h.trans rfl K (adh (by simpa using hn))
  rwa [map_id.1] at this
theorem iZ{ψ:V→V}(hψ:∀v u,Rep L w v u→Rep L' w' (ψ v) u){l:List V}{us:List Value}(h:Reps L w l us):Reps L' w' (l.map ψ) us:=by
 induction l generalizing us with
 | nil=>exact h
 | cons x xs ih=>obtain⟨u,r,rfl,h2,h3⟩:=h;exact⟨u,r,rfl,hψ x u h2,ih h3⟩
theorem Sim.mapV{nid:Nat}(S:Sim C s L a w){ψ:V→V}(hψ:∀v u,Rep L w v u→Rep L' w' (ψ v) u)(hbox:∀b g,L.box b=some g→L'.box b=some g∧w'.heap[g]?=w.heap[g]?)
  (wf:Wf C nid L' w') (kp:Kp C.Wr C.B w w'):Sim C { s.mapV ψ with nid:=nid } L' a w' where
 defers:=S.defers
 size:=S.size
 env:=fun t=>hψ _ _ (S.env t)
 hid:=fun t=>hψ _ _ (S.hid t)
 box:=fun b cs h=>by
  simp only[St.mapV,Option.map_eq_some_iff] at h
  obtain⟨l,hl,rfl⟩:=h
  obtain⟨g,arr,h1,h2,h3⟩:=S.box b l hl
  exact⟨g,arr,(hbox b g h1).1,(hbox b g h1).2.trans h2,by show Reps _ _ (l.2.map ψ) (arr.toList.take (l.2.map ψ).length);rw[List.length_map];exact iZ hψ h3⟩
 wf:=wf
 kp:=S.kp.trans kp
def Lay.freeze(L:Lay)(id:Nat):Lay:={ L with A:=fun g=>L.A g∨L.own id=some g,own:=fun j=>if j=id then none else L.own j }
theorem Sim.freeze(S:Sim C s L a w)(id:Nat):Sim C (s.mapV (frz id)) (L.freeze id) a w∧∀v u,Rep L w v u→Rep (L.freeze id) w (frz id v) u:=by
 have K:Trans (fun _=>false) (fun _=>false) (fun t=>if t.is id then .fz else t) _root_.id L (L.freeze id) w w:=by
  refine⟨Prod.ext rfl (Prod.ext rfl (funext fun j=>funext fun e => ?_)),fun g h=>⟨.inl h,.of rfl⟩,fun j e _ g h=>⟨?_,rfl⟩,fun _ _ _ h=>⟨h,.of rfl⟩⟩
  ·show (if (j == id)=true then Tag.fz else Tag.own j e).notNN=true
   split<;>rfl
  by_cases hj:j=id
  ·subst hj;simp [Tag.is,Lay.freeze,h]
  ·simp [Tag.is,hj,Lay.freeze,h]
 have hψ:∀v u,Rep L w v u→Rep (L.freeze id) w (frz id v) u:=fun v u h=>h.trans rfl K (J3.1 v)
 refine⟨S.mapV (nid:=s.nid) hψ (fun b g h=>⟨h,rfl⟩) ?_ (Kp.refl _ _ _),hψ⟩
 have W:=S.wf
 exact {
  nidO:=fun j g h=>by
   simp only[Lay.freeze] at h
   split at h
   ·cases h
   ·exact W.nidO j g h
  nidB:=W.nidB
  own:=fun j g h=>by
   simp only[Lay.freeze] at h
   split at h
   ·cases h
   ·rename_i hj
    obtain⟨h1,h2,h3⟩:=W.own j g h
    exact⟨h1,h2,fun h'=>h'.elim h3 (fun h'=>hj (W.injO j id g h h'))⟩
  boxW:=fun b g h=>by
   obtain⟨h1,h2,h3⟩:=W.boxW b g h
   exact⟨h1,h2,fun h'=>h'.elim h3 (fun h'=>W.dis id b g h' h)⟩
  injO:=fun i j g h h'=>by
   simp only[Lay.freeze] at h h'
   split at h
   ·cases h
   ·split at h'
    ·cases h'
    ·exact W.injO i j g h h'
  injB:=W.injB
  dis:=fun i j g h h'=>by
   simp only[Lay.freeze] at h
   split at h
   ·cases h
   ·exact W.dis i j g h h'
  old:=fun g h=>h.elim (W.old g) (fun h=>(W.own id g h).1)
  frz:=fun g h=>h.elim (W.frz g) (fun h => .inr (W.own id g h).2.1) }
def tapp(P:Program)(e:TypeId):Option (Nat × Nat):=(P.info? e).bind fun i=>i.zero.bind fun z=>if z.cells.size=i.size∧0<i.size then some (i.size,i.bytes) else none
theorem jc{e:TypeId}{k b:Nat}(h:tapp P e=some (k,b)):∃i z,P.info? e=some i∧i.zero=some z∧z.cells.size=k∧i.size=k∧i.bytes=b∧0<k:=by
 simp only[tapp,Option.bind_eq_some_iff,Option.ite_none_right_eq_some,Option.some.injEq,Prod.mk.injEq] at h
 obtain⟨i,hi,z,hz,⟨h1,h2⟩,rfl,rfl⟩:=h
 exact⟨i,z,hi,hz,h1,rfl,rfl,h2⟩
def qi(z:ByteArray):List V:=z.data.toList.map fun b => .c (.int .u8 b.toNat)
def vH(P:Program)(t:TypeId)(k:Nat)(y:V):Option (List V) :=
 match y with
 | .sl _ k' ys=>if k'=k∧(elemT P t).isSome then some ys else none
 | .c (.slice none 0 _)=>if (elemT P t).isSome then some [] else none
 | .c (.string z)=>if k=1∧gy P t=true then some (qi z) else none
 | _=>none
theorem Au(z:ByteArray):RepE L w 1 (qi z) (byteCells z):=by
 unfold qi byteCells
 induction z.data.toList with
 | nil=>rfl
 | cons b l ih=>exact⟨_,_,rfl,rfl,⟨rfl,rfl⟩,rfl,ih⟩
theorem Aw{t:TypeId}{k:Nat}{y:V}{ys:List V}{u:Value}(h:vH P t k y=some ys)(hr:Rep L w y u) :
  ∃news,Src P k t u ys.length news w∧RepE L w k ys news:=by
 unfold vH at h
 split at h
 ·rename_i tg k' ys'
  simp only[Option.ite_none_right_eq_some,Option.some.injEq] at h
  obtain⟨⟨rfl,h1⟩,rfl⟩:=h
  obtain⟨e,he⟩:=Option.isSome_iff_exists.1 h1
  obtain⟨a,cap,cells,rfl,h2,h3⟩:=hr
  refine⟨cells, ?_,h2⟩
  cases a with
  | none =>
   have h0:ys'.length=0:=by
    cases tg with
    | fz =>
     rcases h3 with ⟨_,h|⟨g,o,h,_⟩⟩
     ·exact h
     ·cases h
    | nn=>exact h3.1
    | own id e =>
     rcases h3 with ⟨h,_⟩|⟨g,arr,_,h,_⟩
     ·exact h
     ·cases h
   have hc:cells=[]:=List.eq_nil_of_length_eq_zero (by rw[h2.length,h0,Nat.zero_mul])
   subst hc
   rw[h0]
   exact Src.ofNil w (bW he) cap
  | some ad =>
   refine Src.ofSlice w (bW he) ad _ cap cells h2.length ?_ h2.one
   intro j v hj
   have hpos:0<ys'.length:=by
    rcases Nat.eq_zero_or_pos ys'.length with h0|h0
    ·have hc:cells=[]:=List.eq_nil_of_length_eq_zero (by rw[h2.length,h0,Nat.zero_mul])
     rw[hc] at hj;cases hj
    ·exact h0
   obtain⟨g,o,h5,h6⟩:=h3.el hpos h2.length
   simp only[Option.some.injEq] at h5
   subst h5
   rw[dS]
   exact h6.row.cell hj
 ·simp only[Option.ite_none_right_eq_some,Option.some.injEq] at h
  obtain⟨h1,rfl⟩:=h
  obtain⟨e,he⟩:=Option.isSome_iff_exists.1 h1
  simp only[Rep] at hr;subst hr
  exact⟨[],Src.ofNil w (bW he) _,rfl⟩
 ·rename_i z
  simp only[Option.ite_none_right_eq_some,Option.some.injEq] at h
  obtain⟨⟨rfl,h1⟩,rfl⟩:=h
  simp only[Rep] at hr;subst hr
  refine⟨byteCells z, ?_,Au z⟩
  have:=Src.ofString (P:=P) w (iL h1) z
  rwa [show (qi z).length=z.size by simp [qi]]
 ·cases h
def Fits(n bytes:Nat):Prop:=n≤maxLen∧n*bytes≤140737488355328
instance (n bytes:Nat):Decidable (Fits n bytes):=by unfold Fits;infer_instance
def mX(ys:List V)(id:Nat)(e:TypeId):Tag:=match ys with|[] => .nn|_::_ => .own id e
def jP(P:Program)(s:St)(t t2:TypeId)(x y:V):Option (V × St) :=
 (elemT P t).bind fun e=>(tapp P e).bind fun (k,bytes)=>(vH P t2 k y).bind fun ys =>
  match x with
  | .c (.slice none 0 0)=>if Fits ys.length bytes then some (.sl (.own s.nid e) k ys,{ s with nid:=s.nid+1 }) else none
  | .sl (.own id e') k' xs=>if e'=e∧k'=k∧Fits (xs.length+ys.length) bytes then some (.sl (.own id e) k (xs++ys),{ s.mapV (aJ id) with nid:=max s.nid (id+1) }) else none
  | .sl .nn _ []=>if Fits ys.length bytes then some (.sl (mX ys s.nid e) k ys,{ s with nid:=s.nid+1 }) else none
  | _=>none
theorem jC{t t2 ty e:TypeId}{i:TypeInfo}(ht:P.underlying t=some (.slice e))(hi:P.info? e=some i){g n m cap:Nat}{arr:Array Value}(hg:w.heap[g]?=some (.cells arr e (0,0))){x:Value}{news:List Value}
  (hs:Src P i.size t2 x m news w) (hroom:n+m≤cap) (hfit:n*i.size+news.length≤arr.size) :
  (Builtin.append_ #[t,t2] ty #[.slice (some ⟨g,0,none⟩) n cap,x]).run P w =
   .ok (.slice (some ⟨g,0,none⟩) (n+m) cap) (w.setRow g (arr.toList.take (n*i.size)++news++arr.toList.drop (n*i.size+news.length)).toArray):=by
 have hst:=run_storeCells_at P g (n*i.size) e news 0 arr w hg (by simpa using hfit) hs.one
 simp only[Nat.add_zero] at hst
 rcases hs.kind with ⟨e',hk⟩|hk<;>simp [Builtin.append_,run_underlying ht,run_underlying hk,sizeOf,typeInfo,hi,hs.len,hroom,hs.cells,Addr.add_lit,hst]
theorem jS{t t2 ty e:TypeId}{i:TypeInfo}(ht:P.underlying t=some (.slice e))(hi:P.info? e=some i){x:Value}{news:List Value}(hs:Src P i.size t2 x 0 news w) :
  (Builtin.append_ #[t,t2] ty #[.slice none 0 0,x]).run P w = .ok (.slice none 0 0) w:=by
 rcases hs.kind with ⟨e',hk⟩|hk<;>simp [Builtin.append_,run_underlying ht,run_underlying hk,sizeOf,typeInfo,hi,hs.len,hs.cells]
theorem uq{t t2 ty e:TypeId}{i:TypeInfo}(ht:P.underlying t=some (.slice e))(hi:P.info? e=some i){ad:Addr}{x:Value}(hs:Src P i.size t2 x 0 [] w) :
  (Builtin.append_ #[t,t2] ty #[.slice (some ad) 0 0,x]).run P w = .ok (.slice (some ad) 0 0) w:=by
 rcases hs.kind with ⟨e',hk⟩|hk<;>simp [Builtin.append_,run_underlying ht,run_underlying hk,sizeOf,typeInfo,hi,hs.len,hs.cells,storeCells]
def dH(w:World)(olds news:List Value)(n cap:Nat)(e:TypeId)(z:Value):Obj :=
 .cells ((olds++news).toArray++Builtin.zeroCells z.cells (grownCap w n cap e-n)) e
theorem tN{olds news:List Value}{n cap k:Nat}{e:TypeId}{z:Value}{id:Nat}{L':Lay}{w'':World}(ho:L'.own id=some w.heap.size)(hh:w''.heap[w.heap.size]?=some (dH w olds news n cap e z))
  (hz:z.cells.size=k) (hl:(olds++news).length=n*k) (hm:n≤maxLen) :
  SlMem L' w'' (.own id e) k (some ⟨w.heap.size,0,none⟩) n (grownCap w n cap e) (olds++news):=by
 refine .inr ⟨w.heap.size,_,ho,rfl,hh,grownCap_ge w n cap e,grownCap_le_maxLen w n cap e hm, ?_, ?_⟩
 ·have hge:=grownCap_ge w n cap e
  simp only[Array.size_append,List.size_toArray,size_zeroCells,hz,hl,←Nat.add_mul]
  congr 1
  omega
 ·rw[Array.toList_append,←hl]
  exact List.take_left
theorem J8{t t2 ty:TypeId}{x y r:V}{ux uy:Value}{s':St}(h:jP P s t t2 x y=some (r,s'))(S:Sim C s L a w)(hx:Rep L w x ux)(hy:Rep L w y uy) :
  ∃u w' L',(Builtin.append_ #[t,t2] ty #[ux,uy]).run P w = .ok u w'∧Sim C s' L' a w'∧Rep L' w' r u:=by
 simp only[jP,Option.bind_eq_some_iff,Prod.exists] at h
 obtain⟨e,he,k,bytes,hk,ys,hys,h⟩:=h
 obtain⟨i,z,hi,hz,hzs,rfl,rfl,hpos⟩:=jc hk
 have hu:=bW he
 obtain⟨news,hsrc,hre⟩:=Aw hys hy
 have hnl:=hre.length
 split at h
 ·
  simp only[Option.ite_none_right_eq_some,Option.some.injEq,Prod.mk.injEq] at h
  obtain⟨⟨hf1,hf2⟩,rfl,rfl⟩:=h
  simp only[Rep] at hx;subst hx
  rcases Nat.eq_zero_or_pos ys.length with h0|h0
  ·rw[h0] at hsrc
   have hys0:ys=[]:=List.eq_nil_of_length_eq_zero h0
   subst hys0
   exact⟨_,w,L,jS hu hi hsrc,⟨S.defers,S.size,S.env,S.hid,S.box,S.wf.mono (by simp) (Nat.le_refl _),S.kp⟩,none,0,[],rfl,rfl,.inl ⟨rfl,rfl,rfl⟩⟩
  ·have hrun:=run_append_grow_src (P:=P) w t t2 ty e i z hu hi hz none 0 0 [] (by simp [Builtin.firstCells]) uy ys.length news hsrc (by omega)
    (by simp only[maxLen] at hf1;omega) (growslice_fits (by omega) (by rw[Nat.zero_add];exact hf2))
   simp only[Nat.zero_add] at hrun
   have G:=Grow.drewAlloc w (dH w [] news ys.length 0 e z)
   have E:=S.wf.leOwn (s:=s) w.heap.size
   have hh:(w.drew.alloc (dH w [] news ys.length 0 e z)).heap[w.heap.size]?=some (dH w [] news ys.length 0 e z):=heap_alloc_new w.drew _
   refine⟨_,_,L.addOwn s.nid w.heap.size,hrun,S.grow G E rfl (fun b cs h => .inl h) (S.wf.addOwn S.hB (by simp)),_,_,news,rfl, ?_, ?_⟩
   ·exact hre.trans (p:=fun _=>false) (q:=fun _=>false) rfl (S.wf.whole G E)
   ·have:=tN (olds:=[]) (id:=s.nid) (L':=L.addOwn s.nid w.heap.size) (by simp [Lay.addOwn,upd]) hh hzs (by simpa using hnl) hf1
    exact this
 ·
  rename_i id e' k' xs
  simp only[Option.ite_none_right_eq_some,Option.some.injEq,Prod.mk.injEq] at h
  obtain⟨⟨rfl,rfl,hf1,hf2⟩,rfl,rfl⟩:=h
  obtain⟨ad,cap,cells,rfl,hxe,hmem⟩:=hx
  have hxl:=hxe.length
  have keepRow:∀g arr,L.own id=some g→Trans (Tag.is id) (fun _=>false) _root_.id _root_.id L L w (w.setRow g arr):=fun g arr hg =>
   ⟨rfl,fun g' h=>⟨h,.of (setRow_other w g g' arr (fun e=>by subst e;exact (S.wf.own id _ hg).2.2 h))⟩,
    fun j e hj g' h=>⟨⟨rfl,h⟩,setRow_other w g g' arr (fun e=>by subst e;have:=S.wf.injO j id _ h hg;simp [Tag.is,this] at hj)⟩,fun b _ g' h=>⟨h,.of (setRow_other w g g' arr (fun e=>by subst e;exact S.wf.dis id b _ hg h))⟩⟩
  have hgrow:∀(olds:List Value),(Builtin.firstCells i.size xs.length (.slice ad xs.length cap)).run P w.drew = .ok olds.toArray w.drew→RepE L w i.size xs olds→cap<xs.length+ys.length →
    ∃u w' L',(Builtin.append_ #[t,t2] ty #[.slice ad xs.length cap,uy]).run P w = .ok u w'∧Sim C { s.mapV (aJ id) with nid:=max s.nid (id+1) } L' a w'∧Rep L' w' (.sl (.own id e') i.size (xs++ys)) u:=by
   intro olds hold hxo hcap
   have hol:=hxo.length
   have hrun:=run_append_grow_src (P:=P) w t t2 ty e' i z hu hi hz ad xs.length cap olds hold uy ys.length news hsrc hcap
    (by simp only[maxLen] at hf1;omega) (growslice_fits hcap hf2)
   have hh:(w.drew.alloc (dH w olds news (xs.length+ys.length) cap e' z)).heap[w.heap.size]?=some (dH w olds news (xs.length+ys.length) cap e' z):=heap_alloc_new w.drew _
   have G:=Grow.drewAlloc w (dH w olds news (xs.length+ys.length) cap e' z)
   have K:Trans (Tag.is id) (fun _=>false) _root_.id _root_.id L (L.addOwn id w.heap.size) w (w.drew.alloc (dH w olds news (xs.length+ys.length) cap e' z)) :=
    ⟨rfl,fun g h=>⟨h,.of (G.block g (S.wf.old g h))⟩,fun j e hj g h=>⟨⟨rfl,by
     have:j≠id:=fun e=>by subst e;simp [Tag.is] at hj
     simp [Lay.addOwn,upd,this,h]⟩,G.block g (S.wf.own j g h).1⟩,fun b _ g h=>⟨h,.of (G.block g (S.wf.boxW b g h).1)⟩⟩
   have W:=S.wf
   have wf:Wf C (max s.nid (id+1)) (L.addOwn id w.heap.size) (w.drew.alloc (dH w olds news (xs.length+ys.length) cap e' z)):={
    nidO:=fun j g h=>by
     simp only[Lay.addOwn,upd] at h
     split at h
     ·omega
     ·have:=W.nidO j g h;omega
    nidB:=fun j g h=>by have:=W.nidB j g h;omega
    own:=fun j g h=>by
     simp only[Lay.addOwn,upd] at h
     split at h
     ·simp only[Option.some.injEq] at h;subst h;exact⟨by simp,.inl S.hB,fun h=>by have:=W.old _ h;omega⟩
     ·obtain⟨h1,h2,h3⟩:=W.own j g h;exact⟨by simp;omega,h2,h3⟩
    boxW:=fun b g h=>by obtain⟨h1,h2,h3⟩:=W.boxW b g h;exact⟨by simp;omega,h2,h3⟩
    injO:=fun i j g h h'=>by
     simp only[Lay.addOwn,upd] at h h'
     split at h<;>split at h'
     ·omega
     ·simp only[Option.some.injEq] at h;subst h;have:=(W.own j _ h').1;omega
     ·simp only[Option.some.injEq] at h';subst h';have:=(W.own i _ h).1;omega
     ·exact W.injO i j g h h'
    injB:=W.injB
    dis:=fun i j g h h'=>by
     simp only[Lay.addOwn,upd] at h
     split at h
     ·simp only[Option.some.injEq] at h;subst h;have:=(W.boxW j _ h').1;omega
     ·exact W.dis i j g h h'
    old:=fun g h=>by have:=W.old g h;simp;omega
    frz:=W.frz }
   refine⟨_,_,L.addOwn id w.heap.size,hrun,S.mapV (fun v u h=>jR K h) (fun b g h=>⟨h,G.block g (W.boxW b g h).1⟩) wf (G.kp _ S.hB),some ⟨w.heap.size,0,none⟩,grownCap w (xs.length+ys.length) cap e',olds++news,by simp, ?_, ?_⟩
   ·exact (hxo.append hre).trans (p:=Tag.is id) (q:=fun _=>false) rfl K
   ·have:=tN (olds:=olds) (news:=news) (id:=id) (n:=xs.length+ys.length) (L':=L.addOwn id w.heap.size) (by simp [Lay.addOwn,upd]) hh hzs (by rw[List.length_append,hol,hnl,Nat.add_mul]) hf1
    rw[List.length_append]
    exact this
  rcases hmem with ⟨h1,rfl,rfl⟩|⟨g,arr,h1,rfl,h3,h4,h5,h6,h7⟩
  ·
   have hx0:xs=[]:=List.eq_nil_of_length_eq_zero h1
   subst hx0
   simp only[RepE] at hxe
   subst hxe
   rcases Nat.eq_zero_or_pos ys.length with h0|h0
   ·rw[h0] at hsrc
    have hys0:ys=[]:=List.eq_nil_of_length_eq_zero h0
    subst hys0
    refine⟨_,w,L,jS hu hi hsrc,S.mapV (fun v u h=>jR ?_ h) (fun b g h=>⟨h,rfl⟩) (S.wf.mono (by omega) (Nat.le_refl _)) (Kp.refl _ _ _),none,0,[],rfl,rfl,.inl ⟨rfl,rfl,rfl⟩⟩
    exact⟨rfl,fun g h=>⟨h,.of rfl⟩,fun j e _ g h=>⟨⟨rfl,h⟩,rfl⟩,fun _ _ _ h=>⟨h,.of rfl⟩⟩
   ·exact hgrow [] (by simp [Builtin.firstCells]) rfl (by simpa using h0)
  ·by_cases hroom:xs.length+ys.length≤cap
   ·have hfit:xs.length*i.size+news.length≤arr.size:=by rw[hnl,h6,←Nat.add_mul];exact Nat.mul_le_mul_right _ hroom
    have hrun:=jC (P:=P) (ty:=ty) hu hi h3 hsrc hroom hfit
    have K:=keepRow g (arr.toList.take (xs.length*i.size)++news++arr.toList.drop (xs.length*i.size+news.length)).toArray h1
    refine⟨_,_,L,hrun,S.mapV (fun v u h=>jR K h) (fun b g' h=>⟨h,setRow_other w g g' _ (fun e=>by subst e;exact S.wf.dis id b _ h1 h)⟩) (S.wf.mono (by omega) (by simp)) (Kp.setRow _ (S.wf.own id g h1).2.1),
     some ⟨g,0,none⟩,cap,cells++news,by simp,(hxe.append hre).trans (p:=Tag.is id) (q:=fun _=>false) rfl K,.inr ⟨g,_,h1,rfl,setRow_heap w g arr _ e' _ h3,by simpa using hroom,h5, ?_, ?_⟩⟩
    ·simp only[List.size_toArray,List.length_append,List.length_take,List.length_drop,Array.length_toList]
     omega
    ·rw[h7]
     have:(xs++ys).length*i.size=(cells++news).length:=by rw[List.length_append,List.length_append,hxl,hnl,Nat.add_mul]
     rw[this]
     exact List.take_left
   ·refine hgrow cells ?_ hxe (by omega)
    refine run_firstCells_some w.drew i.size xs.length ⟨g,0,none⟩ _ cap cells hxl ?_
    intro j v hj
    rw[dS,World.cell?_drew]
    have hrow:Row w g 0 cells:=⟨arr,e',(0,0),h3,by rw[hxl];simpa using h7⟩
    exact hrow.cell hj
 ·
  rename_i k'
  simp only[Option.ite_none_right_eq_some,Option.some.injEq,Prod.mk.injEq] at h
  obtain⟨⟨hf1,hf2⟩,rfl,rfl⟩:=h
  obtain⟨ad,cap,cells,rfl,hxe,hmem⟩:=hx
  obtain⟨_,hads,rfl⟩:=hmem
  obtain⟨a0,rfl⟩:=Option.isSome_iff_exists.1 hads
  cases ys with
  | nil =>
   have hn0:news=[]:=List.eq_nil_of_length_eq_zero (by simpa using hnl)
   subst hn0
   exact⟨_,w,L,uq hu hi hsrc,⟨S.defers,S.size,S.env,S.hid,S.box,S.wf.mono (by simp) (Nat.le_refl _),S.kp⟩,some a0,0,[],rfl,rfl,rfl,rfl,rfl⟩
  | cons y0 ys =>
   have h0:0<(y0::ys).length:=by simp
   have hrun:=run_append_grow_src (P:=P) w t t2 ty e i z hu hi hz (some a0) 0 0 [] (by simp [Builtin.firstCells,loadCells,loadCellsFrom]) uy (y0::ys).length news hsrc (by omega)
    (by simp only[maxLen] at hf1;omega) (growslice_fits (by omega) (by rw[Nat.zero_add];exact hf2))
   simp only[Nat.zero_add] at hrun
   have G:=Grow.drewAlloc w (dH w [] news (y0::ys).length 0 e z)
   have E:=S.wf.leOwn (s:=s) w.heap.size
   have hh:(w.drew.alloc (dH w [] news (y0::ys).length 0 e z)).heap[w.heap.size]?=some (dH w [] news (y0::ys).length 0 e z):=heap_alloc_new w.drew _
   refine⟨_,_,L.addOwn s.nid w.heap.size,hrun,S.grow G E rfl (fun b cs h => .inl h) (S.wf.addOwn S.hB (by simp)),_,_,news,rfl, ?_, ?_⟩
   ·exact hre.trans (p:=fun _=>false) (q:=fun _=>false) rfl (S.wf.whole G E)
   ·have:=tN (olds:=[]) (id:=s.nid) (L':=L.addOwn s.nid w.heap.size) (by simp [Lay.addOwn,upd]) hh hzs (by simpa using hnl) hf1
    exact this
 ·cases h
end
end Go.Pg
end
