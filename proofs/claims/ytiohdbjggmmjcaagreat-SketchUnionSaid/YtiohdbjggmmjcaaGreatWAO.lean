/-
  Merged texts.
-/
import Derived.Test.YtiohdbjggmmjcaaGreatWAK
set_option linter.unusedVariables false
set_option linter.unusedSimpArgs false
set_option linter.unusedSectionVars false
set_option linter.defProp false
set_option maxRecDepth 100000
set_option maxHeartbeats 8000000
section
namespace Go.Pg
open Go
inductive Ka where
 | q
 | rb (b:Nat)
 | xb (b:Nat)
 | z
def Ka.notZ:Ka→Bool
 | .z=>false
 | _=>true
def wrA(κ:Ka)(c:Option (TypeId × List V))(s:St):St:=match κ with | .xb b=>{ s with bx:=upd s.bx b c }|_=>s
def stepA(P:Program)(n0 i:Nat)(s:St)(o:Oper):Option (Ka × St) :=
 match o.op with
 | .alloc e=>(kV P e).map fun z=>(.xb (n0+i),({ s with bx:=upd s.bx (n0+i) (some (e,z.cells.toList.map .c)) }:St).put o.dst (.ref (n0+i) 0))
 | .store t x y=>match s.ev x with
  | .ref b off=>(jB P s t b off (s.ev y)).map fun s'=>(.xb b,s'.put o.dst .top)
  | _=>none
 | .load t x=>match s.ev x with
  | .ref b off=>(lH P s t b off).map fun r=>(.rb b,s.put o.dst r)
  | _=>(qv P s o.op).map fun r=>(.q,s.put o.dst r)
 | op=>(qv P s op).map fun r=>(.q,s.put o.dst r)
section
variable {P:Program} [Tb P] {C:Cx} {s s':St} {L:Lay} {a:Act} {w:World} {o:Oper}
theorem Wf.leBoxAt(W:Wf C s.nid L w){m:Nat}(hm:L.box m=none)(g:Nat):L.Le (L.addBox m g) :=
 ⟨fun _ h=>h,fun _ _ h=>h,fun i g' h=>by
  have:i≠m:=fun e=>by subst e;rw[hm] at h;cases h
  simp [Lay.addBox,upd,this,h]⟩
theorem Wf.addBoxAt{nid m:Nat}(W:Wf C nid L w)(hm:m<nid)(hB:C.B≤w.heap.size){w':World}(hs:w.heap.size<w'.heap.size):Wf C nid (L.addBox m w.heap.size) w' where
 nidO:=W.nidO
 nidB:=fun id g h=>by
  simp only[Lay.addBox,upd] at h
  split at h
  ·omega
  ·exact W.nidB id g h
 own:=fun b g h=>by obtain⟨h1,h2,h3⟩:=W.own b g h;exact⟨by omega,h2,h3⟩
 boxW:=fun id g h=>by
  simp only[Lay.addBox,upd] at h
  split at h
  ·simp only[Option.some.injEq] at h;subst h;exact⟨hs,.inl hB,fun h=>by have:=W.old _ h;omega⟩
  ·obtain⟨h1,h2,h3⟩:=W.boxW id g h;exact⟨by omega,h2,h3⟩
 injO:=W.injO
 injB:=fun i j g h h'=>by
  simp only[Lay.addBox,upd] at h h'
  split at h<;>split at h'
  ·omega
  ·simp only[Option.some.injEq] at h;subst h;have:=(W.boxW j _ h').1;omega
  ·simp only[Option.some.injEq] at h';subst h';have:=(W.boxW i _ h).1;omega
  ·exact W.injB i j g h h'
 dis:=fun i j g h h'=>by
  simp only[Lay.addBox,upd] at h'
  split at h'
  ·simp only[Option.some.injEq] at h';subst h';have:=(W.own i _ h).1;omega
  ·exact W.dis i j g h h'
 old:=fun g h=>by have:=W.old g h;omega
 frz:=W.frz
theorem IU{m:Nat}{e:TypeId}{l:List V}{us:Array Value}(S:Sim C s L a w)(hm:m<s.nid)(hf:L.box m=none)(hr:Reps L w l us.toList) :
  Sim C { s with bx:=upd s.bx m (some (e,l)) } (L.addBox m w.heap.size) a (w.alloc (.cells us e))∧Rep (L.addBox m w.heap.size) (w.alloc (.cells us e)) (.ref m 0) (.pointer (some ⟨w.heap.size,0,none⟩)):=by
 have G:=Grow.alloc w (.cells us e)
 have E:=S.wf.leBoxAt hf w.heap.size
 refine⟨S.grow G E rfl ?_ (S.wf.addBoxAt hm S.hB (by simp)),w.heap.size,by simp [Lay.addBox,upd],rfl⟩
 intro b cs h
 simp only[upd] at h
 split at h
 ·rename_i hb
  subst hb
  simp only[Option.some.injEq] at h
  subst h
  exact .inr ⟨w.heap.size,us,by simp [Lay.addBox,upd],heap_alloc_new w _,(hr.whole (S.wf.whole G E)).takeAll⟩
 ·exact .inl h
theorem Me{n0 i:Nat}{κ:Ka}(h:stepA P n0 i s o=some (κ,s'))(S:Sim C s L a w)(hm:n0+i<s.nid)(hf:L.box (n0+i)=none)(hd:∀t,o.dst=some t→t<C.n) :
  ∃u w' L',Does P o a w u w'∧Sim C s' L' (a.put o.dst u) w'∧∀b,b≠n0+i→L'.box b=L.box b∧L'.own b=L.own b:=by
 obtain⟨dst,op,type,pos,after,guard⟩:=o
 simp only at hd
 have qcase:∀r,qv P s op=some r→s'=s.put dst r→∃u w' L',Does P ⟨dst,op,type,pos,after,guard⟩ a w u w'∧Sim C s' L' (a.put dst u) w'∧∀b,b≠n0+i→L'.box b=L.box b∧L'.own b=L.own b:=by
  rintro r hr rfl
  obtain⟨u,h1,h2⟩:=N9 (o:=⟨dst,op,type,pos,after,guard⟩) hr S
  exact⟨u,w,L,h1,S.put h2 hd,fun _ _=>⟨rfl,rfl⟩⟩
 unfold stepA at h
 simp only at h
 split at h
 ·rename_i e
  simp only[Option.map_eq_some_iff,Prod.mk.injEq] at h
  obtain⟨z,hz,rfl,rfl⟩:=h
  obtain⟨S',hr⟩:=IU (e:=e) (us:=z.cells) S hm hf (qf L w z.cells.toList)
  refine⟨_,_,_,.inl ?_,S'.put hr hd,fun b hb=>by simp [Lay.addBox,upd,hb]⟩
  have:(Instr.alloc e true (.tuple #[])).run P w = .ok (.pointer (some ⟨w.heap.size,0,none⟩)) (w.alloc (.cells z.cells e)):=by simp [Instr.alloc,lh hz,newVar,newRow]
  simp only[execOp,Sem.run_bind,this,Result.andThen_ok,Sem.run_pure]
 ·rename_i t x y
  split at h
  ·rename_i b off hx
   simp only[Option.map_eq_some_iff,Prod.mk.injEq] at h
   obtain⟨s1,h,rfl,rfl⟩:=h
   have hr:=S.ev x
   rw[hx] at hr
   obtain⟨w',h1,h2⟩:=xg h S hr (S.ev y)
   exact⟨undef,w',L,.inr ⟨by simp only[execOp,Sem.run_bind,h1,Result.andThen_ok,Sem.run_pure],rfl⟩,h2.put (v := .top) trivial hd,fun _ _=>⟨rfl,rfl⟩⟩
  ·cases h
 ·rename_i t x
  split at h
  ·rename_i b off hx
   simp only[Option.map_eq_some_iff,Prod.mk.injEq] at h
   obtain⟨r,h,rfl,rfl⟩:=h
   have hr:=S.ev x
   rw[hx] at hr
   obtain⟨u,h1,h2⟩:=Ar h S hr
   exact⟨u,w,L,.inl (by simp only[execOp,Sem.run_bind,h1,Result.andThen_ok,Sem.run_pure]),S.put h2 hd,fun _ _=>⟨rfl,rfl⟩⟩
  ·simp only[Option.map_eq_some_iff,Prod.mk.injEq] at h
   obtain⟨r,h,_,rfl⟩:=h
   exact qcase r h rfl
 ·simp only[Option.map_eq_some_iff,Prod.mk.injEq] at h
  obtain⟨r,h,_,rfl⟩:=h
  exact qcase r h rfl
theorem Ou(κ:Ka)(c:Option (TypeId × List V))(t:Nat):(wrA κ c s).env t=s.env t:=by cases κ<;>rfl
theorem Ov(κ:Ka)(c:Option (TypeId × List V))(d:Option Nat)(v:V):wrA κ c (s.put d v)=(wrA κ c s).put d v:=by cases κ<;>cases d<;>rfl
theorem abd(κ:Ka)(c:Option (TypeId × List V)):(wrA κ c s).nid=s.nid:=by cases κ<;>rfl
theorem abe(d:Option Nat)(v:V):(s.put d v).nid=s.nid:=by cases d<;>rfl
theorem IV{n0 i:Nat}{κ:Ka}(h:stepA P n0 i s o=some (κ,s')):∃(v:V) (c:Option (TypeId × List V)),s'=(wrA κ c s).put o.dst v ∧
  ∀s2:St,(∀t∈lkO o,s2.env t=s.env t)→(∀b,(κ = .rb b∨κ = .xb b)→s2.bx b=s.bx b)→stepA P n0 i s2 o=some (κ,(wrA κ c s2).put o.dst v):=by
 obtain⟨dst,op,type,pos,after,guard⟩:=o
 have qcase:∀r,qv P s op=some r→s'=s.put dst r→κ = .q→(∀s2:St,(∀x∈op.operands.toList,s2.ev x=s.ev x)→stepA P n0 i s2 ⟨dst,op,type,pos,after,guard⟩=(qv P s2 op).map fun r=>(.q,s2.put dst r)) →
   ∃(v:V) (c:Option (TypeId × List V)),s'=(wrA κ c s).put dst v∧∀s2:St,(∀t∈lkO ⟨dst,op,type,pos,after,guard⟩,s2.env t=s.env t)→(∀b,(κ = .rb b∨κ = .xb b)→s2.bx b=s.bx b)→stepA P n0 i s2 ⟨dst,op,type,pos,after,guard⟩=some (κ,(wrA κ c s2).put dst v):=by
  rintro r hr rfl rfl hst
  refine⟨r,none,rfl,fun s2 he _ => ?_⟩
  have he':=iw (o:=⟨dst,op,type,pos,after,guard⟩) he
  rw[hst s2 he',AX he',hr]
  rfl
 unfold stepA at h
 simp only at h
 split at h
 ·simp only[Option.map_eq_some_iff,Prod.mk.injEq] at h
  obtain⟨z,hz,rfl,rfl⟩:=h
  refine⟨.ref (n0+i) 0,_,rfl,fun s2 _ _ => ?_⟩
  simp only[stepA,hz,Option.map_some]
  rfl
 ·rename_i t x y
  split at h
  ·rename_i b off hx
   simp only[Option.map_eq_some_iff,Prod.mk.injEq] at h
   obtain⟨s1,h,rfl,rfl⟩:=h
   simp only[jB,Option.bind_eq_some_iff,Option.ite_none_right_eq_some,Option.some.injEq] at h
   obtain⟨⟨e,cs⟩,hcs,l,hl,h1,rfl⟩:=h
   refine⟨.top,_,rfl,fun s2 he hb => ?_⟩
   have he':=iw (o:=⟨dst,.store t x y,type,pos,after,guard⟩) he
   have hx2:s2.ev x = .ref b off:=by rw[he' x (by simp [Op.operands]),hx]
   have hy2:s2.ev y=s.ev y:=he' y (by simp [Op.operands])
   simp only[stepA,hx2,jB,hy2,hb b (.inr rfl),hcs,Option.bind_some,hl,if_pos h1,Option.map_some]
   rfl
  ·cases h
 ·rename_i t x
  split at h
  ·rename_i b off hx
   simp only[Option.map_eq_some_iff,Prod.mk.injEq] at h
   obtain⟨r,h,rfl,rfl⟩:=h
   refine⟨r,none,rfl,fun s2 he hb => ?_⟩
   have he':=iw (o:=⟨dst,.load t x,type,pos,after,guard⟩) he
   have hx2:s2.ev x = .ref b off:=by rw[he' x (by simp [Op.operands]),hx]
   have:lH P s2 t b off=some r:=by unfold lH at h ⊢;rw[hb b (.inl rfl)];exact h
   simp only[stepA,hx2,this,Option.map_some]
   rfl
  ·rename_i hnr
   simp only[Option.map_eq_some_iff,Prod.mk.injEq] at h
   obtain⟨r,h,hk,hs⟩:=h
   refine qcase r h hs.symm hk.symm (fun s2 he' => ?_)
   have hx2:s2.ev x=s.ev x:=he' x (by simp [Op.operands])
   simp only[stepA]
   split
   ·rename_i b off hx
    exact absurd (hx2 ▸ hx) (hnr b off)
   ·rfl
 ·rename_i h1 h2 h3
  simp only[Option.map_eq_some_iff,Prod.mk.injEq] at h
  obtain⟨r,h,hk,hs⟩:=h
  refine qcase r h hs.symm hk.symm (fun s2 _ => ?_)
  unfold stepA
  simp only
theorem Wf.leOwnAt(W:Wf C s.nid L w){m:Nat}(hm:L.own m=none)(g:Nat):L.Le (L.addOwn m g) :=
 ⟨fun _ h=>h,fun i g' h=>by
  have:i≠m:=fun e=>by subst e;rw[hm] at h;cases h
  simp [Lay.addOwn,upd,this,h],fun _ _ h=>h⟩
theorem Wf.addOwnAt{nid m:Nat}(W:Wf C nid L w)(hm:m<nid)(hB:C.B≤w.heap.size){w':World}(hs:w.heap.size<w'.heap.size):Wf C nid (L.addOwn m w.heap.size) w' where
 nidO:=fun id g h=>by
  simp only[Lay.addOwn,upd] at h
  split at h
  ·omega
  ·exact W.nidO id g h
 nidB:=W.nidB
 own:=fun id g h=>by
  simp only[Lay.addOwn,upd] at h
  split at h
  ·simp only[Option.some.injEq] at h;subst h;exact⟨hs,.inl hB,fun h=>by have:=W.old _ h;omega⟩
  ·obtain⟨h1,h2,h3⟩:=W.own id g h;exact⟨by omega,h2,h3⟩
 boxW:=fun b g h=>by obtain⟨h1,h2,h3⟩:=W.boxW b g h;exact⟨by omega,h2,h3⟩
 injO:=fun i j g h h'=>by
  simp only[Lay.addOwn,upd] at h h'
  split at h<;>split at h'
  ·omega
  ·simp only[Option.some.injEq] at h;subst h;have:=(W.own j _ h').1;omega
  ·simp only[Option.some.injEq] at h';subst h';have:=(W.own i _ h).1;omega
  ·exact W.injO i j g h h'
 injB:=W.injB
 dis:=fun i j g h h'=>by
  simp only[Lay.addOwn,upd] at h
  split at h
  ·simp only[Option.some.injEq] at h;subst h;have:=(W.boxW j _ h').1;omega
  ·exact W.dis i j g h h'
 old:=fun g h=>by have:=W.old g h;omega
 frz:=W.frz
theorem IW{m:Nat}{e:TypeId}{k cap:Nat}{xs:List V}{arr:Array Value}(S:Sim C s L a w)(hm:m<s.nid)(hf:L.own m=none)(hcap:arr.size=cap*k)(hlen:xs.length≤cap)(hx:cap≤maxLen)(hr:RepE L w k xs (arr.toList.take (xs.length*k))) :
  Sim C s (L.addOwn m w.heap.size) a (w.alloc (.cells arr e))∧Rep (L.addOwn m w.heap.size) (w.alloc (.cells arr e)) (.sl (.own m e) k xs) (.slice (some ⟨w.heap.size,0,none⟩) xs.length cap):=by
 have G:=Grow.alloc w (.cells arr e)
 have E:=S.wf.leOwnAt hf w.heap.size
 have K:o7 L (L.addOwn m w.heap.size) w (w.alloc (.cells arr e)):=S.wf.whole G E
 refine⟨S.grow G E rfl (fun b cs h => .inl h) (S.wf.addOwnAt hm S.hB (by simp)),_,_,_,rfl,hr.trans (p:=fun _=>false) (q:=fun _=>false) rfl K, ?_⟩
 exact .inr ⟨w.heap.size,arr,by simp [Lay.addOwn,upd],rfl,heap_alloc_new w _,hlen,hx,hcap,rfl⟩
theorem IX{f:FuncId}{vs:List V}{us:List Value}{r:V}{m:Nat}(hT:C.TOk P)(S:Sim C s L a w)(hm:m<s.nid)(hf:L.own m=none)(h1:r.idb≤1)(hr:Reps L w vs us)(hg:Good P f (vs.map V.erase) r)(href:noRefs vs=true)(hrr:r.noRef=true)(hof:(ownFree vs||r.flat)=true) :
  Calls P f us.toArray w fun e w'=>∃u L',e = .returned u∧Sim C s L' a w'∧Rep L' w' (r.shift m) u∧∀b,b≠m→L'.box b=L.box b∧L'.own b=L.own b:=by
 have hB:=S.hB
 let A1:Nat→Prop:=fun g=>L.A g∨(r.flat=true∧∃id,L.own id=some g)
 have hA1:∀g,A1 g→g<w.heap.size:=fun g h=>h.elim (S.wf.old g) (fun⟨_,id,h⟩=>(S.wf.own id g h).1)
 have hargs:Reps ⟨A1,fun _=>none,fun _=>none⟩ w (vs.map V.erase) us:=by
  cases hfl:r.flat with
  | true =>
   have K:Trans (fun _=>false) (fun _=>true) (fun _ => .fz) id L ⟨A1,fun _=>none,fun _=>none⟩ w w :=
    ⟨rfl,fun g h=>⟨.inl h,.of rfl⟩,fun i e _ g h=>⟨.inr ⟨hfl,i,h⟩,rfl⟩,fun b hb=>by simp at hb⟩
   have:=hr.trans rfl K (by simpa [noRefs] using href)
   rwa [vw] at this
  | false =>
   have K:Trans Tag.isOwn (fun _=>true) (fun _ => .fz) id L ⟨A1,fun _=>none,fun _=>none⟩ w w :=
    ⟨rfl,fun g h=>⟨.inl h,.of rfl⟩,fun i e h=>by simp [Tag.isOwn] at h,fun b hb=>by simp at hb⟩
   have h1:ownFree vs=true:=by simpa [hfl] using hof
   have h3:=(Es (p:=Tag.isOwn) (p':=fun _=>false) (q:=fun _=>false) (q':=fun _=>true)).2 vs (by simpa [ownFree] using h1) (by simpa [noRefs] using href)
   have:=hr.trans (p:=Tag.isOwn) (q:=fun _=>true) rfl K (by simpa using h3)
   rwa [vw] at this
 refine (hg.2 A1 w us (Um hT S) hA1 hargs).mono ?_
 rintro e w' ⟨u,L1,rfl,hru,hkp,hlay⟩
 have G:Grow w w':=⟨hkp.os,hkp.tape,hkp.output,hkp.size,fun k hk=>hkp.block k hk (fun h=>h),hkp.drawn⟩
 let L2:Lay:={ A:=fun g=>L.A g∨(L1.A g∧w.heap.size≤g),own:=fun j=>if j=m then (if 0<r.idb then L1.own 0 else none) else L.own j,box:=L.box }
 have E:L.Le L2:=⟨fun g h => .inl h,fun i g h=>by
  have:i≠m:=fun e=>by subst e;rw[hf] at h;cases h
  simp [L2,this,h],fun _ _ h=>h⟩
 have W:=S.wf
 have wf:Wf C s.nid L2 w':={
  nidO:=fun j g h=>by
   simp only[L2] at h
   split at h
   ·omega
   ·exact W.nidO j g h
  nidB:=W.nidB
  own:=fun j g h=>by
   simp only[L2] at h
   split at h
   ·split at h
    ·obtain⟨h1,h2,h3⟩:=hlay.own _ g h
     exact⟨h2,.inl (by omega),fun h'=>h'.elim (fun h'=>by have:=W.old g h';omega) (fun⟨h',_⟩=>h3 h')⟩
    ·cases h
   ·obtain⟨h1,h2,h3⟩:=W.own j g h
    exact⟨by have:=G.size;omega,h2,fun h'=>h'.elim h3 (fun⟨_,h'⟩=>by omega)⟩
  boxW:=fun b g h=>by
   obtain⟨h1,h2,h3⟩:=W.boxW b g h
   exact⟨by have:=G.size;omega,h2,fun h'=>h'.elim h3 (fun⟨_,h'⟩=>by omega)⟩
  injO:=fun i j g h h'=>by
   simp only[L2] at h h'
   split at h<;>split at h'
   ·omega
   ·split at h
    ·have:=(W.own j g h').1;have:=(hlay.own _ g h).1;omega
    ·cases h
   ·split at h'
    ·have:=(W.own i g h).1;have:=(hlay.own _ g h').1;omega
    ·cases h'
   ·exact W.injO i j g h h'
  injB:=W.injB
  dis:=fun i j g h h'=>by
   simp only[L2] at h
   split at h
   ·split at h
    ·have:=(hlay.own _ g h).1;have:=(W.boxW j g h').1;omega
    ·cases h
   ·exact W.dis i j g h h'
  old:=fun g h=>h.elim (fun h=>by have:=W.old g h;have:=G.size;omega) (fun⟨h,h'⟩=>by
   rcases hlay.A g h with h1|h1
   ·have:=hA1 g h1;omega
   ·exact h1.2)
  frz:=fun g h=>h.elim (W.frz g) (fun⟨_,h'⟩ => .inr (.inl (by omega))) }
 refine⟨u,L2,rfl,S.grow G E rfl (fun b cs h => .inl h) wf, ?_,fun b hb=>⟨rfl,by simp [L2,hb]⟩⟩
 have hsh:∀id e,Tag.ge r.idb (.own id e)=false→∀g,L1.own id=some g→L2.own (id+m)=some g:=by
  intro id e hid g h
  simp only[Tag.ge,Bool.not_eq_eq_eq_not,Bool.not_false,decide_eq_true_eq] at hid
  have h0:id=0:=by omega
  subst h0
  have hp:0<r.idb:=by omega
  simp [L2,hp,h]
 have hany:r.any (fun t=>Tag.ge r.idb t||false) (fun b=>false||true) false=false:=by
  have:=(Es (p:=Tag.ge r.idb) (p':=fun _=>false) (q:=fun _=>false) (q':=fun _=>true)).1 r ((Ep r.idb).1 r (Nat.le_refl _)) (by simpa [V.noRef] using hrr)
  exact this
 cases hfl:r.flat with
 | true =>
  have hru':=(Hg (fun _=>False)).1 r u hfl hru
  have K:Trans (fun t=>Tag.ge r.idb t||false) (fun b=>false||true) (fun t=>match t with | .fz => .fz | .nn => .nn | .own id e => .own (id+m) e) id { L1 with A:=fun _=>False } L2 w' w' :=
   ⟨rfl,fun g h=>h.elim,fun id e hid g h=>⟨⟨rfl,hsh id e (by simpa using hid) g h⟩,rfl⟩,fun b hb=>by simp at hb⟩
  exact hru'.trans rfl K hany
 | false =>
  have K:Trans (fun t=>Tag.ge r.idb t||false) (fun b=>false||true) (fun t=>match t with | .fz => .fz | .nn => .nn | .own id e => .own (id+m) e) id L1 L2 w' w':=by
   refine⟨rfl,fun g h=>⟨?_,.of rfl⟩,fun id e hid g h=>⟨⟨rfl,hsh id e (by simpa using hid) g h⟩,rfl⟩,fun b hb=>by simp at hb⟩
   rcases hlay.A g h with h1|h1
   ·rcases h1 with h1|⟨h1,_⟩
    ·exact .inl h1
    ·rw[hfl] at h1;cases h1
   ·exact .inr ⟨h,h1.1⟩
  exact hru.trans rfl K hany
def apN(m el k bytes:Nat)(x:V)(ys:List V):Option V :=
 match x with
 | .c (.slice none 0 0)=>if Fits ys.length bytes then some (.sl (.own m el) k ys) else none
 | _=>none
def apA(P:Program)(m:Nat)(t t2:TypeId)(x y:V):Option V:=(elemT P t).bind fun e=>(tapp P e).bind fun p=>(vH P t2 p.1 y).bind fun ys=>apN m e p.1 p.2 x ys
theorem aeu{m:Nat}{t t2 ty:TypeId}{x y v:V}{ux uy:Value}(h:apA P m t t2 x y=some v)(S:Sim C s L a w)(hm:m<s.nid)(hf:L.own m=none)(hx:Rep L w x ux)(hy:Rep L w y uy) :
  ∃u w' L',(Builtin.append_ #[t,t2] ty #[ux,uy]).run P w = .ok u w'∧Sim C s L' a w'∧Rep L' w' v u∧∀b,b≠m→L'.box b=L.box b∧L'.own b=L.own b:=by
 simp only[apA,Option.bind_eq_some_iff,Prod.exists] at h
 obtain⟨e,he,k,bytes,hk,ys,hys,h⟩:=h
 obtain⟨i,z,hi,hz,hzs,rfl,rfl,hpos⟩:=jc hk
 have hu:=bW he
 obtain⟨news,hsrc,hre⟩:=Aw hys hy
 have hnl:=hre.length
 unfold apN at h
 split at h
 ·simp only[Option.ite_none_right_eq_some,Option.some.injEq] at h
  obtain⟨⟨hf1,hf2⟩,rfl⟩:=h
  simp only[Rep] at hx;subst hx
  rcases Nat.eq_zero_or_pos ys.length with h0|h0
  ·rw[h0] at hsrc
   have hys0:ys=[]:=List.eq_nil_of_length_eq_zero h0
   subst hys0
   exact⟨_,w,L,jS hu hi hsrc,S,⟨none,0,[],rfl,rfl,.inl ⟨rfl,rfl,rfl⟩⟩,fun _ _=>⟨rfl,rfl⟩⟩
  ·have hrun:=run_append_grow_src (P:=P) w t t2 ty e i z hu hi hz none 0 0 [] (by simp [Builtin.firstCells]) uy ys.length news hsrc (by omega)
    (by simp only[maxLen] at hf1;omega) (growslice_fits (by omega) (by rw[Nat.zero_add];exact hf2))
   simp only[Nat.zero_add] at hrun
   have G:=Grow.drewAlloc w (dH w [] news ys.length 0 e z)
   have E:=S.wf.leOwnAt hf w.heap.size
   have hh:(w.drew.alloc (dH w [] news ys.length 0 e z)).heap[w.heap.size]?=some (dH w [] news ys.length 0 e z):=heap_alloc_new w.drew _
   refine⟨_,_,L.addOwn m w.heap.size,hrun,S.grow G E rfl (fun b cs h => .inl h) (S.wf.addOwnAt hm S.hB (by simp)),⟨_,_,news,rfl, ?_, ?_⟩,fun b hb=>by simp [Lay.addOwn,upd,hb]⟩
   ·exact hre.trans (p:=fun _=>false) (q:=fun _=>false) rfl (S.wf.whole G E)
   ·exact tN (olds:=[]) (id:=m) (L':=L.addOwn m w.heap.size) (by simp [Lay.addOwn,upd]) hh hzs (by simpa using hnl) hf1
 ·cases h
inductive RA (P:Program) [Tb P] (n0 i:Nat) (s:St) (o:Oper):Ka→St→Prop
 | st {κ:Ka} {s':St} (h:stepA P n0 i s o=some (κ,s')):RA P n0 i s o κ s'
 | bs {t:TypeId} {len:Nat} {parts:Array (Nat × Operand)} {e:TypeId} {k bytes:Nat} {v:V} {xs:List V} (ho:o.op = .buildSlice t len parts) (he:elemT P t=some e) (hk:tapp P e=some (k,bytes)) (hv:zelem P e=some v)
   (hxs:setAll k (List.replicate len v) (parts.toList.map fun p=>(p.1,s.ev p.2))=some xs) (hl:len*k≤16777216):RA P n0 i s o .q (s.put o.dst (.sl (bsTag len (n0+i) e) k xs))
 | call {f:Operand} {args:Array Operand} {ts:Array TypeId} {g:FuncId} {fs cs:List V} {r:V} (ho:o.op = .call { callee := .value f,args:=args,argTypes:=ts }) (hf:s.ev f = .fn g fs cs) (hg:Good P g ((fs++args.toList.map s.ev++cs).map V.erase) r)
   (h1:ownFree (fs++cs)=true) (h2:noRefs (fs++args.toList.map s.ev++cs)=true) (h3:r.noRef=true) (h4:(ownFree (args.toList.map s.ev)||r.flat)=true) (h5:r.idb≤1):RA P n0 i s o .q (s.put o.dst (r.shift (n0+i)))
 | ap {x y:Operand} {t t2:TypeId} {v:V} (ho:o.op = .call { callee := .builtin .append,args:=#[x,y],argTypes:=#[t,t2] }) (h:apA P (n0+i) t t2 (s.ev x) (s.ev y)=some v):RA P n0 i s o .q (s.put o.dst v)
 | z {f:Operand} {args:Array Operand} {ts:Array TypeId} {g:FuncId} {fs cs:List V} {s1:St} {r:V} (ho:o.op = .call { callee := .value f,args:=args,argTypes:=ts }) (hf:s.ev f = .fn g fs cs) (hg:GoodZ P g (fs++args.toList.map s.ev++cs) s s1 r):RA P n0 i s o .z (s1.put o.dst r)
theorem Bi{n0 i:Nat}{κ:Ka}(h:RA P n0 i s o κ s')(hz:κ ≠ .z):∃(v:V) (c:Option (TypeId × List V)),s'=(wrA κ c s).put o.dst v ∧
  ∀s2:St,(∀t∈lkO o,s2.env t=s.env t)→(∀b,(κ = .rb b∨κ = .xb b)→s2.bx b=s.bx b)→RA P n0 i s2 o κ ((wrA κ c s2).put o.dst v):=by
 cases h with
 | st h =>
  obtain⟨v,c,h1,h2⟩:=IV h
  exact⟨v,c,h1,fun s2 ha hb => .st (h2 s2 ha hb)⟩
 | bs ho he hk hv hxs hl =>
  rename_i t len parts e k bytes v xs
  refine⟨_,none,rfl,fun s2 ha _ => ?_⟩
  have he':=iw ha
  have:(parts.toList.map fun p=>(p.1,s2.ev p.2))=parts.toList.map fun p=>(p.1,s.ev p.2):=by
   refine List.map_congr_left fun p hp => ?_
   rw[he' p.2 (by rw[ho];simp only[Op.operands];simpa using ⟨p.1,by simpa using hp⟩)]
  exact .bs ho he hk hv (by rw[this];exact hxs) hl
 | call ho hf hg h1 h2 h3 h4 h5 =>
  rename_i f args ts g fs cs r
  refine⟨_,none,rfl,fun s2 ha _ => ?_⟩
  have he':=iw ha
  rw[ho] at he'
  have hfe:s2.ev f=s.ev f:=he' f (by simp [Op.operands,Call.operands])
  have hae:args.toList.map s2.ev=args.toList.map s.ev:=List.map_congr_left fun x hx=>he' x (by simp [Op.operands,Call.operands] at hx ⊢;simp [hx])
  exact .call ho (by rw[hfe];exact hf) (by rw[hae];exact hg) h1 (by rw[hae];exact h2) h3 (by rw[hae];exact h4) h5
 | ap ho h =>
  rename_i x y t t2 v
  refine⟨_,none,rfl,fun s2 ha _ => ?_⟩
  have he':=iw ha
  rw[ho] at he'
  exact .ap ho (by rw[he' x (by simp [Op.operands,Call.operands]),he' y (by simp [Op.operands,Call.operands])];exact h)
 | z=>exact absurd rfl hz
theorem aev{n0 i:Nat}{κ:Ka}(h:RA P n0 i s o κ s')(hz:κ ≠ .z):s'.nid=s.nid:=by
 obtain⟨v,c,rfl,_⟩:=Bi h hz
 rw[abe,abd]
theorem agc{n0 i:Nat}{κ:Ka}{next:Act→World→Prop}{Q:Exit→Act→World→Prop}(h:RA P n0 i s o κ s')(hT:C.TOk P)(S:Sim C s L a w)(hm:n0+i<s.nid)(hfb:L.box (n0+i)=none)(hfo:L.own (n0+i)=none)
  (hd:∀t,o.dst=some t→t<C.n) (hn:∀L' a' w',Sim C s' L' a' w'→(κ ≠ .z→∀b,b≠n0+i→L'.box b=L.box b∧L'.own b=L.own b)→next a' w'):o.wp P a w next Q:=by
 cases h with
 | st h =>
  obtain⟨u,w',L',h1,h2,h3⟩:=Me h S hm hfb hd
  exact h1.wp (hn L' _ _ h2 fun _=>h3)
 | bs ho he hk hv hxs hl =>
  rename_i t len parts e k bytes v xs
  obtain⟨ur,h1,hul,h3,h2,hx⟩:=mY S.ev he hk hv hxs hl
  obtain⟨S',hr⟩:=IW (e:=e) (k:=k) (cap:=len) (xs:=xs) (arr:=ur) S hm hfo hul (by omega) hx (by rw[h3,←hul,←Array.length_toList,List.take_length];exact h2)
  rw[h3] at hr
  have hr':Rep (L.addOwn (n0+i) w.heap.size) (w.alloc (.cells ur e)) (.sl (bsTag len (n0+i) e) k xs) (.slice (some ⟨w.heap.size,0,none⟩) len len):=by
   cases len with
   | zero =>
    have hx:xs=[]:=List.eq_nil_of_length_eq_zero h3
    subst hx
    exact⟨_,0,[],rfl,rfl,rfl,rfl,rfl⟩
   | succ n=>exact hr
  have hdo:Does P o a w (.slice (some ⟨w.heap.size,0,none⟩) len len) (w.alloc (.cells ur e)):=by
   refine .inl ?_
   simp only[execOp,ho,Sem.run_bind,h1,Result.andThen_ok,Sem.run_pure]
  exact hdo.wp (hn _ _ _ (S'.put hr' hd) fun _ b hb=>by simp [Lay.addOwn,upd,hb])
 | call ho hf hg h1 h2 h3 h4 h5 =>
  rename_i f args ts g fs cs r
  have hfv:=S.ev f
  rw[hf] at hfv
  obtain⟨af,ac,hfe,hrf,hrc⟩:=hfv
  have hargs:Reps L w (fs++args.toList.map s.ev++cs) (af.toList++args.toList.map a.eval++ac.toList):=(hrf.append (evs S args.toList)).append hrc
  have e1:(af.toList++args.toList.map a.eval++ac.toList).toArray=af++args.map a.eval++ac:=by
   apply Array.ext';simp
  have hof':(ownFree (fs++args.toList.map s.ev++cs)||r.flat)=true:=by
   rw[iM,Bool.and_eq_true] at h1
   rw[iM,iM,h1.1,h1.2]
   simpa using h4
  have hcall:=IX hT S hm hfo h5 hargs hg h2 h3 hof'
  rw[e1] at hcall
  have hexec:(execOp a.eval o).run P w = .ok (.enter g (af++args.map a.eval++ac)) w:=by
   simp only[execOp,ho,resolve,hfe,Deferred.ofValue,Sem.run_bind,Sem.run_pure,Result.andThen_ok,invoke]
   exact ni hg.1 _
  unfold Oper.wp
  rw[hexec]
  simp only[Oper.upon]
  refine hcall.mono ?_
  rintro e w' ⟨u,L2,rfl,S2,hr2,hk⟩
  exact hn _ _ _ (S2.put hr2 hd) fun _=>hk
 | ap ho h =>
  rename_i x y t t2 v
  obtain⟨u,w',L',h1,h2,h3,h4⟩:=aeu (ty:=o.type) h S hm hfo (S.ev x) (S.ev y)
  have hdo:Does P o a w u w':=by
   refine .inl ?_
   simp only[execOp,ho,resolve,Sem.run_bind,Sem.run_pure,Result.andThen_ok,invoke,builtin,List.map_toArray,List.map_cons,List.map_nil]
   rw[h1,Result.andThen_ok]
  exact hdo.wp (hn L' _ _ (h2.put h3 hd) fun _=>h4)
 | z ho hf hg =>
  rename_i f args ts g fs cs s1 r
  have hfv:=S.ev f
  rw[hf] at hfv
  obtain⟨af,ac,hfe,hrf,hrc⟩:=hfv
  have hargs:Reps L w (fs++args.toList.map s.ev++cs) (af.toList++args.toList.map a.eval++ac.toList):=(hrf.append (evs S args.toList)).append hrc
  have e1:(af.toList++args.toList.map a.eval++ac.toList).toArray=af++args.map a.eval++ac:=by
   apply Array.ext';simp
  rcases hg C L a w _ hT S hargs with ⟨hen,hcall⟩|⟨u,w',L',hrun,S2,hr2⟩
  ·rw[e1] at hcall
   have hexec:(execOp a.eval o).run P w = .ok (.enter g (af++args.map a.eval++ac)) w:=by
    simp only[execOp,ho,resolve,hfe,Deferred.ofValue,Sem.run_bind,Sem.run_pure,Result.andThen_ok,invoke]
    exact ni hen _
   unfold Oper.wp
   rw[hexec]
   simp only[Oper.upon]
   refine hcall.mono ?_
   rintro e w' ⟨u,L2,rfl,S2,hr2⟩
   exact hn _ _ _ (S2.put hr2 hd) fun h=>absurd rfl h
  ·rw[e1] at hrun
   have hexec:(execOp a.eval o).run P w = .ok (.value u) w':=by
    simp only[execOp,ho,resolve,hfe,Deferred.ofValue,Sem.run_bind,Sem.run_pure,Result.andThen_ok,invoke]
    exact hrun
   unfold Oper.wp
   rw[hexec]
   simp only[Oper.upon]
   exact hn _ _ _ (S2.put hr2 hd) fun h=>absurd rfl h
def jQ:Ka→Ka→Bool
 | .z,_=>false
 | _,.z=>false
 | .rb b,.xb c=>b != c
 | .xb b,.rb c=>b != c
 | .xb b,.xb c=>b != c
 | _,_=>true
theorem WS{κ1 κ2:Ka}(hc:jQ κ1 κ2=true)(c:Option (TypeId × List V))(b:Nat)(hb:κ2 = .rb b∨κ2 = .xb b):(wrA κ1 c s).bx b=s.bx b:=by
 cases κ1 with
 | q=>rfl
 | rb b1=>rfl
 | z=>simp [jQ] at hc
 | xb b1 =>
  have:b≠b1:=by
   rcases hb with rfl|rfl<;>simp [jQ] at hc<;>exact fun e=>hc e.symm
  simp [wrA,upd,this]
theorem E8{κ1 κ2:Ka}(hc:jQ κ1 κ2=true):jQ κ2 κ1=true:=by
 cases κ1<;>cases κ2<;>simp [jQ] at hc ⊢<;>exact fun e=>hc e.symm
theorem qj{κ1 κ2:Ka}(hc:jQ κ1 κ2=true):κ1 ≠ .z∧κ2 ≠ .z:=by
 cases κ1<;>cases κ2<;>simp [jQ] at hc ⊢
theorem WT{κ1 κ2:Ka}(hc:jQ κ1 κ2=true)(c1 c2:Option (TypeId × List V)):wrA κ1 c1 (wrA κ2 c2 s)=wrA κ2 c2 (wrA κ1 c1 s):=by
 cases κ1 with
 | q=>rfl
 | rb b1=>rfl
 | z=>rfl
 | xb b1 =>
  cases κ2 with
  | q=>rfl
  | rb b2=>rfl
  | z=>rfl
  | xb b2 =>
   have hne:b1≠b2:=by simpa [jQ] using hc
   simp only[wrA,St.mk.injEq,true_and,and_true]
   funext t
   simp only[upd]
   by_cases h1:t=b1
   ·by_cases h2:t=b2
    ·omega
    ·simp [h1,hne]
   ·simp [h1]
theorem agd{dsts:List (Option Nat)}{o1 o2:Oper}{n0 i j:Nat}{κ1 κ2:Ka}{s1 s2:St}(h1:RA P n0 i s o1 κ1 s1)(h2:RA P n0 j s1 o2 κ2 s2)(hap:xA dsts o1 o2=true)(hc:jQ κ1 κ2=true) :
  ∃s1',RA P n0 j s o2 κ2 s1'∧RA P n0 i s1' o1 κ1 s2:=by
 obtain⟨ha,hb,hc'⟩:=yN hap
 obtain⟨z1,z2⟩:=qj hc
 obtain⟨v1,c1,rfl,f1⟩:=Bi h1 z1
 obtain⟨v2,c2,rfl,f2⟩:=Bi h2 z2
 have g2:=f2 s (fun t ht=>by rw[fG (fun e=>ha t e (by simp [lk,ht])),Ou]) (fun b hb=>by rw[rG,WS hc c1 b hb])
 refine⟨_,g2, ?_⟩
 have g1:=f1 ((wrA κ2 c2 s).put o2.dst v2) (fun t ht=>by rw[fG (fun e=>hc' t e (by simp [lk,ht])),Ou]) (fun b hb=>by rw[rG,WS (E8 hc) c2 b hb])
 have e:(wrA κ1 c1 ((wrA κ2 c2 s).put o2.dst v2)).put o1.dst v1=(wrA κ2 c2 ((wrA κ1 c1 s).put o1.dst v1)).put o2.dst v2:=by
  rw[Ov,Ov,WT hc,iD (fun d hd=>hb d hd)]
 rw[←e]
 exact g1
abbrev Fa:=Nat × Oper × Ka
def Bj(P:Program)[Tb P](n0:Nat):List Fa→St→St→Prop
 | [],s,s'=>s=s'
 | e::r,s,s'=>∃s1,RA P n0 e.1 s e.2.1 e.2.2 s1∧Bj P n0 r s1 s'
def nY(dsts:List (Option Nat))(x y:Fa):Bool:=jQ x.2.2 y.2.2&&xA dsts x.2.1 y.2.1
theorem Fb{dsts:List (Option Nat)}{n0:Nat}{x:Fa}:∀{l1 l2:List Fa} {s s':St},Bj P n0 (l1++x::l2) s s'→(∀y∈l1,nY dsts y x=true)→Bj P n0 (x::(l1++l2)) s s':=by
 intro l1
 induction l1 with
 | nil=>intro l2 s s' h _;exact h
 | cons y l1 ih =>
  rintro l2 s s' ⟨s1,h1,h2⟩ hb
  obtain⟨s2,h3,h4⟩:=ih h2 (fun z hz=>hb z (by simp [hz]))
  have hy:=hb y (by simp)
  simp only[nY,Bool.and_eq_true] at hy
  obtain⟨s1',h5,h6⟩:=agd h1 h3 hy.2 hy.1
  exact⟨s1',h5,s2,h6,h4⟩
theorem WU{ops:Array Oper}{n0 i:Nat}{κ:Ka}{K:Act→World→Prop}{Q:Exit→Act→World→Prop}(hT:C.TOk P)(ho:ops[i]?=some o)(hg:o.guard=none)(h:RA P n0 i s o κ s')(S:Sim C s L a w)(hm:n0+i<s.nid)(hf:L.box (n0+i)=none∧L.own (n0+i)=none)
  (hd:∀t,o.dst=some t→t<C.n) (hK:∀L' a' w',Sim C s' L' a' w'→(κ ≠ .z→∀b,b≠n0+i→L'.box b=L.box b∧L'.own b=L.own b)→K a' w'):wpOp P ops Q i K a w:=by
 unfold wpOp
 rw[ho]
 simp only
 rw[if_pos (by simp [Region.wanted,hg])]
 exact .inl (agc h hT S hm hf.1 hf.2 hd hK)
theorem Bl{C:Cx}{n0:Nat}{ops:Array Oper}{Q:Exit→Act→World→Prop}(hT:C.TOk P)(hidx:∀i o,ops[i]?=some o→∀e∈edgesOf o,e<i)(hd:∀o∈ops.toList,∀t,o.dst=some t→t<C.n)(hg:∀o∈ops,o.guard=none)
  (hQ:∀L a w,Sim C s' L a w→Q .normal a w):∀(fuel:Nat) (l:List Fa) (listed:Array Bool) (s:St) (L:Lay) (a:Act) (w:World),l.length≤fuel→listed.size=ops.size →
  (∀x∈l,ops[x.1]?=some x.2.1∧listed.getD x.1 true=false)→(∀i,i<ops.size→listed.getD i true=false→∃x∈l,x.1=i)→(l.map (·.1)).Pairwise (·<·) →
  (∀i o,ops[i]?=some o→listed.getD i false=true→∀e∈edgesOf o,listed.getD e false=true) →
  l.Pairwise (fun x y=>((x.2.2.notZ&&((pq [] ops.toList).getD y.1 0).testBit x.1)||nY (ops.toList.map (·.dst)) x y)=true) →
  Bj P n0 l s s'→Sim C s L a w→(l≠[]→n0+ops.size≤s.nid)→(∀x∈l,L.box (n0+x.1)=none∧L.own (n0+x.1)=none)→wpAny P .any ops Q fuel listed a w:=by
 intro fuel
 induction fuel with
 | zero =>
  intro l listed s L a w hlen hsz hmem hall hsort hcl hpair hch S hnid hbox
  have hl:l=[]:=List.eq_nil_of_length_eq_zero (by omega)
  subst hl
  have hss:s=s':=hch
  subst hss
  refine⟨?_,hQ L a w S⟩
  rw[List.eq_nil_iff_forall_not_mem]
  intro i hi
  obtain⟨h0,o,ho,_⟩:=mem_ready.1 hi
  obtain⟨x,hx,_⟩:=hall i (by have:=(Array.getElem?_eq_some_iff.1 ho).1;exact this) h0
  cases hx
 | succ fuel ih =>
  intro l listed s L a w hlen hsz hmem hall hsort hcl hpair hch S hnid hbox
  refine⟨fun hno => ?_,fun i hi => ?_⟩
  ·
   cases l with
   | nil=>have hss:s=s':=hch;subst hss;exact hQ L a w S
   | cons x r =>
    exfalso
    obtain⟨h1,h2⟩:=hmem x (by simp)
    have:x.1∈Region.ready .any ops listed:=by
     refine mem_ready.2 ⟨h2,x.2.1,h1,fun e he hb => ?_⟩
     have hlt:=hidx x.1 x.2.1 h1 e.on (by simp [edgesOf];exact⟨e,⟨by simpa using he,hb⟩,rfl⟩)
     have hx1:x.1<ops.size:=(Array.getElem?_eq_some_iff.1 h1).1
     cases hle:listed.getD e.on false with
     | true=>rfl
     | false =>
      exfalso
      have hle':listed.getD e.on true=false:=by
       have:e.on<listed.size:=by omega
       simpa [Array.getD,this] using hle
      obtain⟨y,hy,hye⟩:=hall e.on (by omega) hle'
      rcases List.mem_cons.1 hy with rfl|hy
      ·omega
      ·have:=(List.pairwise_cons.1 (by simpa using hsort)).1 y.1 (List.mem_map.2 ⟨y,hy,rfl⟩)
       omega
    rw[hno] at this
    cases this
  ·obtain⟨h0,o,ho,hedge⟩:=mem_ready.1 hi
   have hisz:i<ops.size:=(Array.getElem?_eq_some_iff.1 ho).1
   obtain⟨x,hx,rfl⟩:=hall i hisz h0
   obtain⟨l1,l2,rfl⟩:=List.append_of_mem hx
   have hxo:x.2.1=o:=by
    have:=(hmem x hx).1
    rw[ho] at this
    simpa using this.symm
   have hbes:∀y∈l1,nY (ops.toList.map (·.dst)) y x=true:=by
    intro y hy
    have h1:=(List.pairwise_append.1 hpair).2.2 y hy x (by simp)
    simp only[Bool.or_eq_true,Bool.and_eq_true] at h1
    rcases h1 with ⟨_,h1⟩|h1
    ·exfalso
     have hcl':=uK (fun i=>listed.getD i false=true) ops.toList [] (fun k j _ h=>by simp at h)
      (fun k o hk hD e he=>hcl k o (by simpa using hk) (by simpa using hD) e he) x.1 o (by simpa using ho)
      (fun e he=>by
       simp only[edgesOf,List.mem_map,List.mem_filter] at he
       obtain⟨e',⟨h2,h3⟩,rfl⟩:=he
       exact hedge e' (by simpa using h2) h3) y.1 (by simpa using h1)
     have h2:=(hmem y (by simp [hy])).2
     have h3:y.1<listed.size:=by
      have:=(Array.getElem?_eq_some_iff.1 (hmem y (by simp [hy])).1).1;omega
     simp [Array.getD,h3] at hcl' h2
     rw[h2] at hcl'
     cases hcl'
    ·exact h1
   obtain⟨s1,jZ,hrest⟩:=Fb hch hbes
   rw[hxo] at jZ
   have hnew:=hbox x hx
   have hnid0:=hnid (by intro e;rw[e] at hx;cases hx)
   have hlast:x.2.2 = .z→l1++l2=[]:=by
    intro hz
    have e1:l1=[]:=List.eq_nil_iff_forall_not_mem.2 fun y hy=>by
     have:=hbes y hy
     simp only[nY,Bool.and_eq_true] at this
     exact (qj this.1).2 hz
    have e2:l2=[]:=List.eq_nil_iff_forall_not_mem.2 fun y hy=>by
     have h1:=(List.pairwise_cons.1 (List.pairwise_append.1 hpair).2.1).1 y hy
     rw[hz] at h1
     simp only[Ka.notZ,Bool.false_and,Bool.false_or,nY,Bool.and_eq_true] at h1
     exact (qj h1.1).1 hz
    rw[e1,e2];rfl
   refine WU hT ho (hg o (Array.mem_of_getElem? ho)) jZ S (by omega) hnew (hd o (by rw[←Array.mem_toList_iff.symm];exact Array.mem_of_getElem? ho)) (fun L' a' w' S' hL' => ?_)
   have hne:∀y∈l1++l2,y.1≠x.1:=by
    intro y hy
    rw[List.map_append,List.map_cons] at hsort
    have hp:=List.pairwise_append.1 hsort
    rcases List.mem_append.1 hy with hy|hy
    ·have:=hp.2.2 y.1 (List.mem_map.2 ⟨y,hy,rfl⟩) x.1 (by simp);omega
    ·have:=(List.pairwise_cons.1 hp.2.1).1 y.1 (List.mem_map.2 ⟨y,hy,rfl⟩);omega
   refine ih (l1++l2) (listed.setIfInBounds x.1 true) s1 L' a' w' (by simp at hlen ⊢;omega) (by simp [hsz]) ?_ ?_ ?_ ?_ ?_ hrest S' (fun hne'=>by rw[aev jZ (fun hz=>hne' (hlast hz))];exact hnid0) (fun y hy=>by
    have h6:=hL' (fun hz=>by rw[hlast hz] at hy;cases hy) (n0+y.1) (by have:=hne y hy;omega)
    rw[h6.1,h6.2]
    exact hbox y (by rcases List.mem_append.1 hy with h|h<;>simp [h]))
   ·intro y hy
    obtain⟨h4,h5⟩:=hmem y (by rcases List.mem_append.1 hy with h|h<;>simp [h])
    exact⟨h4,by rw[getD_set_ne true (Ne.symm (hne y hy))];exact h5⟩
   ·intro j hj hjl
    by_cases hji:j=x.1
    ·subst hji
     have:x.1<listed.size:=by omega
     simp [Array.getD,this] at hjl
    ·rw[getD_set_ne true (fun e=>hji e.symm)] at hjl
     obtain⟨y,hy,rfl⟩:=hall j hj hjl
     refine⟨y, ?_,rfl⟩
     rcases List.mem_append.1 hy with hy|hy
     ·simp [hy]
     ·rcases List.mem_cons.1 hy with rfl|hy
      ·exact absurd rfl hji
      ·simp [hy]
   ·exact hsort.sublist (by simp only[List.map_append,List.map_cons];exact (List.Sublist.refl _).append (List.sublist_cons_self _ _))
   ·intro j o' hj hjl e he
    by_cases hji:j=x.1
    ·subst hji
     rw[ho] at hj
     simp only[Option.some.injEq] at hj
     subst hj
     simp only[edgesOf,List.mem_map,List.mem_filter] at he
     obtain⟨e',⟨h2,h3⟩,rfl⟩:=he
     exact getD_set_true (hedge e' (by simpa using h2) h3)
    ·rw[getD_set_ne false (fun e=>hji e.symm)] at hjl
     exact getD_set_true (hcl j o' hj hjl e he)
   ·exact hpair.sublist ((List.Sublist.refl _).append (List.sublist_cons_self _ _))
end
def zN(dsts:List (Option Nat))(b:List Nat):List Fa→Bool
 | []=>true
 | x::r=>(r.all fun y=>(x.2.2.notZ&&(b.getD y.1 0).testBit x.1)||nY dsts x y)&&zN dsts b r
def gW(k:Nat):List Oper→List Ka→List Fa
 | o::os,κ::ks=>(k,o,κ)::gW (k+1) os ks
 | _,_=>[]
def Fe(ops:List Oper)(ks:List Ka):Bool :=
 ops.length == ks.length&&(ops.zipIdx.all fun x=>(edgesOf x.1).all fun e=>decide (e<x.2))&&ops.all (fun o=>o.guard.isNone)&&zN (ops.map (·.dst)) (pq [] ops) (gW 0 ops ks)
def rO(P:Program)[Tb P](m:Nat)(f:V)(args:List Operand)(d:Option Nat)(s:St)(K:Ka→St→Prop):Prop :=
 match f with
 | .fn g fs cs=>(∃r,Good P g ((fs++args.map s.ev++cs).map V.erase) r∧ownFree (fs++cs)=true∧noRefs (fs++args.map s.ev++cs)=true∧r.noRef=true∧(ownFree (args.map s.ev)||r.flat)=true∧r.idb≤1∧K .q (s.put d (r.shift m))) ∨
   ∃s1 r,GoodZ P g (fs++args.map s.ev++cs) s s1 r∧K .z (s1.put d r)
 | _=>False
def bsA(P:Program)(m t len:Nat)(parts:List (Nat × V)):Option V :=
 (elemT P t).bind fun e=>(tapp P e).bind fun p=>(zelem P e).bind fun v=>(setAll p.1 (List.replicate len v) parts).bind fun xs=>if len*p.1≤16777216 then some (.sl (bsTag len m e) p.1 xs) else none
def qL(r:Option (Ka × St))(K:Ka→St→Prop):Prop:=match r with|some (κ,s')=>K κ s'|none=>False
def lW(P:Program)[Tb P](n0 i:Nat)(s:St)(o:Oper)(K:Ka→St→Prop):Prop :=
 match o.op with
 | .call { callee := .value f,args,.. }=>rO P (n0+i) (s.ev f) args.toList o.dst s K
 | .buildSlice t len parts=>qL ((bsA P (n0+i) t len (parts.toList.map fun p=>(p.1,s.ev p.2))).map fun r=>(.q,s.put o.dst r)) K
 | .call { callee := .builtin .append,args:=⟨[x,y]⟩,argTypes:=⟨[t,t2]⟩ }=>qL ((apA P (n0+i) t t2 (s.ev x) (s.ev y)).map fun r=>(.q,s.put o.dst r)) K
 | _=>qL (stepA P n0 i s o) K
theorem abf{P:Program}[Tb P]{n0 i:Nat}{s:St}{o:Oper}{K:Ka→St→Prop}(h:lW P n0 i s o K):∃κ s',RA P n0 i s o κ s'∧K κ s':=by
 unfold lW at h
 split at h
 ·rename_i f args ts ho
  unfold rO at h
  split at h
  ·rename_i g fs cs hf
   rcases h with ⟨r,h1,h2,h3,h4,h5,h6,h7⟩|⟨s1,r,h1,h2⟩
   ·exact⟨_,_,.call ho hf h1 h2 h3 h4 h5 h6,h7⟩
   ·exact⟨_,_,.z ho hf h1,h2⟩
  ·cases h
 ·rename_i t len parts ho
  unfold qL at h
  split at h
  ·rename_i κ s' hs
   simp only[bsA,Option.map_eq_some_iff,Option.bind_eq_some_iff,Option.ite_none_right_eq_some,Option.some.injEq,Prod.mk.injEq] at hs
   obtain⟨r,⟨e,he,p,hp,v,hv,xs,hxs,hl,rfl⟩,rfl,rfl⟩:=hs
   exact⟨_,_,.bs (bytes:=p.2) ho he hp hv hxs hl,h⟩
  ·cases h
 ·rename_i x y t t2 ho
  unfold qL at h
  split at h
  ·rename_i κ s' hs
   simp only[Option.map_eq_some_iff,Prod.mk.injEq] at hs
   obtain⟨r,hs,rfl,rfl⟩:=hs
   exact⟨_,_,.ap ho hs,h⟩
  ·cases h
 ·unfold qL at h
  split at h
  ·rename_i κ s' hs
   exact⟨κ,s',.st hs,h⟩
  ·cases h
def IY(P:Program)[Tb P](n0:Nat)(ops:List Oper)(K:St→Prop):List Oper→List Ka→Nat→St→Prop
 | [],ks,_,s=>Fe ops ks.reverse=true∧K s
 | o::rest,ks,i,s=>lW P n0 i s o fun κ s'=>IY P n0 ops K rest (κ::ks) (i+1) s'
def IZ(P:Program)[Tb P](ops:Array Oper)(K:St→Prop)(s:St):Prop:=IY P s.nid ops.toList K ops.toList [] 0 { s with nid:=s.nid+ops.size }
def Ox(o:Oper):Bool:=match o.op with | .alloc _=>true | .buildSlice _ _ _=>true|_=>false
def okA(o:Oper):Bool:=match o.op with
 | .call { callee := .builtin .append,args:=⟨[.const (.slice none 0 0),_]⟩,argTypes:=⟨[_,_]⟩ }=>o.guard.isNone
 | .call { callee := .builtin .append,.. }=>false
 | .makeSlice _ _ _=>false
 | .slice _ _ _ _ _=>false
 | .box _ _=>false
 | _=>o.guard.isNone
def MB(ops:List Oper):Bool:=decide (1≤(ops.filter Ox).length)&&ops.all okA
def dD(cuts:List Nat):Dw:=⟨fun P _ ops K s=>if MB ops.toList=true then IZ P ops K s else yQ P ops K s,cuts,[]⟩
instance (cuts:List Nat):Plain (dD cuts):=⟨rfl⟩
section
variable {P:Program} [Tb P] {dsts:List (Option Nat)} {s s':St} {o:Oper}
theorem yX{n0:Nat}{ops:List Oper}{K:St→Prop}:∀(rest:List Oper) (ks:List Ka) (k:Nat) (s:St),IY P n0 ops K rest ks k s →
  ∃ks' s',rest.length=ks'.length∧Bj P n0 (gW k rest ks') s s'∧Fe ops (ks.reverse++ks')=true∧K s':=by
 intro rest
 induction rest with
 | nil=>intro ks k s h;exact⟨[],s,rfl,rfl,by simpa using h.1,h.2⟩
 | cons o rest ih =>
  intro ks k s h
  obtain⟨κ,s1,hs,h⟩:=abf h
  obtain⟨ks',s',h3,h4,h5,h6⟩:=ih (κ::ks) (k+1) s1 h
  exact⟨κ::ks',s',by simp [h3],⟨s1,hs,h4⟩,by simpa using h5,h6⟩
theorem vZ:∀(os:List Oper) (ks:List Ka) (k:Nat) (x:Fa),x∈gW k os ks→k≤x.1∧os[x.1-k]?=some x.2.1:=by
 intro os
 induction os with
 | nil=>intro ks k x h;simp [gW] at h
 | cons o os ih =>
  intro ks k x h
  cases ks with
  | nil=>simp [gW] at h
  | cons κ ks =>
   simp only[gW,List.mem_cons] at h
   rcases h with rfl|h
   ·simp
   ·obtain⟨h1,h2⟩:=ih ks (k+1) x h
    refine⟨by omega, ?_⟩
    rw[show x.1-k=(x.1-(k+1))+1 by omega]
    simpa using h2
theorem uu:∀(os:List Oper) (ks:List Ka) (k:Nat),os.length=ks.length→(gW k os ks).map (·.1)=List.range' k os.length:=by
 intro os
 induction os with
 | nil=>intro ks k h;cases ks<;>rfl
 | cons o os ih =>
  intro ks k h
  cases ks with
  | nil=>simp at h
  | cons κ ks=>simp only[gW,List.map_cons,List.length_cons,List.range'_succ];rw[ih ks (k+1) (by simpa using h)]
theorem uw{b:List Nat}:∀{l:List Fa},zN dsts b l=true→l.Pairwise fun x y=>((x.2.2.notZ&&(b.getD y.1 0).testBit x.1)||nY dsts x y)=true:=by
 intro l
 induction l with
 | nil=>intro _;exact .nil
 | cons x r ih =>
  intro h
  simp only[zN,Bool.and_eq_true] at h
  exact .cons (fun y hy=>List.all_eq_true.1 h.1 y hy) (ih h.2)
theorem WV(cuts:List Nat)(hm:P.follows .mixedOrders=true):jE P (dD cuts):=by
 intro id C ops K Q s L a w hT hfit hQK h S
 simp only[dD] at h
 split at h
 case isFalse=>exact rH cuts hm id C ops K Q s L a w hT hfit hQK h S
 unfold IZ at h
 obtain⟨ks,s',hlen,hch,hchk,hK⟩:=yX ops.toList [] 0 _ h
 simp only[List.reverse_nil,List.nil_append,Fe,Bool.and_eq_true] at hchk
 obtain⟨⟨⟨_,hidx⟩,hguards⟩,hpairs⟩:=hchk
 have hbox0:∀n,L.box (s.nid+n)=none:=by
  intro n
  cases hb:L.box (s.nid+n) with
  | none=>rfl
  | some g=>have:=S.wf.nidB _ g hb;omega
 have hown0:∀n,L.own (s.nid+n)=none:=by
  intro n
  cases hb:L.own (s.nid+n) with
  | none=>rfl
  | some g=>have:=S.wf.nidO _ g hb;omega
 have S1:Sim C { s with nid:=s.nid+ops.size } L a { w with drawn:=w.drawn+1 }:=by
  have K:o7 L L w w.drew:=⟨rfl,fun g h=>⟨h,.of rfl⟩,fun id e _ g h=>⟨⟨rfl,h⟩,rfl⟩,fun _ _ _ h=>⟨h,.of rfl⟩⟩
  exact⟨S.defers,S.size,fun t=>(S.env t).whole K,fun t=>(S.hid t).whole K,fun b cs h=>by obtain⟨g,arr,h1,h2,h3⟩:=S.box b cs h;exact⟨g,arr,h1,h2,h3.whole K⟩,S.wf.mono (Nat.le_add_right _ _) (Nat.le_refl _),S.kp.drew⟩
 have hnums:=uu ops.toList ks 0 (by simpa using hlen)
 refine wp_region_any hm (Bl (s':=s') hT ?_ (jT hfit) ?_ (fun L a w S'=>⟨s',L,by rw[hQK];exact hK,S'⟩) ops.size (gW 0 ops.toList ks) (Array.replicate ops.size false) _ L a _ ?_ (by simp) ?_ ?_ ?_ ?_ (uw hpairs) hch S1 (fun _=>Nat.le_refl _) (fun x _=>⟨hbox0 x.1,hown0 x.1⟩))
 ·intro i o ho e he
  have hm:(o,i)∈ops.toList.zipIdx:=by
   rw[List.mem_zipIdx_iff_getElem?]
   simpa using ho
  have:=List.all_eq_true.1 (List.all_eq_true.1 hidx (o,i) hm) e he
  simpa using this
 ·intro o ho
  have:=List.all_eq_true.1 hguards o (by simpa using ho)
  simpa using this
 ·have:(gW 0 ops.toList ks).length=ops.size:=by
   have:=congrArg List.length hnums
   simpa using this
  omega
 ·intro x hx
  obtain⟨_,h2⟩:=vZ ops.toList ks 0 x hx
  simp only[Nat.sub_zero,Array.getElem?_toList] at h2
  have hlt:=(Array.getElem?_eq_some_iff.1 h2).1
  exact⟨h2,by simp [Array.getD,hlt]⟩
 ·intro i hi _
  have:i∈(gW 0 ops.toList ks).map (·.1):=by
   rw[hnums];simp;exact hi
  obtain⟨x,hx,rfl⟩:=List.mem_map.1 this
  exact⟨x,hx,rfl⟩
 ·rw[hnums]
  exact List.pairwise_lt_range'
 ·intro i o ho hl
  have hlt:=(Array.getElem?_eq_some_iff.1 ho).1
  simp [Array.getD,hlt] at hl
end
end Go.Pg
end
