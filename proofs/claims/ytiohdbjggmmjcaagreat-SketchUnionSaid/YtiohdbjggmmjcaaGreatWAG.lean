/-
  Merged texts.
-/
import Derived.Test.YtiohdbjggmmjcaaGreatWAF
set_option linter.unusedVariables false
set_option linter.unusedSimpArgs false
set_option linter.unusedSectionVars false
set_option linter.defProp false
set_option maxRecDepth 100000
set_option maxHeartbeats 8000000
section
namespace Go.Pg
open Go
section
variable {P:Program} {C:Cx} {s:St} {L L':Lay} {a:Act} {w w':World}
def o9(k:Nat):List V→Option (List V)
 | []=>some []
 | v::r=>v.cs.bind fun l=>if l.length=k then (o9 k r).map (l++·) else none
theorem DR{k:Nat}:∀{xs cs:List V} {us:List Value},o9 k xs=some cs→RepE L w k xs us→Reps L w cs us:=by
 intro xs
 induction xs with
 | nil=>intro cs us h hr;simp only[o9,Option.some.injEq] at h;subst h;exact hr
 | cons v r ih =>
  intro cs us h hr
  simp only[o9,Option.bind_eq_some_iff,Option.ite_none_right_eq_some,Option.map_eq_some_iff] at h
  obtain⟨l,hl,hk,c2,hc,rfl⟩:=h
  obtain⟨u,r',rfl,_,_,h4,h5⟩:=hr
  exact (qh h4 hl).append (ih hc h5)
def PU(P:Program)(s:St)(t:TypeId)(k:Nat)(y:V):Option (Nat × List V) :=
 match y with
 | .bs b _ o k' n=>if k'=k∧(elemT P t).isSome∧0<n then (s.bx b).bind fun x=>if o+n*k≤x.2.length then some (n,(x.2.drop o).take (n*k)) else none else none
 | y=>(vH P t k y).bind fun ys=>(o9 k ys).map fun cs=>(ys.length,cs)
theorem rD{α:Type}(l:List α)(o n m:Nat)(h:o+n≤m):((l.take m).drop o).take n=(l.drop o).take n:=by
 rw[List.drop_take,List.take_take,Nat.min_eq_left (by omega)]
theorem Hm{t:TypeId}{k n:Nat}{y:V}{cs:List V}{u:Value}(S:Sim C s L a w)(h:PU P s t k y=some (n,cs))(hr:Rep L w y u)(h1:cs.all V.one=true) :
  ∃news,Src P k t u n news w∧Reps L w cs news:=by
 unfold PU at h
 split at h
 ·rename_i b be o k' n'
  simp only[Option.ite_none_right_eq_some,Option.bind_eq_some_iff,Option.some.injEq,Prod.mk.injEq] at h
  obtain⟨⟨rfl,he,hn⟩,x,hx,hfit,rfl,rfl⟩:=h
  obtain⟨e,he⟩:=Option.isSome_iff_exists.1 he
  obtain⟨h0,_⟩|⟨g,cap,arr,hg,rfl,ha,_⟩:=hr
  ·omega
  obtain⟨g',arr',hg',ha',hreps⟩:=S.box b x hx
  rw[hg] at hg'
  simp only[Option.some.injEq] at hg'
  subst hg'
  rw[ha] at ha'
  simp only[Option.some.injEq,Obj.cells.injEq] at ha'
  obtain⟨rfl,_,_⟩:=ha'
  have hr2:=(hreps.drop o).take (n'*k')
  rw[rD _ _ _ _ hfit] at hr2
  have hlen:((arr.toList.drop o).take (n'*k')).length=n'*k':=by
   have h3:=hr2.length
   have h4:((x.2.drop o).take (n'*k')).length=n'*k':=by simp;omega
   rw[h3,h4]
  refine⟨_,Src.ofSlice w (bW he) ⟨g,o,none⟩ n' cap _ hlen ?_ (vG hr2 h1),hr2⟩
  intro j v hj
  rw[dS]
  exact Row.cell (w:=w) (g:=g) (o:=o) ⟨arr,_,_,ha,by rw[hlen]⟩ hj
 ·simp only[Option.bind_eq_some_iff,Option.map_eq_some_iff,Prod.mk.injEq] at h
  obtain⟨ys,hys,cs',hcs,rfl,rfl⟩:=h
  obtain⟨news,h2,h3⟩:=Aw hys hr
  exact⟨news,h2,DR hcs h3⟩
theorem PV{b:Nat}(K:Trans (fun _=>false) (fun j=>j == b) _root_.id _root_.id L L' w w'){v:V}{u:Value}(h:Rep L w v u):Rep L' w' (dP b v) u:=by
 unfold dP
 split
 ·trivial
 ·rename_i hv
  have:=h.trans rfl K (by simpa using hv)
  rwa [map_id.1] at this
theorem Ho{b:Nat}(K:o7 L L' w w'){v:V}{u:Value}(h:Rep L w v u):Rep L' w' (dP b v) u:=by
 unfold dP
 split
 ·trivial
 ·exact h.whole K
theorem Wf.setBox{nid b:Nat}(W:Wf C nid L w)(hB:C.B≤w.heap.size)(hs:w.heap.size<w'.heap.size):Wf C (max nid (b+1)) (L.addBox b w.heap.size) w' where
 nidO:=fun i g h=>by have:=W.nidO i g h;omega
 nidB:=fun id g h=>by
  simp only[Lay.addBox,upd] at h
  split at h
  ·omega
  ·have:=W.nidB id g h;omega
 own:=fun b g h=>by obtain⟨h1,h2,h3⟩:=W.own b g h;exact⟨by omega,h2,h3⟩
 boxW:=fun id g h=>by
  simp only[Lay.addBox,upd] at h
  split at h
  ·simp only[Option.some.injEq] at h;subst h;exact⟨hs,.inl hB,fun h=>by have:=W.old _ h;omega⟩
  ·obtain⟨h1,h2,h3⟩:=W.boxW id g h;exact⟨by omega,h2,h3⟩
 injO:=W.injO
 injB:=fun i j g h h'=>by
  simp only[Lay.addBox,upd] at h h'
  split at h<;>split at h'
  ·omega
  ·simp only[Option.some.injEq] at h;subst h;have:=(W.boxW j _ h').1;omega
  ·simp only[Option.some.injEq] at h';subst h';have:=(W.boxW i _ h).1;omega
  ·exact W.injB i j g h h'
 dis:=fun i j g h h'=>by
  simp only[Lay.addBox,upd] at h'
  split at h'
  ·simp only[Option.some.injEq] at h';subst h';have:=(W.own i _ h).1;omega
  ·exact W.dis i j g h h'
 old:=fun g h=>by have:=W.old g h;omega
 frz:=W.frz
def Et(s:St)(b n:Nat):Option (List V):=if n=0 then some [] else (s.bx b).bind fun x=>if n≤x.2.length then some (x.2.take n) else none
def N7(s:St)(b:Nat)(x:TypeId × List V)(nid:Nat):St :=
 { (s.mapV (dP b)) with bx:=upd (fun j=>(s.bx j).map fun y=>(y.1,y.2.map (dP b))) b (some (x.1,x.2.map (dP b))),nid:=nid }
def kD(P:Program)(s:St)(t t2:TypeId)(x y:V):Option (V × St) :=
 (elemT P t).bind fun e=>(tapp P e).bind fun (k,bytes)=>(PU P s t2 k y).bind fun (m,cs) =>
  match x with
  | .c (.slice none 0 0)=>if 0<m∧cs.all V.one=true∧Fits m bytes then some (.bs s.nid e 0 k m,{ s with bx:=upd s.bx s.nid (some (e,cs)),nid:=s.nid+1 }) else none
  | .bs b e' 0 k' n=>(Et s b (n*k)).bind fun old=>if e'=e∧k'=k∧0<m∧cs.all V.one=true∧Fits (n+m) bytes then some (.bs b e 0 k (n+m),N7 s b (e,old++cs) (max s.nid (b+1))) else none
  | _=>none
theorem AQ{olds news:List Value}{n cap k:Nat}{e:TypeId}{z:Value}(hz:z.cells.size=k)(hl:(olds++news).length=n*k) :
  ((olds++news).toArray++Builtin.zeroCells z.cells (grownCap w n cap e-n)).size=grownCap w n cap e*k:=by
 have hge:=grownCap_ge w n cap e
 simp only[Array.size_append,List.size_toArray,size_zeroCells,hz,hl,←Nat.add_mul]
 congr 1
 omega
theorem Hq{t t2 ty:TypeId}{x y r:V}{ux uy:Value}{s':St}(h:kD P s t t2 x y=some (r,s'))(S:Sim C s L a w)(hx:Rep L w x ux)(hy:Rep L w y uy) :
  ∃u w' L',(Builtin.append_ #[t,t2] ty #[ux,uy]).run P w = .ok u w'∧Sim C s' L' a w'∧Rep L' w' r u:=by
 simp only[kD,Option.bind_eq_some_iff,Prod.exists] at h
 obtain⟨e,he,k,bytes,hk,m,cs,hys,h⟩:=h
 obtain⟨i,z,hi,hz,hzs,rfl,rfl,hpos⟩:=jc hk
 have hu:=bW he
 split at h
 ·
  simp only[Option.ite_none_right_eq_some,Option.some.injEq,Prod.mk.injEq] at h
  obtain⟨⟨h0,h1,hf1,hf2⟩,rfl,rfl⟩:=h
  obtain⟨news,hsrc,hre⟩:=Hm S hys hy h1
  have hnl:=hsrc.newsLen
  simp only[Rep] at hx;subst hx
  have hrun:=run_append_grow_src (P:=P) w t t2 ty e i z hu hi hz none 0 0 [] (by simp [Builtin.firstCells]) uy m news hsrc (by omega)
   (by simp only[maxLen] at hf1;omega) (growslice_fits (by omega) (by rw[Nat.zero_add];exact hf2))
  simp only[Nat.zero_add] at hrun
  have G:=Grow.drewAlloc w (dH w [] news m 0 e z)
  have E:=S.wf.leBox (s:=s) w.heap.size
  have hh:(w.drew.alloc (dH w [] news m 0 e z)).heap[w.heap.size]?=some (dH w [] news m 0 e z):=heap_alloc_new w.drew _
  refine⟨_,_,L.addBox s.nid w.heap.size,hrun,S.grow G E rfl ?_ (S.wf.addBox S.hB (by simp)),.inr ⟨w.heap.size,_,_,by simp [Lay.addBox,upd],rfl,hh,grownCap_ge w m 0 e,grownCap_le_maxLen w m 0 e hf1, ?_⟩⟩
  ·intro b x hb
   simp only[upd] at hb
   split at hb
   ·rename_i hbn
    subst hbn
    simp only[Option.some.injEq] at hb
    subst hb
    refine .inr ⟨w.heap.size,_,by simp [Lay.addBox,upd],hh, ?_⟩
    have h5:=hre.whole (S.wf.whole G E)
    have h6:=h5.length
    rw[Array.toList_append,List.nil_append,←h6,List.take_left]
    exact h5
   ·exact .inl hb
  ·rw[AQ hzs (by simpa using hnl),Nat.zero_add]
   exact Nat.le_refl _
 ·
  rename_i b e' k' n
  simp only[Option.bind_eq_some_iff,Option.ite_none_right_eq_some,Option.some.injEq,Prod.mk.injEq] at h
  obtain⟨old,hold,⟨rfl,rfl,h0,h1,hf1,hf2⟩,rfl,rfl⟩:=h
  obtain⟨news,hsrc,hre⟩:=Hm S hys hy h1
  have hnl:=hsrc.newsLen
  have hor:∀g arr,L.box b=some g→w.heap[g]?=some (.cells arr e' (0,0))→n*i.size≤arr.size→Reps L w old (arr.toList.take (n*i.size))∧old.length=n*i.size:=by
   intro g arr hg ha hle
   unfold Et at hold
   split at hold
   ·rename_i hz0
    simp only[Option.some.injEq] at hold
    subst hold
    rw[hz0]
    exact⟨by simp [Reps],rfl⟩
   ·simp only[Option.bind_eq_some_iff,Option.ite_none_right_eq_some,Option.some.injEq] at hold
    obtain⟨x,hx1,hx2,rfl⟩:=hold
    obtain⟨g',arr',hg',ha',hreps⟩:=S.box b x hx1
    rw[hg] at hg'
    simp only[Option.some.injEq] at hg'
    subst hg'
    rw[ha] at ha'
    simp only[Option.some.injEq,Obj.cells.injEq] at ha'
    obtain⟨rfl,_,_⟩:=ha'
    have h3:=hreps.take (n*i.size)
    rw[List.take_take,Nat.min_eq_left hx2] at h3
    exact⟨h3,by simp;omega⟩
  have hgrow:∀(ad:Option Addr) (cap:Nat) (olds:List Value),(Builtin.firstCells i.size n (.slice ad n cap)).run P w.drew = .ok olds.toArray w.drew→Reps L w old olds→olds.length=n*i.size→cap<n+m →
    ∃u w' L',(Builtin.append_ #[t,t2] ty #[.slice ad n cap,uy]).run P w = .ok u w'∧Sim C (N7 s b (e',old++cs) (max s.nid (b+1))) L' a w'∧Rep L' w' (.bs b e' 0 i.size (n+m)) u:=by
   intro ad cap olds hol1 hol2 hol3 hcap
   have hrun:=run_append_grow_src (P:=P) w t t2 ty e' i z hu hi hz ad n cap olds hol1 uy m news hsrc hcap
    (by simp only[maxLen] at hf1;omega) (growslice_fits hcap hf2)
   have hh:(w.drew.alloc (dH w olds news (n+m) cap e' z)).heap[w.heap.size]?=some (dH w olds news (n+m) cap e' z):=heap_alloc_new w.drew _
   have G:=Grow.drewAlloc w (dH w olds news (n+m) cap e' z)
   have W:=S.wf
   have K:Trans (fun _=>false) (fun j=>j == b) _root_.id _root_.id L (L.addBox b w.heap.size) w (w.drew.alloc (dH w olds news (n+m) cap e' z)) :=
    ⟨rfl,fun g h=>⟨h,.of (G.block g (W.old g h))⟩,fun j e hj g h=>⟨⟨rfl,h⟩,G.block g (W.own j g h).1⟩,fun j hj g h=>by
     have:j≠b:=by simpa using hj
     exact⟨by simp [Lay.addBox,upd,this,h],.of (G.block g (W.boxW j g h).1)⟩⟩
   have hψ:∀v u,Rep L w v u→Rep (L.addBox b w.heap.size) (w.drew.alloc (dH w olds news (n+m) cap e' z)) (dP b v) u:=fun v u h=>PV K h
   have hsz:=AQ (w:=w) (cap:=cap) (e:=e') (n:=n+m) hzs (by rw[List.length_append,hol3,hnl,Nat.add_mul]:(olds++news).length=(n+m)*i.size)
   refine⟨_,_,L.addBox b w.heap.size,hrun,⟨S.defers,S.size,fun t=>hψ _ _ (S.env t),fun t=>hψ _ _ (S.hid t), ?_,W.setBox S.hB (by simp),S.kp.trans (G.kp _ S.hB)⟩,.inr ⟨w.heap.size,_,_,by simp [Lay.addBox,upd],rfl,hh,grownCap_ge w _ cap e',grownCap_le_maxLen w _ cap e' hf1,by rw[hsz,Nat.zero_add];exact Nat.le_refl _⟩⟩
   intro j x hj
   simp only[N7,upd] at hj
   split at hj
   ·rename_i hjb
    subst hjb
    simp only[Option.some.injEq] at hj
    subst hj
    refine⟨w.heap.size,_,by simp [Lay.addBox,upd],hh, ?_⟩
    have h5:=iZ hψ (hol2.append hre)
    have h6:=h5.length
    rw[Array.toList_append]
    show Reps _ _ ((old++cs).map (dP j)) (((olds++news)++_).take ((old++cs).map (dP j)).length)
    rw[←h6,List.take_left]
    exact h5
   ·rename_i hjb
    simp only[Option.map_eq_some_iff] at hj
    obtain⟨l,hl,rfl⟩:=hj
    obtain⟨g,arr,k1,k2,k3⟩:=S.box j l hl
    refine⟨g,arr,by simp [Lay.addBox,upd,hjb,k1],(G.block g (W.boxW j g k1).1).trans k2, ?_⟩
    show Reps _ _ (l.2.map (dP b)) (arr.toList.take (l.2.map (dP b)).length)
    rw[List.length_map]
    exact iZ hψ k3
  obtain⟨hn0,rfl⟩|⟨g,cap,arr,hg,rfl,ha,hcap1,hcap2,hcap3⟩:=hx
  ·subst hn0
   have hol:old=[]:=by unfold Et at hold;rw[if_pos (by simp)] at hold;exact (Option.some.inj hold).symm
   subst hol
   exact hgrow none 0 [] (by simp [Builtin.firstCells]) rfl (by simp) (by omega)
  ·have hcn:n*i.size≤cap*i.size:=Nat.mul_le_mul_right _ hcap1
   obtain⟨hor1,hor2⟩:=hor g arr hg ha (by omega)
   have htl:(arr.toList.take (n*i.size)).length=n*i.size:=by simp;omega
   by_cases hroom:n+m≤cap
   ·have hfit:n*i.size+news.length≤arr.size:=by
     have:=Nat.mul_le_mul_right i.size hroom
     rw[Nat.add_mul] at this
     rw[hnl];omega
    have hrun:=jC (P:=P) (ty:=ty) hu hi ha hsrc hroom hfit
    have hs':(arr.toList.take (n*i.size)++news++arr.toList.drop (n*i.size+news.length)).toArray.size=arr.size:=by
     simp only[List.size_toArray,List.length_append,htl,List.length_drop,Array.length_toList];omega
    have K:=G6 (w:=w) (arr:=(arr.toList.take (n*i.size)++news++arr.toList.drop (n*i.size+news.length)).toArray) ha hs' (S.wf.boxW b g hg).2.2 (fun j h=>S.wf.dis j b g h hg)
    have hψ:∀v u,Rep L w v u→Rep L _ (dP b v) u:=fun v u h=>Ho (b:=b) K h
    refine⟨_,_,L,hrun,⟨S.defers,S.size,fun t=>hψ _ _ (S.env t),fun t=>hψ _ _ (S.hid t), ?_,S.wf.mono (by show s.nid≤max s.nid (b+1);omega) (by simp),S.kp.trans (Kp.setRow _ (S.wf.boxW b g hg).2.1)⟩,
     .inr ⟨g,cap,_,hg,rfl,setRow_heap w g arr _ _ _ ha,hroom,hcap2,by rw[hs'];exact hcap3⟩⟩
    intro j x hj
    simp only[N7,upd] at hj
    split at hj
    ·rename_i hjb
     subst hjb
     simp only[Option.some.injEq] at hj
     subst hj
     refine⟨g,_,hg,setRow_heap w g arr _ _ _ ha, ?_⟩
     have h5:=iZ hψ (hor1.append hre)
     have h6:=h5.length
     show Reps _ _ ((old++cs).map (dP j)) (List.take ((old++cs).map (dP j)).length _)
     rw[List.toList_toArray,←h6,List.take_left]
     exact h5
    ·rename_i hjb
     simp only[Option.map_eq_some_iff] at hj
     obtain⟨l,hl,rfl⟩:=hj
     obtain⟨g',arr',k1,k2,k3⟩:=S.box j l hl
     refine⟨g',arr',k1,(setRow_other w g g' _ (fun e=>by subst e;exact hjb (S.wf.injB j b g' k1 hg))).trans k2, ?_⟩
     show Reps _ _ (l.2.map (dP b)) (arr'.toList.take (l.2.map (dP b)).length)
     rw[List.length_map]
     exact iZ hψ k3
   ·refine hgrow (some ⟨g,0,none⟩) cap (arr.toList.take (n*i.size)) ?_ hor1 htl (by omega)
    refine run_firstCells_some w.drew i.size n ⟨g,0,none⟩ _ cap _ htl ?_
    intro j v hj
    rw[dS,World.cell?_drew]
    have hrow:Row w g 0 (arr.toList.take (n*i.size)):=⟨arr,e',(0,0),ha,by rw[htl,List.drop_zero]⟩
    exact hrow.cell hj
 ·cases h
def DT(P:Program)(s:St)(t:TypeId)(len:Nat)(parts:List (Nat × V)):Option (V × St) :=
 (elemT P t).bind fun e=>(tapp P e).bind fun (k,_) =>
  match len,parts with
  | 1,[(0,v)]=>v.cs.bind fun l=>if l.length=k∧l.all V.one=true∧k≤16777216∧v.free=false then some (.bs s.nid e 0 k 1,{ s with bx:=upd s.bx s.nid (some (e,l)),nid:=s.nid+1 }) else none
  | _,_=>none
theorem Un{t e:TypeId}{k bytes:Nat}{u:Value}(he:elemT P t=some e)(hk:tapp P e=some (k,bytes))(hu:u.cells.size=k)(h24:k≤16777216) :
  ∃ur,(Instr.buildSlice t 1 #[(0,u)]).run P w = .ok (.slice (some ⟨w.heap.size,0,none⟩) 1 1) (w.alloc (.cells ur e))∧ur.toList=u.cells.toList:=by
 obtain⟨i,z,hi,hz,hzs,hik,_,hpos⟩:=jc hk
 have hz':kV P e=some z:=by simp [kV,hi,hz]
 have hsz:tsz P e=some k:=by simp [tsz,hi,hik]
 have hfold:=uB u.cells.toList 0 0 ((Array.range (1*k)).map (z.cells[·%z.cells.size]!)) (by simp;omega)
 refine⟨_, ?_,hfold.trans ?_⟩
 ·have h24':¬1*k > 2^24:=by omega
  simp only[Instr.buildSlice,Sem.run_bind,run_underlying (bW he),Result.andThen_ok,gJ hsz]
  rw[if_neg h24',if_neg (by omega)]
  simp only[Sem.run_bind,lh hz',Sem.run_pure,Result.andThen_ok]
  have h1:Instr.fill (fun i=>some (i*k,k)) ((Array.range (1*k)).map (z.cells[·%z.cells.size]!)) [(0,u)]=some (u.cells.zipIdx.foldl (fun cs (x:Value × Nat)=>cs.setIfInBounds (0*k+x.2) x.1) ((Array.range (1*k)).map (z.cells[·%z.cells.size]!))):=by
   simp only[Instr.fill]
   rw[if_neg (by simp [hu])]
  simp only[h1]
  rw[←Array.foldl_toList,Array.toList_zipIdx]
  simp [newRow]
 ·simp [hu]
theorem Uo{t:TypeId}{len:Nat}{parts:Array (Nat × Operand)}{r:V}{s':St}(S:Sim C s L a w)(h:DT P s t len (parts.toList.map fun p=>(p.1,s.ev p.2))=some (r,s')) :
  ∃u w' L',(Instr.buildSlice t len (parts.map fun (i,x)=>(i,a.eval x))).run P w = .ok u w'∧Sim C s' L' a w'∧Rep L' w' r u:=by
 simp only[DT,Option.bind_eq_some_iff,Prod.exists] at h
 obtain⟨e,he,k,bytes,hk,h⟩:=h
 split at h
 ·rename_i v hp
  simp only[Option.bind_eq_some_iff,Option.ite_none_right_eq_some,Option.some.injEq,Prod.mk.injEq] at h
  obtain⟨l,hl,⟨h1,h2,h3,_⟩,rfl,rfl⟩:=h
  obtain⟨x,hx,hv⟩:∃x,parts=#[(0,x)]∧s.ev x=v:=by
   obtain⟨pl⟩:=parts
   cases pl with
   | nil=>simp at hp
   | cons p q =>
    cases q with
    | nil =>
     obtain⟨i,x⟩:=p
     simp only[List.map_cons,List.map_nil,List.cons.injEq,Prod.mk.injEq] at hp
     obtain⟨⟨rfl,hv⟩,_⟩:=hp
     exact⟨x,rfl,hv⟩
    | cons=>simp at hp
  subst hx
  have hr:=S.ev x
  rw[hv] at hr
  have hrl:=qh hr hl
  have hsz:(a.eval x).cells.size=k:=by have:=hrl.length;simp only[Array.length_toList] at this;omega
  obtain⟨ur,h4,h5⟩:=Un (P:=P) (w:=w) he hk hsz h3
  have hur:ur.size=k:=by have:=congrArg List.length h5;simpa [hsz] using this
  have G:=Grow.alloc w (.cells ur e)
  have E:=S.wf.leBox (s:=s) w.heap.size
  refine⟨_,_,L.addBox s.nid w.heap.size,by simpa using h4,S.grow G E rfl ?_ (S.wf.addBox S.hB (by simp)),.inr ⟨w.heap.size,1,ur,by simp [Lay.addBox,upd],rfl,heap_alloc_new w _,Nat.le_refl _,by simp [maxLen],by rw[hur];omega⟩⟩
  intro b x' hb
  simp only[upd] at hb
  split at hb
  ·rename_i hbn
   subst hbn
   simp only[Option.some.injEq] at hb
   subst hb
   refine .inr ⟨w.heap.size,ur,by simp [Lay.addBox,upd],heap_alloc_new w _, ?_⟩
   rw[h5]
   exact (hrl.whole (S.wf.whole G E)).takeAll
  ·exact .inl hb
 ·cases h
def Hr(P:Program)[Tb P](t:TypeId):Bool:=match elemT P t with|some e=>Tb.nest P e|none=>false
def N8(x y:V):Bool :=
 match x with
 | .bs _ _ _ _ _=>true
 | _=>match y with | .bs _ _ _ _ _=>true|_=>false
mutual
def V.bo(id m:Nat):V→V
 | .c v => .c v
 | .sl .fz k xs => .sl .fz k xs
 | .sl .nn k xs => .sl .nn k xs
 | .sl (.own j e) k xs=>if j=id then .bs m e 0 k xs.length else .sl (.own j e) k xs
 | .agg cs => .agg (V.boL id m cs)
 | .tup cs => .tup (V.boL id m cs)
 | .ref b off => .ref b off
 | .el .fz k xs i off => .el .fz k xs i off
 | .el .nn k xs i off => .el .nn k xs i off
 | .el (.own j e) k xs i off=>if j=id then .ref m (i*k+off) else .el (.own j e) k xs i off
 | .fn f fs cs => .fn f (V.boL id m fs) (V.boL id m cs)
 | .top => .top
 | .nif => .nif
 | .mp .fz es => .mp .fz es
 | .mp .nn es => .mp .nn es
 | .mp (.own j e) es=>if j=id then .top else .mp (.own j e) es
 | .bs b e o k n => .bs b e o k n
def V.boL(id m:Nat):List V→List V
 | []=>[]
 | x::xs=>V.bo id m x::V.boL id m xs
end
theorem Eu(id m:Nat)(l:List V):V.boL id m l=l.map (V.bo id m):=by
 induction l with
 | nil=>rfl
 | cons x xs ih=>simp [V.boL,ih]
def Lay.bo(L:Lay)(id m g:Nat):Lay:={ A:=L.A,own:=fun j=>if j=id then none else L.own j,box:=upd L.box m (some g) }
theorem adk{id m g:Nat}(hg:L.own id=some g)(hm:∀b g,L.box b=some g→b<m)(hcells:∃arr e,w.heap[g]?=some (.cells arr e (0,0))) :
  (∀v u,Rep L w v u→Rep (L.bo id m g) w (V.bo id m v) u)∧(∀l us,Reps L w l us→Reps (L.bo id m g) w (V.boL id m l) us):=by
 have K:Trans (Tag.is id) (fun _=>false) _root_.id _root_.id L (L.bo id m g) w w :=
  ⟨rfl,fun g' h=>⟨h,.of rfl⟩,fun j e hj g' h=>⟨⟨rfl,by
   have:j≠id:=by simpa [Tag.is] using hj
   simp [Lay.bo,this,h]⟩,rfl⟩,fun b _ g' h=>⟨by
   have:=hm b g' h
   simp [Lay.bo,upd,show b≠m by omega,h],.of rfl⟩⟩
 have pass:∀v u,v.any (Tag.is id) (fun _=>false) false=false→Rep L w v u→Rep (L.bo id m g) w v u:=fun v u hv h=>by
  have:=h.trans rfl K hv
  rwa [map_id.1] at this
 have hbm:(L.bo id m g).box m=some g:=by simp [Lay.bo,upd]
 refine V.ind ?_ ?_ ?_ ?_ ?_ ?_ ?_ ?_ ?_ ?_ ?_ ?_ ?_
 ·intro v u h;exact h
 ·intro u h;exact h
 ·intro t k xs _ u h
  cases t with
  | fz=>exact pass _ _ rfl h
  | nn=>exact pass _ _ rfl h
  | own j e =>
   simp only[V.bo]
   split
   ·rename_i hj
    subst hj
    obtain⟨a,cap,cells,rfl,h2,⟨h3,rfl,rfl⟩|⟨g',arr,h3,rfl,h4,h5,h6,h7,h8⟩⟩:=h
    ·exact .inl ⟨h3,by rw[h3]⟩
    ·rw[hg] at h3
     simp only[Option.some.injEq] at h3
     subst h3
     exact .inr ⟨g,cap,arr,hbm,rfl,h4,h5,h6,by rw[h7];omega⟩
   ·rename_i hj
    exact pass _ _ (by simp [V.any,Tag.is,hj]) h
 ·intro t es u h
  cases t with
  | fz=>exact pass _ _ rfl h
  | nn=>exact pass _ _ rfl h
  | own j e =>
   simp only[V.bo]
   split
   ·trivial
   ·rename_i hj
    exact pass _ _ (by simp [V.any,Tag.is,hj]) h
 ·rintro cs ih u ⟨a,h1,h2⟩;exact⟨a,h1,ih _ h2⟩
 ·rintro cs ih u ⟨a,h1,h2⟩;exact⟨a,h1,ih _ h2⟩
 ·intro b o u h;exact pass _ _ rfl h
 ·intro b e o k n u h;exact pass _ _ rfl h
 ·intro t k xs i o _ u h
  cases t with
  | fz=>exact pass _ _ rfl h
  | nn=>exact pass _ _ rfl h
  | own j e =>
   simp only[V.bo]
   split
   ·rename_i hj
    subst hj
    obtain⟨g',o',cells,rfl,h2,h3,rfl,h4⟩:=h
    rw[hg] at h3
    simp only[Option.some.injEq] at h3
    subst h3
    exact⟨g,hbm,by rw[Nat.zero_add]⟩
   ·rename_i hj
    exact pass _ _ (by simp [V.any,Tag.is,hj]) h
 ·rintro f fs cs ih1 ih2 u ⟨a,b,h1,h2,h3⟩;exact⟨a,b,h1,ih1 _ h2,ih2 _ h3⟩
 ·intro u _;trivial
 ·intro us h;exact h
 ·rintro x xs ih1 ih2 us ⟨u,r,h1,h2,h3⟩;exact⟨u,r,h1,ih1 _ h2,ih2 _ h3⟩
theorem Wf.bo{nid id g:Nat}(W:Wf C nid L w)(hg:L.own id=some g):Wf C (nid+1) (L.bo id nid g) w where
 nidO:=fun j g' h=>by
  simp only[Lay.bo] at h
  split at h
  ·cases h
  ·have:=W.nidO j g' h;omega
 nidB:=fun b g' h=>by
  simp only[Lay.bo,upd] at h
  split at h
  ·omega
  ·have:=W.nidB b g' h;omega
 own:=fun j g' h=>by
  simp only[Lay.bo] at h
  split at h
  ·cases h
  ·exact W.own j g' h
 boxW:=fun b g' h=>by
  simp only[Lay.bo,upd] at h
  split at h
  ·simp only[Option.some.injEq] at h;subst h;exact W.own id g hg
  ·exact W.boxW b g' h
 injO:=fun i j g' h h'=>by
  simp only[Lay.bo] at h h'
  split at h
  ·cases h
  ·split at h'
   ·cases h'
   ·exact W.injO i j g' h h'
 injB:=fun i j g' h h'=>by
  simp only[Lay.bo,upd] at h h'
  split at h<;>split at h'
  ·omega
  ·simp only[Option.some.injEq] at h;subst h;exact (W.dis id j g hg h').elim
  ·simp only[Option.some.injEq] at h';subst h';exact (W.dis id i g hg h).elim
  ·exact W.injB i j g' h h'
 dis:=fun i j g' h h'=>by
  simp only[Lay.bo,upd] at h h'
  split at h
  ·cases h
  ·rename_i hi
   split at h'
   ·simp only[Option.some.injEq] at h';subst h';exact hi (W.injO i id g h hg)
   ·exact W.dis i j g' h h'
 old:=W.old
 frz:=W.frz
def boS(s:St)(id:Nat)(e:TypeId)(cs:List V):St :=
 { (s.mapV (V.bo id s.nid)) with bx:=upd (fun j=>(s.bx j).map fun y=>(y.1,y.2.map (V.bo id s.nid))) s.nid (some (e,cs.map (V.bo id s.nid))),nid:=s.nid+1 }
def tV(P:Program)(s:St)(t:TypeId)(id:Nat)(e:TypeId)(k:Nat)(xs:List V)(i off:Nat)(y:V):Option St :=
 if y.free=true then none else (o9 k xs).bind fun cs=>jB P (boS s id e cs) t s.nid (i*k+off) (V.bo id s.nid y)
theorem Ku{t:TypeId}{id:Nat}{e:TypeId}{k i off:Nat}{xs:List V}{y:V}{u uy:Value}{s':St}(h:tV P s t id e k xs i off y=some s')(S:Sim C s L a w)(hu:Rep L w (.el (.own id e) k xs i off) u)(hy:Rep L w y uy) :
  ∃w' L',(Instr.storeAt t u uy).run P w = .ok () w'∧Sim C s' L' a w':=by
 unfold tV at h
 split at h
 ·cases h
 simp only[Option.bind_eq_some_iff] at h
 obtain⟨cs,hcs,h⟩:=h
 have hu':=hu
 obtain⟨g,o,cells,rfl,h2,h3,rfl,arr,h4,h5⟩:=hu
 have B:=adk (m:=s.nid) h3 (fun b g h=>S.wf.nidB b g h) ⟨arr,e,h4⟩
 have hψ:=B.1
 have hun:=hψ _ _ hu'
 have e1:V.bo id s.nid (.el (.own id e) k xs i off) = .ref s.nid (i*k+off):=by simp [V.bo]
 rw[e1] at hun
 have S1:Sim C (boS s id e cs) (L.bo id s.nid g) a w:=by
  refine⟨S.defers,S.size,fun t=>hψ _ _ (S.env t),fun t=>hψ _ _ (S.hid t), ?_,S.wf.bo h3,S.kp⟩
  intro j x hj
  simp only[boS,upd] at hj
  split at hj
  ·rename_i hjn
   subst hjn
   simp only[Option.some.injEq] at hj
   subst hj
   refine⟨g,arr,by simp [Lay.bo,upd],h4, ?_⟩
   have h6:=DR hcs h2
   have h7:=h6.length
   show Reps _ _ (cs.map (V.bo id s.nid)) (arr.toList.take (cs.map (V.bo id s.nid)).length)
   rw[List.length_map,←h7,h5]
   exact iZ hψ h6
  ·rename_i hjn
   simp only[Option.map_eq_some_iff] at hj
   obtain⟨l,hl,rfl⟩:=hj
   obtain⟨g',arr',k1,k2,k3⟩:=S.box j l hl
   refine⟨g',arr',by simp [Lay.bo,upd,hjn,k1],k2, ?_⟩
   show Reps _ _ (l.2.map (V.bo id s.nid)) (arr'.toList.take (l.2.map (V.bo id s.nid)).length)
   rw[List.length_map]
   exact iZ hψ k3
 obtain⟨w',h8,h9⟩:=xg h S1 hun (hψ _ _ hy)
 exact⟨w',_,h8,h9⟩
mutual
def V.fb(b:Nat)(cs:List V):V→V
 | .c v => .c v
 | .sl t k xs => .sl t k xs
 | .agg l => .agg (V.fbL b cs l)
 | .tup l => .tup (V.fbL b cs l)
 | .ref j off=>if j=b then .top else .ref j off
 | .el t k xs i off => .el t k xs i off
 | .fn f fs l => .fn f (V.fbL b cs fs) (V.fbL b cs l)
 | .top => .top
 | .nif => .nif
 | .mp t es => .mp t es
 | .bs j e o k n=>if j=b then (if k=1∧o+n≤cs.length then .sl .fz 1 ((cs.drop o).take n) else .top) else .bs j e o k n
def V.fbL(b:Nat)(cs:List V):List V→List V
 | []=>[]
 | x::xs=>V.fb b cs x::V.fbL b cs xs
end
theorem adl{b:Nat}{e:TypeId}{cs:List V}(S:Sim C s L a w)(hb:s.bx b=some (e,cs))(hf:cs.all (fun v=>v.free&&v.one)=true) :
  (∀v u,Rep L w v u→Rep (L.kill b) w (V.fb b cs v) u)∧(∀l us,Reps L w l us→Reps (L.kill b) w (V.fbL b cs l) us):=by
 have K:Trans (fun _=>false) (fun j=>j == b) _root_.id _root_.id L (L.kill b) w w:=by
  refine⟨rfl,fun g h=>⟨.inl h,.of rfl⟩,fun j e _ g h=>⟨⟨rfl,h⟩,rfl⟩,fun j hj g h => ?_⟩
  have:j≠b:=by simpa using hj
  simp only[Lay.kill,id_eq,if_neg this];exact⟨h,.of rfl⟩
 have pass:∀v u,v.any (fun _=>false) (fun j=>j == b) false=false→Rep L w v u→Rep (L.kill b) w v u:=fun v u hv h=>by
  have:=h.trans rfl K hv
  rwa [map_id.1] at this
 obtain⟨g,arr,hg,ha,hr⟩:=S.box b _ hb
 have hE:=RepE.trans rfl K (DN hr hf)
 refine V.ind ?_ ?_ ?_ ?_ ?_ ?_ ?_ ?_ ?_ ?_ ?_ ?_ ?_
 ·intro v u h;exact h
 ·intro u h;exact h
 ·intro t k xs _ u h;exact pass _ _ rfl h
 ·intro t es u h;exact pass _ _ rfl h
 ·rintro l ih u ⟨a,h1,h2⟩;exact⟨a,h1,ih _ h2⟩
 ·rintro l ih u ⟨a,h1,h2⟩;exact⟨a,h1,ih _ h2⟩
 ·intro j o u h
  simp only[V.fb]
  split
  ·trivial
  ·rename_i hj;exact pass _ _ (by simp [V.any,hj]) h
 ·intro j be o k n u h
  simp only[V.fb]
  split
  ·rename_i hj
   subst hj
   split
   ·rename_i hkn
    obtain⟨rfl,hon⟩:=hkn
    have hl:((cs.drop o).take n).length=n:=by simp;omega
    have h3:=(hE.drop o).take n
    simp only[Nat.mul_one] at h3
    obtain⟨h0,rfl⟩|⟨g',cap,arr',hg',rfl,ha',hc1,hc2,hc3⟩:=h
    ·subst h0
     exact⟨none,0,[],by simp,by simp [RepE],by simp,.inl (by simp)⟩
    ·rw[hg] at hg'
     simp only[Option.some.injEq] at hg'
     subst hg'
     refine⟨some ⟨g,o,none⟩,cap,_,by rw[hl],h3,by rw[hl];exact hc1,.inr ⟨g,o,rfl,.inr hg,arr,e,(0,0),ha, ?_⟩⟩
     have hlen:=h3.length
     rw[hl,Nat.mul_one] at hlen
     rw[hlen]
     show (arr.toList.drop o).take n=((arr.toList.take cs.length).drop o).take n
     rw[rD _ _ _ _ hon]
   ·trivial
  ·rename_i hj;exact pass _ _ (by simp [V.any,hj]) h
 ·intro t k xs i o _ u h;exact pass _ _ rfl h
 ·rintro f fs l ih1 ih2 u ⟨a,b,h1,h2,h3⟩;exact⟨a,b,h1,ih1 _ h2,ih2 _ h3⟩
 ·intro u _;trivial
 ·intro us h;exact h
 ·rintro x xs ih1 ih2 us ⟨u,r,h1,h2,h3⟩;exact⟨u,r,h1,ih1 _ h2,ih2 _ h3⟩
def fbS(s:St)(b:Nat)(cs:List V):St:={ (s.mapV (V.fb b cs)) with bx:=upd (fun j=>(s.bx j).map fun y=>(y.1,y.2.map (V.fb b cs))) b none }
theorem Sim.fb{b:Nat}{e:TypeId}{cs:List V}(S:Sim C s L a w)(hb:s.bx b=some (e,cs))(hf:cs.all (fun v=>v.free&&v.one)=true) :
  Sim C (fbS s b cs) (L.kill b) a w∧∀v u,Rep L w v u→Rep (L.kill b) w (V.fb b cs v) u:=by
 have hψ:=(adl S hb hf).1
 refine⟨⟨S.defers,S.size,fun t=>hψ _ _ (S.env t),fun t=>hψ _ _ (S.hid t), ?_,(S.kill b).wf,S.kp⟩,hψ⟩
 intro j x hj
 simp only[fbS,upd] at hj
 split at hj
 ·cases hj
 ·rename_i hjb
  simp only[Option.map_eq_some_iff] at hj
  obtain⟨l,hl,rfl⟩:=hj
  obtain⟨g,arr,k1,k2,k3⟩:=S.box j l hl
  refine⟨g,arr,by simp only[Lay.kill,if_neg hjb];exact k1,k2, ?_⟩
  show Reps _ _ (l.2.map (V.fb b cs)) (arr.toList.take (l.2.map (V.fb b cs)).length)
  rw[List.length_map]
  exact iZ hψ k3
end
end Go.Pg
end
