/-
  Merged texts.
-/
import Derived.MapKept
import Derived.Test.YtiohdbjggmmjcaaGreatWAE
set_option linter.unusedVariables false
set_option linter.unusedSimpArgs false
set_option linter.unusedSectionVars false
set_option linter.defProp false
set_option maxRecDepth 100000
set_option maxHeartbeats 8000000
section
namespace Go.Pg
open Go
def AL(P:Program)(t:TypeId):Option (TypeId × TypeId):=match P.underlying t with|some (.map k e)=>some (k,e)|_=>none
theorem Hf{P:Program}{t k e:TypeId}(h:AL P t=some (k,e)):P.underlying t=some (.map k e):=by
 unfold AL at h
 split at h
 ·rename_i a b hu
  simp only[Option.some.injEq,Prod.mk.injEq] at h
  obtain⟨rfl,rfl⟩:=h
  exact hu
 ·cases h
def o8:List (ByteArray × Value)→ByteArray→Nat→Option (Nat × Value)
 | [],_,_=>none
 | (a,v)::r,k,i=>if (k == a)=true then some (i,v) else o8 r k (i+1)
def xh(es:List (ByteArray × Value))(k:ByteArray):Option Value:=(o8 es k 0).map (·.2)
def ng:List (ByteArray × Value)→ByteArray→Value→List (ByteArray × Value)
 | [],k,v=>[(k,v)]
 | (a,u)::r,k,v=>if (k == a)=true then (k,v)::r else (a,u)::ng r k v
theorem AO(k:ByteArray):∀(es:List MapEntry) (ps:List (ByteArray × Value)) (i:Nat),es.map (fun x=>(x.key,x.val))=ps.map (fun x=>(Value.string x.1,x.2))→Instr.findNow .string (.string k) es i=some (o8 ps k i):=by
 intro es
 induction es with
 | nil=>intro ps i h;cases ps with
  | nil=>rfl
  | cons p r=>cases h
 | cons e es ih =>
  intro ps i h
  cases ps with
  | nil=>cases h
  | cons p r =>
   obtain⟨a,v⟩:=p
   simp only[List.map_cons,List.cons.injEq,Prod.mk.injEq] at h
   obtain⟨⟨h1,h2⟩,h3⟩:=h
   unfold Instr.findNow o8
   rw[h1]
   simp only[Instr.sameNow]
   cases hk:k == a
   ·simp only[Bool.false_eq_true,if_false]
    exact ih r (i+1) h3
   ·simp only[if_true,h2]
theorem zI:∀(ps:List (ByteArray × Value)) (k:ByteArray) (i j:Nat) (v:Value),o8 ps k i=some (j,v)→i≤j∧j<i+ps.length:=by
 intro ps
 induction ps with
 | nil=>intro k i j v h;cases h
 | cons p r ih =>
  intro k i j v h
  obtain⟨a,u⟩:=p
  unfold o8 at h
  split at h
  ·simp only[Option.some.injEq,Prod.mk.injEq] at h
   obtain⟨rfl,_⟩:=h
   simp only[List.length_cons];omega
  ·have:=ih k (i+1) j v h
   simp only[List.length_cons];omega
theorem Kq:∀(ps:List (ByteArray × Value)) (k:ByteArray) (i:Nat) (v:Value),o8 ps k i=none→ng ps k v=ps++[(k,v)]:=by
 intro ps
 induction ps with
 | nil=>intro k i v _;rfl
 | cons p r ih =>
  intro k i v h
  obtain⟨a,u⟩:=p
  unfold o8 at h
  unfold ng
  split at h
  ·cases h
  ·rename_i hk
   rw[if_neg hk,ih k (i+1) v h]
   rfl
theorem Kr:∀(ps:List (ByteArray × Value)) (k:ByteArray) (i j:Nat) (u v:Value),o8 ps k i=some (j,u)→ng ps k v=ps.modify (j-i) fun _=>(k,v):=by
 intro ps
 induction ps with
 | nil=>intro k i j u v h;cases h
 | cons p r ih =>
  intro k i j u v h
  obtain⟨a,x⟩:=p
  have hle:=zI _ _ _ _ _ h
  unfold o8 at h
  unfold ng
  split at h
  ·rename_i hk
   simp only[Option.some.injEq,Prod.mk.injEq] at h
   obtain⟨rfl,_⟩:=h
   rw[if_pos hk,Nat.sub_self]
   rfl
  ·rename_i hk
   have h2:=zI _ _ _ _ _ h
   rw[if_neg hk,ih k (i+1) j u v h]
   have:j-i=(j-(i+1))+1:=by omega
   rw[this]
   rfl
theorem AP{α β γ:Type}{p:α→γ}{q:β→γ}{f:α→α}{g:β→β}{c:γ}(hf:∀x,p (f x)=c)(hg:∀y,q (g y)=c):∀{l:List α} {m:List β},l.map p=m.map q→∀i,(l.modify i f).map p=(m.modify i g).map q:=by
 intro l
 induction l with
 | nil=>intro m h i;cases m with
  | nil=>cases i<;>rfl
  | cons y m=>cases h
 | cons x l ih =>
  intro m h i
  cases m with
  | nil=>cases h
  | cons y m =>
   simp only[List.map_cons,List.cons.injEq] at h
   cases i with
   | zero=>simp only[List.modify_zero_cons,List.map_cons,hf,hg,h.2]
   | succ i=>simp only[List.modify_succ_cons,List.map_cons,h.1,ih h.2 i]
theorem Ul:∀(ps:List (ByteArray × Value)) (k:ByteArray) (i j:Nat) (v:Value),o8 ps k i=some (j,v)→∃a,ps[j-i]?=some (a,v)∧(a == k)=true:=by
 intro ps
 induction ps with
 | nil=>intro k i j v h;cases h
 | cons p r ih =>
  intro k i j v h
  obtain⟨a,u⟩:=p
  unfold o8 at h
  split at h
  ·rename_i hk
   simp only[Option.some.injEq,Prod.mk.injEq] at h
   obtain⟨rfl,rfl⟩:=h
   exact⟨a,by rw[Nat.sub_self];rfl,by rw[MapKept.bytes_beq] at hk ⊢;exact hk.symm⟩
  ·have h2:=zI _ _ _ _ _ h
   obtain⟨b,h3,h4⟩:=ih k (i+1) j v h
   have:j-i=(j-(i+1))+1:=by omega
   exact⟨b,by rw[this];exact h3,h4⟩
section
variable {P:Program} {C:Cx} {s:St} {L:Lay} {a:Act} {w:World}
def uD(P:Program)(s:St)(t:TypeId):Option (V × St):=(AL P t).map fun _=>(.mp (.own s.nid t) [],{ s with nid:=s.nid+1 })
theorem PR{t:TypeId}{r:V}{s':St}(h:uD P s t=some (r,s'))(S:Sim C s L a w):∃u w' L',(Instr.makeMap t none).run P w = .ok u w'∧Sim C s' L' a w'∧Rep L' w' r u:=by
 simp only[uD,Option.map_eq_some_iff,Prod.mk.injEq] at h
 obtain⟨_,_,rfl,rfl⟩:=h
 let o:Obj := .map #[] 0
 have hh:(w.alloc o).heap[w.heap.size]?=some o:=heap_alloc_new w o
 have G:Grow w (w.alloc o):=⟨rfl,rfl,rfl,by simp,fun k hk=>RowKit.Below.heap_alloc _ _ _ (by omega),Nat.le_refl _⟩
 have E:=S.wf.leOwn (s:=s) w.heap.size
 exact⟨_,w.alloc o,L.addOwn s.nid w.heap.size,rfl,S.grow G E rfl (fun b cs h => .inl h) (S.wf.addOwn S.hB (by simp)),_,rfl,w.heap.size,#[],0,rfl,by simp [Lay.addOwn,upd],hh,rfl⟩
def lkV(P:Program)(t:TypeId)(x y:V)(ok:Bool):Option V :=
 match x,y with
 | .mp (.own _ _) es,.c (.string k)=>(AL P t).bind fun p=>if gy P p.1=true then (kV P p.2).map fun z=>(if ok then .tup [.c ((xh es k).getD z),.c (.bool (xh es k).isSome)] else .c ((xh es k).getD z)) else none
 | _,_=>none
theorem ZC{t:TypeId}{x y r:V}{ux uy:Value}{ok:Bool}(h:lkV P t x y ok=some r)(hx:Rep L w x ux)(hy:Rep L w y uy):∃u,(Instr.lookup t ux uy ok).run P w = .ok u w∧Rep L w r u:=by
 unfold lkV at h
 split at h
 ·rename_i id e es k
  simp only[Option.bind_eq_some_iff,Option.ite_none_right_eq_some,Option.map_eq_some_iff] at h
  obtain⟨⟨kt,el⟩,hm,hs,z,hz,rfl⟩:=h
  obtain⟨r,rfl,g,arr,clk,rfl,h2,h3,h4⟩:=hx
  simp only[Rep] at hy;subst hy
  have hk:=iL hs
  have hf:=AO k arr.toList es 0 h4
  have hc:=MapKept.run_checkKey (P:=P) (w:=w) hk (show MapKept.IsKey .string (.string k) from trivial) arr.isEmpty 9999
  have hzv:(zeroValue el).run P w = .ok z w:=lh hz w
  refine⟨if ok then .tuple #[(xh es k).getD z,.bool (xh es k).isSome] else (xh es k).getD z, ?_, ?_⟩
  ·unfold Instr.lookup
   simp only[Sem.run_bind,run_underlying (Hf hm),Result.andThen_ok,MapKept.run_getObj_map h3,Sem.run_pure,hc,Instr.findKey,run_underlying hk,hf]
   unfold xh
   cases hx:o8 es k 0 with
   | none=>simp [hzv]
   | some p=>cases ok<;>simp
  ·cases ok
   ·rfl
   ·exact⟨_,rfl,_,_,rfl,rfl,_,_,rfl,rfl,rfl⟩
 ·cases h
def jY(id:Nat)(es':List (ByteArray × Value))(v:V):V :=
 match v with
 | .mp (.own j e) es=>if j=id then .mp (.own j e) es' else .mp (.own j e) es
 | v=>aJ id v
def Kt(P:Program)(s:St)(t:TypeId)(m y x:V):Option (V × St) :=
 match m,y,x with
 | .mp (.own id _) es,.c (.string k),.c v=>(AL P t).bind fun p=>if gy P p.1=true then some (.top,s.mapV (jY id (ng es k v))) else none
 | _,_,_=>none
theorem PS{id g:Nat}{arr arr':Array MapEntry}{clk clk':Nat}{es':List (ByteArray × Value)}(hg:L.own id=some g)(ha:w.heap[g]?=some (.map arr clk))(hinj:∀j,L.own j=some g→j=id)(hnA:¬L.A g)
  (he:arr'.toList.map (fun x=>(x.key,x.val))=es'.map fun x=>(Value.string x.1,x.2)) {v:V} {u:Value} (h:Rep L w v u):Rep L { w with heap:=w.heap.setIfInBounds g (.map arr' clk') } (jY id es' v) u:=by
 have hlt:g<w.heap.size:=(Array.getElem?_eq_some_iff.1 ha).1
 have hoth:∀g',g'≠g→({ w with heap:=w.heap.setIfInBounds g (.map arr' clk') }:World).heap[g']?=w.heap[g']?:=fun g' hg'=>by
  simp only[Array.getElem?_setIfInBounds]
  rw[if_neg (Ne.symm hg')]
 have K:Trans (Tag.is id) (fun _=>false) _root_.id _root_.id L L w { w with heap:=w.heap.setIfInBounds g (.map arr' clk') } :=
  ⟨rfl,fun g' h=>⟨h,.of (hoth g' (fun e=>by subst e;exact hnA h))⟩,
   fun j e hj g' h=>⟨⟨rfl,h⟩,hoth g' (fun e=>by subst e;have:=hinj j h;simp [Tag.is,this] at hj)⟩,fun _ _ g' h=>⟨h,fun a1 e1 h1=>⟨a1,(hoth g' (fun e=>by subst e;rw[ha] at h1;cases h1)).trans h1,rfl⟩⟩⟩
 unfold jY
 split
 ·rename_i j e es
  split
  ·rename_i hj
   subst hj
   obtain⟨r,rfl,g',arr0,clk0,rfl,h2,h3,h4⟩:=h
   rw[hg] at h2
   simp only[Option.some.injEq] at h2
   subst h2
   exact⟨_,rfl,g,arr',clk',rfl,hg,by simp [Array.getElem?_setIfInBounds,hlt],he⟩
  ·rename_i hj
   have:=h.trans (p:=Tag.is id) (q:=fun _=>false) rfl K (by simp [V.any,Tag.is,hj])
   rwa [map_id.1] at this
 ·exact jR K h
theorem ZE{t:TypeId}{m y x r:V}{um uy ux:Value}{s':St}(h:Kt P s t m y x=some (r,s'))(S:Sim C s L a w)(hm:Rep L w m um)(hy:Rep L w y uy)(hx:Rep L w x ux) :
  r = .top∧∃w',(Instr.mapUpdate t um uy ux).run P w = .ok () w'∧Sim C s' L a w':=by
 unfold Kt at h
 split at h
 ·rename_i id e es k v
  simp only[Option.bind_eq_some_iff,Option.ite_none_right_eq_some,Option.some.injEq,Prod.mk.injEq] at h
  obtain⟨⟨kt,el⟩,ht,hs,rfl,rfl⟩:=h
  obtain⟨r,rfl,g,arr,clk,rfl,h2,h3,h4⟩:=hm
  simp only[Rep] at hy hx;subst hy;subst hx
  have hk:=iL hs
  have hf:=AO k arr.toList es 0 h4
  have hc:=MapKept.run_checkKey (P:=P) (w:=w) hk (show MapKept.IsKey .string (.string k) from trivial) false 9999
  obtain⟨hw1,hw2,hw3⟩:=S.wf.own id g h2
  have hinj:∀j,L.own j=some g→j=id:=fun j hj=>S.wf.injO j id g hj h2
  have fin:∀(arr':Array MapEntry) (clk':Nat),arr'.toList.map (fun x=>(x.key,x.val))=(ng es k ux).map (fun x=>(Value.string x.1,x.2))→Sim C (s.mapV (jY id (ng es k ux))) L a { w with heap:=w.heap.setIfInBounds g (.map arr' clk') }:=by
   intro arr' clk' he
   refine S.mapV (nid:=s.nid) (fun v u h=>PS h2 h3 hinj hw3 he h) (fun b g' h=>⟨h, ?_⟩) (S.wf.mono (Nat.le_refl _) (by simp)) ⟨rfl,rfl,rfl,by simp,fun k hk hW => ?_,Nat.le_refl _⟩
   ·simp only[Array.getElem?_setIfInBounds]
    rw[if_neg (fun e=>by subst e;exact S.wf.dis id b _ h2 h)]
   ·simp only[Array.getElem?_setIfInBounds]
    rw[if_neg (fun e=>by subst e;exact hw2.elim (fun h=>by omega) hW)]
  refine⟨rfl, ?_⟩
  unfold Instr.mapUpdate
  simp only[Sem.run_bind,run_underlying (Hf ht),Result.andThen_ok,MapKept.run_getObj_map h3,Sem.run_pure,hc,Instr.findKey,run_underlying hk,hf]
  cases hx:o8 es k 0 with
  | none =>
   simp only[MapKept.run_setObj_map _ h3]
   refine⟨_,rfl,fin _ _ ?_⟩
   rw[Kq es k 0 ux hx]
   simp [h4]
  | some p =>
   obtain⟨i,u⟩:=p
   obtain⟨hi0,hi1⟩:=zI es k 0 i u hx
   have hks:Instr.sameBits 10000 ((arr[i]?).map (·.key) |>.getD (.string k)) (.string k)=true:=by
    have:=Ul es k 0 i u hx
    have hl:arr.toList.length=es.length:=by have:=congrArg List.length h4;simpa using this
    have hai:i<arr.size:=by simp only[Array.length_toList] at hl;omega
    have h5:(arr.toList.map (fun x=>(x.key,x.val)))[i]?=(es.map fun x=>(Value.string x.1,x.2))[i]?:=by rw[h4]
    simp only[List.getElem?_map,Array.getElem?_toList] at h5
    obtain⟨a,ha1,ha2⟩:=this
    rw[Nat.sub_zero] at ha1
    rw[ha1] at h5
    simp only[Array.getElem?_eq_getElem hai,Option.map_some,Option.some.injEq,Prod.mk.injEq] at h5
    rw[Array.getElem?_eq_getElem hai,Option.map_some,Option.getD_some,h5.1]
    show (a == k)=true
    exact ha2
   simp only[Instr.keyThatStays,hks,if_true,Sem.run_pure,Result.andThen_ok,MapKept.run_setObj_map _ h3]
   refine⟨_,by simp only[Sem.run_bind,Sem.run_pure,Result.andThen_ok,MapKept.run_setObj_map _ h3];rfl,fin _ _ ?_⟩
   rw[Kr es k 0 i u ux hx,Nat.sub_zero,Array.toList_modify]
   exact AP (p:=fun x:MapEntry=>(x.key,x.val)) (q:=fun x:ByteArray × Value=>(Value.string x.1,x.2)) (c:=(Value.string k,ux)) (fun _=>rfl) (fun _=>rfl) h4 i
 ·cases h
end
end Go.Pg
end
section
namespace Go.Pg
open Go
structure ResLay (A:Nat→Prop) (w w':World) (L:Lay):Prop where
 A:∀g,L.A g→A g∨(w.heap.size≤g∧g<w'.heap.size)
 own:∀id g,L.own id=some g→w.heap.size≤g∧g<w'.heap.size∧¬L.A g
 inj:∀i j g,L.own i=some g→L.own j=some g→i=j
def jD(P:Program)(f:FuncId):Bool :=
 match P.funcs[f]? with
 | some fn => !(fn.name == "runtime.NumGoroutine")&&fn.body.isSome
 | none=>false
def Good(P:Program)[Tb P](f:FuncId)(args:List V)(r:V):Prop :=
 jD P f=true∧∀(A:Nat→Prop) (w:World) (cargs:List Value),Tb.T P w→(∀g,A g→g<w.heap.size)→Reps ⟨A,fun _=>none,fun _=>none⟩ w args cargs →
  Calls P f cargs.toArray w fun e w'=>∃u L,e = .returned u∧Rep L w' r u∧Kp (fun _=>False) w.heap.size w w'∧ResLay A w w' L
mutual
def V.idb:V→Nat
 | .c _=>0
 | .sl (.own id _) _ _=>id+1
 | .sl .fz _ _=>0
 | .sl .nn _ _=>0
 | .agg cs=>V.idbL cs
 | .tup cs=>V.idbL cs
 | .ref _ _=>0
 | .el (.own id _) _ _ _ _=>id+1
 | .el .fz _ _ _ _=>0
 | .el .nn _ _ _ _=>0
 | .fn _ fs cs=>max (V.idbL fs) (V.idbL cs)
 | .top=>0
 | .nif=>0
 | .mp (.own id _) _=>id+1
 | .mp .fz _=>0
 | .mp .nn _=>0
 | .bs _ _ _ _ _=>0
def V.idbL:List V→Nat
 | []=>0
 | x::xs=>max (V.idb x) (V.idbL xs)
end
mutual
def V.flat:V→Bool
 | .c _=>true
 | .sl (.own _ _) _ xs=>V.flatL xs
 | .sl .fz _ _=>false
 | .sl .nn _ xs=>V.flatL xs
 | .agg cs=>V.flatL cs
 | .tup cs=>V.flatL cs
 | .ref _ _=>false
 | .el _ _ _ _ _=>false
 | .fn _ fs cs=>V.flatL fs&&V.flatL cs
 | .top=>true
 | .nif=>true
 | .mp _ _=>true
 | .bs _ _ _ _ _=>false
def V.flatL:List V→Bool
 | []=>true
 | x::xs=>V.flat x&&V.flatL xs
end
def Tag.ge(n:Nat):Tag→Bool
 | .fz=>false
 | .nn=>false
 | .own id _ => !decide (id<n)
theorem Ep(n:Nat):(∀v:V,v.idb≤n→v.any (Tag.ge n) (fun _=>false) false=false)∧(∀l,V.idbL l≤n→V.anyL (Tag.ge n) (fun _=>false) false l=false):=by
 refine V.ind ?_ ?_ ?_ ?_ ?_ ?_ ?_ ?_ ?_ ?_ ?_ ?_ ?_
 ·intro v _;rfl
 ·intro _;rfl
 ·intro t k xs _ h;cases t with
  | fz=>rfl
  | nn=>rfl
  | own id e=>simp only[V.idb] at h;simp [V.any,Tag.ge];omega
 ·intro t es h;cases t with
  | fz=>rfl
  | nn=>rfl
  | own id e=>simp only[V.idb] at h;simp [V.any,Tag.ge];omega
 ·intro cs ih h;exact ih h
 ·intro cs ih h;exact ih h
 ·intro b o _;rfl
 ·intro b be bo bk bn _;rfl
 ·intro t k xs i o _ h;cases t with
  | fz=>rfl
  | nn=>rfl
  | own id e=>simp only[V.idb] at h;simp [V.any,Tag.ge];omega
 ·intro f fs cs h1 h2 h;simp only[V.idb] at h;simp [V.any,h1 (by omega),h2 (by omega)]
 ·intro _;rfl
 ·intro _;rfl
 ·intro x xs h1 h2 h;simp only[V.idbL] at h;simp [V.anyL,h1 (by omega),h2 (by omega)]
theorem Hg{L:Lay}{w:World}(A:Nat→Prop):(∀v u,V.flat v=true→Rep L w v u→Rep { L with A:=A } w v u) ∧
  (∀l,(∀us,V.flatL l=true→Reps L w l us→Reps { L with A:=A } w l us)∧(∀k us,V.flatL l=true→RepE L w k l us→RepE { L with A:=A } w k l us)):=by
 refine V.ind ?_ ?_ ?_ ?_ ?_ ?_ ?_ ?_ ?_ ?_ ?_ ?_ ?_
 ·intro v u _ h;exact h
 ·intro u _ h;exact h
 ·rintro t k xs ⟨_,ih⟩ u hf ⟨a,cap,cells,h1,h2,h3⟩
  cases t with
  | fz=>simp [V.flat] at hf
  | nn=>exact⟨a,cap,cells,h1,ih k cells hf h2,h3⟩
  | own id e=>exact⟨a,cap,cells,h1,ih k cells hf h2,h3⟩
 ·rintro t es u _ ⟨r,h1,h2⟩
  exact⟨r,h1,by cases t<;>exact h2⟩
 ·rintro cs ⟨ih,_⟩ u hf ⟨a,h1,h2⟩;exact⟨a,h1,ih _ hf h2⟩
 ·rintro cs ⟨ih,_⟩ u hf ⟨a,h1,h2⟩;exact⟨a,h1,ih _ hf h2⟩
 ·intro b o u hf;simp [V.flat] at hf
 ·intro b be bo bk bn u hf;simp [V.flat] at hf
 ·intro t k xs i o _ u hf;simp [V.flat] at hf
 ·rintro f fs cs ⟨ih1,_⟩ ⟨ih2,_⟩ u hf ⟨a,b,h1,h2,h3⟩
  simp only[V.flat,Bool.and_eq_true] at hf
  exact⟨a,b,h1,ih1 _ hf.1 h2,ih2 _ hf.2 h3⟩
 ·intro u _ _;trivial
 ·exact⟨fun us _ h=>h,fun k us _ h=>h⟩
 ·rintro x xs ihx ⟨ih1,ih2⟩
  refine⟨?_, ?_⟩
  ·rintro us hf ⟨u,r,h1,h2,h3⟩
   simp only[V.flatL,Bool.and_eq_true] at hf
   exact⟨u,r,h1,ihx u hf.1 h2,ih1 r hf.2 h3⟩
  ·rintro k us hf ⟨u,r,h1,h2,h3,h4,h5⟩
   simp only[V.flatL,Bool.and_eq_true] at hf
   exact⟨u,r,h1,h2,h3,ihx u hf.1 h4,ih2 k r hf.2 h5⟩
def V.erase(v:V):V:=v.map (fun _ => .fz) id
def V.shift(n:Nat)(v:V):V:=v.map (fun t=>match t with | .fz => .fz | .nn => .nn | .own id e => .own (id+n) e) id
def V.noRef(v:V):Bool := !v.any (fun _=>false) (fun _=>true) false
def ownFree(l:List V):Bool := !V.anyL Tag.isOwn (fun _=>false) false l
def noRefs(l:List V):Bool := !V.anyL (fun _=>false) (fun _=>true) false l
def St.freezeAll(s:St):List Nat→St
 | []=>s
 | id::ids=>(s.mapV (frz id)).freezeAll ids
inductive Kd where
 | p|q|r|x|z
 | a (l:List (Nat × Nat))
 | w (id k:Nat)
 | n
 | g (id:Nat)
 | o (b:Bool)
def V.calm(v:V):Bool := !v.any Tag.isOwn (fun _=>true) false
def V.ownless(v:V):Bool := !v.any Tag.isOwn (fun _=>false) true
def kq(l:List V)(v:V):Kd:=if l.all V.free&&v.calm then .p else if l.all V.ownless&&v.ownless then .o false else .q
def kr(v:V):Kd:=if v.ownless then .o true else .r
def V.aOk:V→Bool
 | .c _=>true
 | .sl _ _ _=>true
 | .el _ _ _ _ _=>true
 | .ref _ _=>true
 | .nif=>true
 | _=>false
def V.aL:V→List (Nat × Nat)
 | .sl (.own id _) k _=>[(id,k)]
 | .el (.own id _) k _ _ _=>[(id,k)]
 | _=>[]
def ka(l:List V)(v:V):Kd :=
 match l.all V.aOk,l.flatMap V.aL with
 | true,p::r => .a (p::r)
 | _,_=>kq l v
def kc(l:List V)(ids:List Nat)(r:V):Kd :=
 match ids with
 | []=>if r.idb=0 then kq l r else .n
 | _ => .z
def GoodZ(P:Program)[Tb P](g:FuncId)(args:List V)(s s':St)(r:V):Prop :=
 ∀(C:Cx) (L:Lay) (a:Act) (w:World) (cargs:List Value),C.TOk P→Sim C s L a w→Reps L w args cargs →
  (jD P g=true∧Calls P g cargs.toArray w fun e w'=>∃u L',e = .returned u∧Sim C s' L' a w'∧Rep L' w' r u) ∨
  ∃u w' L',(callFunc g cargs.toArray).run P w = .ok (.value u) w'∧Sim C s' L' a w'∧Rep L' w' r u
def GoodE(P:Program)[Tb P](g:FuncId)(args:List V)(s:St)(φ:St→V→Prop):Prop :=
 ∀(C:Cx) (L:Lay) (a:Act) (w:World) (cargs:List Value),C.TOk P→Sim C s L a w→Reps L w args cargs →
  jD P g=true∧Calls P g cargs.toArray w fun e w'=>∃u L' s' r,φ s' r∧e = .returned u∧Sim C s' L' a w'∧Rep L' w' r u
def bU(P:Program)[Tb P](f:V)(args:List Operand)(d:Option Nat)(s:St)(K:Kd→St→Prop):Prop :=
 match f with
 | .fn g fs cs=>(∃(ids:List Nat) (r:V),Good P g ((fs++args.map (s.freezeAll ids).ev++cs).map V.erase) r∧ownFree (fs++cs)=true∧noRefs (fs++args.map (s.freezeAll ids).ev++cs)=true∧r.noRef=true ∧
   (ownFree (args.map (s.freezeAll ids).ev)||r.flat)=true∧K (kc (f::args.map s.ev) ids r) (St.put { s.freezeAll ids with nid:=s.nid+r.idb } d (r.shift s.nid))) ∨
   ∃(s':St) (r:V),GoodZ P g (fs++args.map s.ev++cs) s s' r∧K .z (s'.put d r)
 | _=>False
section
variable {P:Program} [Tb P] {C:Cx} {s:St} {L L':Lay} {a:Act} {w w':World}
theorem CX(ids:List Nat):∀s:St,(s.freezeAll ids).nid=s.nid:=by
 induction ids with
 | nil=>intro s;rfl
 | cons i ids ih=>intro s;exact ih _
theorem Sim.freezeAll(ids:List Nat):∀{s:St} {L:Lay},Sim C s L a w→∃L',Sim C (s.freezeAll ids) L' a w∧∀v u,ownFree [v]=true→Rep L w v u→Rep L' w v u:=by
 induction ids with
 | nil=>intro s L S;exact⟨L,S,fun v u _ h=>h⟩
 | cons i ids ih =>
  intro s L S
  obtain⟨S1,hψ⟩:=S.freeze i
  obtain⟨L2,S2,h2⟩:=ih S1
  refine⟨L2,S2,fun v u hv h=>h2 v u hv ?_⟩
  have K:Trans Tag.isOwn (fun _=>false) _root_.id _root_.id L (L.freeze i) w w :=
   ⟨rfl,fun g h=>⟨.inl h,.of rfl⟩,fun j e hj g h=>by simp [Tag.isOwn] at hj,fun _ _ _ h=>⟨h,.of rfl⟩⟩
  have:=h.trans rfl K (by simpa [ownFree,V.anyL] using hv)
  rwa [map_id.1] at this
theorem Hl(p:Tag→Bool)(q:Nat→Bool)(tp:Bool)(l l':List V):V.anyL p q tp (l++l')=(V.anyL p q tp l||V.anyL p q tp l'):=by
 induction l with
 | nil=>simp [V.anyL]
 | cons x xs ih=>simp [V.anyL,ih,Bool.or_assoc]
theorem Es{p p':Tag→Bool}{q q':Nat→Bool}:(∀v:V,v.any p q false=false→v.any p' q' false=false→v.any (fun t=>p t||p' t) (fun b=>q b||q' b) false=false) ∧
  (∀l,V.anyL p q false l=false→V.anyL p' q' false l=false→V.anyL (fun t=>p t||p' t) (fun b=>q b||q' b) false l=false):=by
 refine V.ind ?_ ?_ ?_ ?_ ?_ ?_ ?_ ?_ ?_ ?_ ?_ ?_ ?_<;>simp_all [V.any,V.anyL]
theorem Um(hT:C.TOk P)(S:Sim C s L a w):Tb.T P w:=hT w S.kp
theorem PT{f:FuncId}{vs:List V}{us:List Value}{r:V}(hT:C.TOk P)(S:Sim C s L a w)(hr:Reps L w vs us)(hg:Good P f (vs.map V.erase) r)(href:noRefs vs=true)(hrr:r.noRef=true)(hof:(ownFree vs||r.flat)=true) :
  Calls P f us.toArray w fun e w'=>∃u L',e = .returned u∧Sim C { s with nid:=s.nid+r.idb } L' a w'∧Rep L' w' (r.shift s.nid) u:=by
 have hB:=S.hB
 let A1:Nat→Prop:=fun g=>L.A g∨(r.flat=true∧∃id,L.own id=some g)
 have hA1:∀g,A1 g→g<w.heap.size:=fun g h=>h.elim (S.wf.old g) (fun⟨_,id,h⟩=>(S.wf.own id g h).1)
 have hargs:Reps ⟨A1,fun _=>none,fun _=>none⟩ w (vs.map V.erase) us:=by
  cases hfl:r.flat with
  | true =>
   have K:Trans (fun _=>false) (fun _=>true) (fun _ => .fz) id L ⟨A1,fun _=>none,fun _=>none⟩ w w :=
    ⟨rfl,fun g h=>⟨.inl h,.of rfl⟩,fun i e _ g h=>⟨.inr ⟨hfl,i,h⟩,rfl⟩,fun b hb=>by simp at hb⟩
   have:=hr.trans rfl K (by simpa [noRefs] using href)
   rwa [vw] at this
  | false =>
   have K:Trans Tag.isOwn (fun _=>true) (fun _ => .fz) id L ⟨A1,fun _=>none,fun _=>none⟩ w w :=
    ⟨rfl,fun g h=>⟨.inl h,.of rfl⟩,fun i e h=>by simp [Tag.isOwn] at h,fun b hb=>by simp at hb⟩
   have h1:ownFree vs=true:=by simpa [hfl] using hof
   have h3:=(Es (p:=Tag.isOwn) (p':=fun _=>false) (q:=fun _=>false) (q':=fun _=>true)).2 vs (by simpa [ownFree] using h1) (by simpa [noRefs] using href)
   have:=hr.trans (p:=Tag.isOwn) (q:=fun _=>true) rfl K (by simpa using h3)
   rwa [vw] at this
 refine (hg.2 A1 w us (Um hT S) hA1 hargs).mono ?_
 rintro e w' ⟨u,L1,rfl,hru,hkp,hlay⟩
 have G:Grow w w':=⟨hkp.os,hkp.tape,hkp.output,hkp.size,fun k hk=>hkp.block k hk (fun h=>h),hkp.drawn⟩
 let L2:Lay:={ A:=fun g=>L.A g∨(L1.A g∧w.heap.size≤g),own:=fun j=>if j<s.nid then L.own j else if j-s.nid<r.idb then L1.own (j-s.nid) else none,box:=L.box }
 have E:L.Le L2:=⟨fun g h => .inl h,fun i g h=>by simp [L2,S.wf.nidO i g h,h],fun _ _ h=>h⟩
 have W:=S.wf
 have wf:Wf C (s.nid+r.idb) L2 w':={
  nidO:=fun j g h=>by
   simp only[L2] at h
   split at h
   ·omega
   ·split at h
    ·omega
    ·cases h
  nidB:=fun b g h=>by have:=W.nidB b g h;omega
  own:=fun j g h=>by
   simp only[L2] at h
   split at h
   ·obtain⟨h1,h2,h3⟩:=W.own j g h
    exact⟨by have:=G.size;omega,h2,fun h'=>h'.elim h3 (fun⟨_,h'⟩=>by omega)⟩
   ·split at h
    ·obtain⟨h1,h2,h3⟩:=hlay.own _ g h
     exact⟨h2,.inl (by omega),fun h'=>h'.elim (fun h'=>by have:=W.old g h';omega) (fun⟨h',_⟩=>h3 h')⟩
    ·cases h
  boxW:=fun b g h=>by
   obtain⟨h1,h2,h3⟩:=W.boxW b g h
   exact⟨by have:=G.size;omega,h2,fun h'=>h'.elim h3 (fun⟨_,h'⟩=>by omega)⟩
  injO:=fun i j g h h'=>by
   simp only[L2] at h h'
   split at h
   ·split at h'
    ·exact W.injO i j g h h'
    ·split at h'
     ·have:=(W.own i g h).1;have:=(hlay.own _ g h').1;omega
     ·cases h'
   ·split at h
    ·split at h'
     ·have:=(W.own j g h').1;have:=(hlay.own _ g h).1;omega
     ·split at h'
      ·have:=hlay.inj _ _ g h h';omega
      ·cases h'
    ·cases h
  injB:=W.injB
  dis:=fun i j g h h'=>by
   simp only[L2] at h
   split at h
   ·exact W.dis i j g h h'
   ·split at h
    ·have:=(hlay.own _ g h).1;have:=(W.boxW j g h').1;omega
    ·cases h
  old:=fun g h=>h.elim (fun h=>by have:=W.old g h;have:=G.size;omega) (fun⟨h,h'⟩=>by
   rcases hlay.A g h with h1|h1
   ·have:=hA1 g h1;omega
   ·exact h1.2)
  frz:=fun g h=>h.elim (W.frz g) (fun⟨_,h'⟩ => .inr (.inl (by omega))) }
 refine⟨u,L2,rfl,S.grow G E rfl (fun b cs h => .inl h) wf, ?_⟩
 have hsh:∀id e,Tag.ge r.idb (.own id e)=false→∀g,L1.own id=some g→L2.own (id+s.nid)=some g:=by
  intro id e hid g h
  simp only[Tag.ge,Bool.not_eq_eq_eq_not,Bool.not_false,decide_eq_true_eq] at hid
  have h1:¬id+s.nid<s.nid:=by omega
  have h2:id+s.nid-s.nid=id:=by omega
  simp only[L2,if_neg h1,h2,if_pos hid,h]
 have hany:r.any (fun t=>Tag.ge r.idb t||false) (fun b=>false||true) false=false:=by
  have:=(Es (p:=Tag.ge r.idb) (p':=fun _=>false) (q:=fun _=>false) (q':=fun _=>true)).1 r ((Ep r.idb).1 r (Nat.le_refl _)) (by simpa [V.noRef] using hrr)
  exact this
 cases hfl:r.flat with
 | true =>
  have hru':=(Hg (fun _=>False)).1 r u hfl hru
  have K:Trans (fun t=>Tag.ge r.idb t||false) (fun b=>false||true) (fun t=>match t with | .fz => .fz | .nn => .nn | .own id e => .own (id+s.nid) e) id { L1 with A:=fun _=>False } L2 w' w' :=
   ⟨rfl,fun g h=>h.elim,fun id e hid g h=>⟨⟨rfl,hsh id e (by simpa using hid) g h⟩,rfl⟩,fun b hb=>by simp at hb⟩
  exact hru'.trans rfl K hany
 | false =>
  have K:Trans (fun t=>Tag.ge r.idb t||false) (fun b=>false||true) (fun t=>match t with | .fz => .fz | .nn => .nn | .own id e => .own (id+s.nid) e) id L1 L2 w' w':=by
   refine⟨rfl,fun g h=>⟨?_,.of rfl⟩,fun id e hid g h=>⟨⟨rfl,hsh id e (by simpa using hid) g h⟩,rfl⟩,fun b hb=>by simp at hb⟩
   rcases hlay.A g h with h1|h1
   ·rcases h1 with h1|⟨h1,_⟩
    ·exact .inl h1
    ·rw[hfl] at h1;cases h1
   ·exact .inr ⟨h,h1.1⟩
  exact hru.trans rfl K hany
end
end Go.Pg
end
