/-
  Texts of this claim, merged; own names are short.
-/
import Derived.Test.YtjiolbcdfgclaaaGreatDoorWAI
import Derived.Test.YtjiolbcdfgclaaaGreatDoorWAH
import Derived.Lib.Split
import Derived.Lib.SplitLaws
import Derived.Lib.CountLaws
import Derived.Lib.IndexMore
import Derived.Lib.Strings
import Derived.Test.YtjiolbcdfgclaaaGreatDoorWAG
set_option linter.unusedVariables false
set_option linter.unusedSimpArgs false
set_option linter.unusedSectionVars false
set_option linter.defProp false
set_option maxRecDepth 100000
set_option maxHeartbeats 8000000
section
namespace Go.Pg
open Go
def Tag.gf(n:Nat):Tag→Bool
 | .fz=>false
 | .nn=>false
 | .own i _=>decide (n≤i)
def Fr(n:Nat)(v:V):Prop:=v.any (Tag.gf n) (fun b=>decide (n≤b)) false=false
def FrE(n:Nat)(e:Nat→V):Prop:=∀t,Fr n (e t)
def FrB(n:Nat)(b:Nat→Option (TypeId × List V)):Prop:=∀k x,b k=some x→∀v∈x.2,Fr n v
theorem QY{p p':Tag→Bool}{q q':Nat→Bool}(hp:∀t,p' t=true→p t=true)(hq:∀b,q' b=true→q b=true):(∀v:V,v.any p q false=false→v.any p' q' false=false)∧(∀l,V.anyL p q false l=false→V.anyL p' q' false l=false):=by
 have hp':∀t,p t=false→p' t=false:=fun t h=>by
  cases h':p' t with
  | false=>rfl
  | true=>rw[hp t h'] at h;cases h
 have hq':∀t,q t=false→q' t=false:=fun t h=>by
  cases h':q' t with
  | false=>rfl
  | true=>rw[hq t h'] at h;cases h
 refine V.ind ?_ ?_ ?_ ?_ ?_ ?_ ?_ ?_ ?_ ?_ ?_
 ·intro v _;rfl
 ·intro _;rfl
 ·intro t k xs _ h;exact hp' t h
 ·intro cs ih h;exact ih h
 ·intro cs ih h;exact ih h
 ·intro b o h;exact hq' b h
 ·intro t k xs i o _ h;exact hp' t h
 ·intro f fs cs ih1 ih2 h
  simp only[V.any,Bool.or_eq_false_iff] at h ⊢
  exact⟨ih1 h.1,ih2 h.2⟩
 ·intro h;exact h
 ·intro _;rfl
 ·intro x xs ih1 ih2 h
  simp only[V.anyL,Bool.or_eq_false_iff] at h ⊢
  exact⟨ih1 h.1,ih2 h.2⟩
theorem FW{n id:Nat}{v:V}(h:Fr n v)(hi:n≤id):aJ id v=v:=by
 unfold aJ
 rw[if_neg]
 have:=(QY (p:=Tag.gf n) (p':=Tag.is id) (q:=fun b=>decide (n≤b)) (q':=fun _=>false) (fun t ht=>by
  cases t with
  | own i e=>simp [Tag.is] at ht;simp [Tag.gf];omega
  | _=>simp [Tag.is] at ht) (fun b hb=>by cases hb)).1 v h
 simp [V.has,this]
theorem QZ{n id:Nat}{e:Nat→V}(h:FrE n e)(hi:n≤id):lX (aJ id) e=e:=funext fun t=>FW (h t) hi
theorem Q3{n id:Nat}{b:Nat→Option (TypeId × List V)}(h:FrB n b)(hi:n≤id):sH (aJ id) b=b:=by
 funext k
 unfold sH
 cases hb:b k with
 | none=>rfl
 | some x =>
  simp only[Option.map_some,Option.some.injEq]
  refine Prod.ext rfl ?_
  show x.2.map (aJ id)=x.2
  conv=>rhs;rw[←List.map_id x.2]
  exact List.map_congr_left fun v hv=>FW (h k x hb v hv) hi
theorem FrB.upd{n:Nat}{b:Nat→Option (TypeId × List V)}(h:FrB n b)(k:Nat)(x:TypeId × List V)(hx:∀v∈x.2,Fr n v):FrB n (upd b k (some x)):=by
 intro j y hy
 unfold Go.Pg.upd at hy
 split at hy
 ·simp only[Option.some.injEq] at hy;subst hy;exact hx
 ·exact h j y hy
theorem Fr.mono{n m:Nat}{v:V}(h:Fr n v)(hm:n≤m):Fr m v :=
 (QY (p:=Tag.gf n) (p':=Tag.gf m) (q:=fun b=>decide (n≤b)) (q':=fun b=>decide (m≤b)) (fun t ht=>by
  cases t with
  | own i e=>simp [Tag.gf] at ht ⊢;omega
  | _=>simp [Tag.gf] at ht) (fun b hb=>by simp at hb ⊢;omega)).1 v h
mutual
def V.cl(n:Nat):V→V
 | .c v => .c v
 | .sl (.own i e) k []=>if n≤i then .c (.slice none 0 0) else .sl (.own i e) k []
 | .sl t k xs => .sl t k xs
 | .agg cs => .agg (V.clL n cs)
 | .tup cs => .tup (V.clL n cs)
 | .ref b off => .ref b off
 | .el t k xs i off => .el t k xs i off
 | .fn f fs cs => .fn f (V.clL n fs) (V.clL n cs)
 | .top => .top
 | .nif => .nif
def V.clL(n:Nat):List V→List V
 | []=>[]
 | x::xs=>V.cl n x::V.clL n xs
end
theorem Ie(n:Nat)(l:List V):V.clL n l=l.map (V.cl n):=by
 induction l with
 | nil=>rfl
 | cons x xs ih=>simp [V.clL,ih]
section
variable {L L':Lay} {w w':World} {n:Nat}
theorem aiy(hO:∀id g,L.own id=some g→id<n)(hB:∀b g,L.box b=some g→b<n) :
  (∀v u,Rep L w v u→(Rep L w (V.cl n v) u∧Fr n (V.cl n v))∧∀L' w' u',Rep L' w' (V.cl n v) u'→Rep L' w' v u') ∧
  (∀l,(∀us,Reps L w l us→(Reps L w (V.clL n l) us∧V.anyL (Tag.gf n) (fun b=>decide (n≤b)) false (V.clL n l)=false)∧∀L' w' us',Reps L' w' (V.clL n l) us'→Reps L' w' l us')∧True):=by
 refine V.ind ?_ ?_ ?_ ?_ ?_ ?_ ?_ ?_ ?_ ?_ ?_
 ·intro v u h;exact⟨⟨h,rfl⟩,fun _ _ _ h=>h⟩
 ·intro u h;exact⟨⟨h,rfl⟩,fun _ _ _ h=>h⟩
 ·intro t k xs _ u h
  have key:∀(hfr:t.gf n=false),V.cl n (.sl t k xs) = .sl t k xs→(Rep L w (V.cl n (.sl t k xs)) u∧Fr n (V.cl n (.sl t k xs)))∧∀L' w' u',Rep L' w' (V.cl n (.sl t k xs)) u'→Rep L' w' (.sl t k xs) u':=by
   intro hfr e
   rw[e]
   exact⟨⟨h,hfr⟩,fun _ _ _ h=>h⟩
  cases t with
  | fz=>exact key rfl (by cases xs<;>rfl)
  | nn=>exact key rfl (by cases xs<;>rfl)
  | own i e =>
   by_cases hi:n≤i
   ·obtain⟨a,cap,cells,rfl,h2,h3⟩:=h
    rcases h3 with ⟨h3,rfl,rfl⟩|⟨g,arr,h3,_⟩
    ·have hx:xs=[]:=List.eq_nil_of_length_eq_zero h3
     subst hx
     have e1:V.cl n (.sl (.own i e) k []) = .c (.slice none 0 0):=by simp [V.cl,hi]
     rw[e1]
     refine⟨⟨rfl,rfl⟩,fun L' w' u' h' => ?_⟩
     exact⟨none,0,[],h',rfl,.inl ⟨rfl,rfl,rfl⟩⟩
    ·have:=hO i g h3;omega
   ·refine key (by simp [Tag.gf];omega) ?_
    cases xs with
    | nil=>simp [V.cl,hi]
    | cons x xs=>rfl
 ·rintro cs ⟨ih,_⟩ u ⟨a,h1,h2⟩
  obtain⟨⟨i1,i2⟩,i3⟩:=ih _ h2
  exact⟨⟨⟨a,h1,i1⟩,i2⟩,fun L' w' u' ⟨a',h1',h2'⟩=>⟨a',h1',i3 L' w' _ h2'⟩⟩
 ·rintro cs ⟨ih,_⟩ u ⟨a,h1,h2⟩
  obtain⟨⟨i1,i2⟩,i3⟩:=ih _ h2
  exact⟨⟨⟨a,h1,i1⟩,i2⟩,fun L' w' u' ⟨a',h1',h2'⟩=>⟨a',h1',i3 L' w' _ h2'⟩⟩
 ·rintro b off u ⟨g,h1,h2⟩
  have:=hB b g h1
  exact⟨⟨⟨g,h1,h2⟩,by simp [Fr,V.cl,V.any];omega⟩,fun _ _ _ h=>h⟩
 ·rintro t k xs i off _ u ⟨g,o,cells,h1,h2,h3⟩
  refine⟨⟨⟨g,o,cells,h1,h2,h3⟩, ?_⟩,fun _ _ _ h=>h⟩
  cases t with
  | fz=>rfl
  | nn=>exact h3.elim
  | own j e=>have:=hO j g h3.1;simp [Fr,V.cl,V.any,Tag.gf];omega
 ·rintro f fs cs ⟨ih1,_⟩ ⟨ih2,_⟩ u ⟨a,b,h1,h2,h3⟩
  obtain⟨⟨i1,i2⟩,i3⟩:=ih1 _ h2
  obtain⟨⟨j1,j2⟩,j3⟩:=ih2 _ h3
  refine⟨⟨⟨a,b,h1,i1,j1⟩,by simp [Fr,V.cl,V.any,i2,j2]⟩,fun L' w' u' ⟨a',b',h1',h2',h3'⟩ => ?_⟩
  exact⟨a',b',h1',i3 L' w' _ h2',j3 L' w' _ h3'⟩
 ·intro u _;exact⟨⟨trivial,rfl⟩,fun _ _ _ h=>h⟩
 ·exact⟨fun us h=>⟨⟨h,rfl⟩,fun _ _ _ h=>h⟩,trivial⟩
 ·rintro x xs ihx ⟨ih,_⟩
  refine⟨?_,trivial⟩
  rintro us ⟨u,r,h1,h2,h3⟩
  obtain⟨⟨i1,i2⟩,i3⟩:=ihx u h2
  obtain⟨⟨j1,j2⟩,j3⟩:=ih r h3
  refine⟨⟨⟨u,r,h1,i1,j1⟩,by simp only[V.clL,V.anyL,Bool.or_eq_false_iff];exact⟨i2,j2⟩⟩,fun L' w' us' ⟨u',r',h1',h2',h3'⟩ => ?_⟩
  exact⟨u',r',h1',i3 L' w' _ h2',j3 L' w' _ h3'⟩
end
theorem ale(n:Nat):(∀v:V,v.any (Tag.gf n) (fun b=>decide (n≤b)) false=false→V.cl n v=v)∧(∀l,V.anyL (Tag.gf n) (fun b=>decide (n≤b)) false l=false→V.clL n l=l):=by
 refine V.ind ?_ ?_ ?_ ?_ ?_ ?_ ?_ ?_ ?_ ?_ ?_
 ·intro v _;rfl
 ·intro _;rfl
 ·intro t k xs _ h
  cases t with
  | own i e =>
   have hi:¬n≤i:=by simpa [V.any,Tag.gf] using h
   cases xs with
   | nil=>simp [V.cl,hi]
   | cons x xs=>rfl
  | fz=>cases xs<;>rfl
  | nn=>cases xs<;>rfl
 ·intro cs ih h;simp only[V.cl];rw[ih h]
 ·intro cs ih h;simp only[V.cl];rw[ih h]
 ·intro b o h;rfl
 ·intro t k xs i o _ h;rfl
 ·intro f fs cs ih1 ih2 h
  simp only[V.any,Bool.or_eq_false_iff] at h
  simp only[V.cl];rw[ih1 h.1,ih2 h.2]
 ·intro h;rfl
 ·intro _;rfl
 ·intro x xs ih1 ih2 h
  simp only[V.anyL,Bool.or_eq_false_iff] at h
  simp only[V.clL];rw[ih1 h.1,ih2 h.2]
theorem GoodZ.fresh{P:Program}[Tb P]{g:FuncId}{args:List V}{n n' b:Nat}{x0 X:TypeId × List V}{r:V}(hx0:∀v∈x0.2,Fr n v)
  (H:∀e bx h,FrE n e→FrB n bx→FrE n h→bx b=some x0→GoodZ P g args ⟨e,bx,n,h⟩ ⟨e,upd bx b (some X),n',h⟩ r) (e:Nat→V) (bx:Nat→Option (TypeId × List V)) (h:Nat→V) (hb:bx b=some x0) :
  GoodZ P g args ⟨e,bx,n,h⟩ ⟨e,upd bx b (some X),n',h⟩ r:=by
 intro C L a w cargs hT S hr
 have A:=aiy (L:=L) (w:=w) (n:=n) S.wf.nidO S.wf.nidB
 have S1:Sim C ⟨fun t=>V.cl n (e t),fun k=>(bx k).map fun x=>(x.1,x.2.map (V.cl n)),n,fun t=>V.cl n (h t)⟩ L a w:=by
  refine⟨S.defers,S.size,fun t=>(A.1 _ _ (S.env t)).1.1,fun t=>(A.1 _ _ (S.hid t)).1.1, ?_,S.wf,S.kp⟩
  intro k cs hk
  simp only[Option.map_eq_some_iff] at hk
  obtain⟨y,hy,rfl⟩:=hk
  obtain⟨g',arr,h1,h2,h3⟩:=S.box k y hy
  exact⟨g',arr,h1,h2,by rw[←Ie];exact ((A.2 _).1 _ h3).1.1⟩
 have hl:∀l:List V,(∀v∈l,Fr n v)→l.map (V.cl n)=l:=fun l hl=>by
  conv=>rhs;rw[←List.map_id l]
  exact List.map_congr_left fun v hv=>(ale n).1 v (hl v hv)
 have hfrL:∀l:List V,V.anyL (Tag.gf n) (fun b=>decide (n≤b)) false l=false→∀v∈l,Fr n v:=by
  intro l
  induction l with
  | nil=>intro _ v hv;cases hv
  | cons x xs ih =>
   intro h v hv
   simp only[V.anyL,Bool.or_eq_false_iff] at h
   rcases List.mem_cons.1 hv with rfl|hv
   ·exact h.1
   ·exact ih h.2 v hv
 have hb1:(fun k=>(bx k).map fun x=>(x.1,x.2.map (V.cl n))) b=some x0:=by
  show (bx b).map _=_
  rw[hb]
  show some (x0.1,x0.2.map (V.cl n))=some x0
  rw[hl _ hx0]
 have G:=H (fun t=>V.cl n (e t)) (fun k=>(bx k).map fun x=>(x.1,x.2.map (V.cl n))) (fun t=>V.cl n (h t)) (fun t=>(A.1 _ _ (S.env t)).1.2) (by
  intro k x hk v hv
  simp only[Option.map_eq_some_iff] at hk
  obtain⟨y,hy,rfl⟩:=hk
  obtain⟨g',arr,h1,h2,h3⟩:=S.box k y hy
  have:=((A.2 _).1 _ h3).1.2
  rw[Ie] at this
  exact hfrL _ this v hv) (fun t=>(A.1 _ _ (S.hid t)).1.2) hb1
 have back:∀L' w',Sim C ⟨fun t=>V.cl n (e t),upd (fun k=>(bx k).map fun x=>(x.1,x.2.map (V.cl n))) b (some X),n',fun t=>V.cl n (h t)⟩ L' a w'→Sim C ⟨e,upd bx b (some X),n',h⟩ L' a w':=by
  intro L' w' S'
  refine⟨S'.defers,S'.size,fun t=>(A.1 _ _ (S.env t)).2 _ _ _ (S'.env t),fun t=>(A.1 _ _ (S.hid t)).2 _ _ _ (S'.hid t), ?_,S'.wf,S'.kp⟩
  intro k cs hk
  by_cases hkb:k=b
  ·subst hkb
   exact S'.box k cs (by simp only[upd,if_true] at hk ⊢;exact hk)
  ·have hk:bx k=some cs:=by simpa [upd,if_neg hkb] using hk
   obtain⟨g0,arr0,h1,h2,h3⟩:=S.box k cs hk
   obtain⟨g1,arr1,k1,k2,k3⟩:=S'.box k (cs.1,cs.2.map (V.cl n)) (by simp only[upd,if_neg hkb,hk,Option.map_some])
   exact⟨g1,arr1,k1,k2,((A.2 _).1 _ h3).2 _ _ _ (by rw[Ie];exact k3)⟩
 rcases G C L a w cargs hT S1 hr with ⟨h1,h2⟩|⟨u,w',L',h1,h2,h3⟩
 ·exact .inl ⟨h1,h2.mono fun e w' ⟨u,L',he,hs,hr⟩=>⟨u,L',he,back L' w' hs,hr⟩⟩
 ·exact .inr ⟨u,w',L',h1,back L' w' h2,h3⟩
end Go.Pg
end
namespace Go.Pg
open Go
theorem Weak.freeze(s:St)(id:Nat):Weak s (s.mapV (frz id)):=by
 intro C L a w S
 exact⟨_,(S.freeze id).1⟩
theorem Zq{D:Dw}{P:Program}[Tb P]{x:Code}{Q:Exit→St→Prop}{e:Nat→V}{bx:Nat→Option (TypeId × List V)}{n:Nat}{h:Nat→V}(id:Nat)(H:FT D P x Q ⟨lX (frz id) e,sH (frz id) bx,n,lX (frz id) h⟩):FT D P x Q ⟨e,bx,n,h⟩:=by
 obtain⟨I,m,⟨s0,hw,h1⟩,h2⟩:=H
 refine⟨I,m,⟨s0, ?_,h1⟩,h2⟩
 intro C L a w S
 obtain⟨L',S'⟩:=Weak.freeze ⟨e,bx,n,h⟩ id C L a w S
 exact hw C L' a w S'
theorem U1{P:Program}[Tb P]{g:FuncId}{args:List Operand}{d:Option Nat}{s:St}{K:Kd→St→Prop}{vs:List V}(ids:List Nat)(r:V)(hg:Good P g vs r)(hvs:(args.map (s.freezeAll ids).ev).map V.erase=vs)(h1:noRefs (args.map (s.freezeAll ids).ev)=true)
  (h2:r.noRef=true) (h3:(ownFree (args.map (s.freezeAll ids).ev)||r.flat)=true) (hK:K (kc (.fn g [] []::args.map s.ev) ids r) (St.put { s.freezeAll ids with nid:=s.nid+r.idb } d (r.shift s.nid))):gU P (.fn g [] []) args d s K:=by
 refine .inl ⟨ids,r, ?_,rfl, ?_,h2, ?_,hK⟩
 ·simpa [hvs] using hg
 ·simpa using h1
 ·simpa using h3
end Go.Pg
section
namespace Go.Pg
open Go
section
variable (P:Program) [Tb P] (F:Nat→Bool)
def ML(dsts:List (Option Nat))(ops:List Oper)(Q:Exit→St→Prop)(rest:List Oper)(ks:List Kd)(s:St):Prop:=qG P F dsts ops (Q .normal) rest ks s
def OO(dsts:List (Option Nat))(ops:List Oper)(Q:Exit→St→Prop)(rest:List Oper)(ks:List Kd)(κ:Kd)(s:St):Prop:=qG P F dsts ops (Q .normal) rest (κ::ks) s
def DC(v:Option V)(want:Bool)(dsts:List (Option Nat))(ops:List Oper)(Q:Exit→St→Prop)(o:Oper)(rest:List Oper)(ks:List Kd)(s:St):Prop :=
 match v with|some (.c (.bool b))=>if b=want then az P s o (OO P F dsts ops Q rest ks) else qG P F dsts ops (Q .normal) rest (.p::ks) (s.put o.dst (.c undef))|some (.c _)=>qG P F dsts ops (Q .normal) rest (.p::ks) (s.put o.dst (.c undef))|_=>False
theorem U2(x y:Code)(Q:Exit→St→Prop)(s:St):wpS (dF F []) P (.seq x y) Q s=wpS (dF F []) P x (qH (dF F []) P y Q) s:=by
 have:nP (dF F []).cuts (kC y)=false:=by cases h:kC y<;>rfl
 simp only[wpS,this,cond_false]
 rfl
theorem OQ(id:Nat)(l:List Oper)(Q:Exit→St→Prop)(s:St):wpS (dF F []) P (.region id l.toArray true) Q s=ML P F (l.map (·.dst)) l Q l [] s:=by
 simp only[wpS,if_true,ML,XA,dF]
theorem Zr(dsts:List (Option Nat))(ops:List Oper)(Q:Exit→St→Prop)(ks:List Kd)(s:St):ML P F dsts ops Q [] ks s=(zI ops ks.reverse=true∧Q .normal s):=rfl
theorem U3(dsts:List (Option Nat))(ops:List Oper)(Q:Exit→St→Prop)(ks:List Kd)(s:St)(d:Nat)(op:Op)(ty:TypeId)(pos:String)(af:Array Edge)(rest:List Oper) :
  ML P F dsts ops Q (⟨some d,op,ty,pos,af,none⟩::rest) ks s=bif F d then oM (mvE P s op) s (some d) (lJ s ⟨some d,op,ty, "",#[],none⟩) (OO P F dsts ops Q rest ks) else az P s ⟨some d,op,ty, "",#[],none⟩ (OO P F dsts ops Q rest ks):=by
 simp only[ML,qG,Xz]
 rfl
theorem U4(dsts:List (Option Nat))(ops:List Oper)(Q:Exit→St→Prop)(ks:List Kd)(s:St)(op:Op)(ty:TypeId)(pos:String)(af:Array Edge)(rest:List Oper) :
  ML P F dsts ops Q (⟨none,op,ty,pos,af,none⟩::rest) ks s=az P s ⟨none,op,ty, "",#[],none⟩ (OO P F dsts ops Q rest ks):=by
 simp only[ML,qG,Xz]
 rfl
theorem OT(dsts:List (Option Nat))(ops:List Oper)(Q:Exit→St→Prop)(ks:List Kd)(s:St)(d:Option Nat)(op:Op)(ty:TypeId)(pos:String)(af:Array Edge)(j:Nat)(want:Bool)(rest:List Oper) :
  ML P F dsts ops Q (⟨d,op,ty,pos,af,some (j,want)⟩::rest) ks s=DC P F (iR s dsts j) want dsts ops Q ⟨d,op,ty, "",#[],none⟩ rest ks s:=by
 simp only[ML,qG,DC]
 rfl
theorem aey(dsts:List (Option Nat))(ops:List Oper)(Q:Exit→St→Prop)(rest:List Oper)(ks:List Kd)(κ:Kd)(s:St):OO P F dsts ops Q rest ks κ s=ML P F dsts ops Q rest (κ::ks) s:=rfl
theorem Zt(b:Bool)(dsts:List (Option Nat))(ops:List Oper)(Q:Exit→St→Prop)(o:Oper)(rest:List Oper)(ks:List Kd)(s:St):DC P F (some (.c (.bool b))) b dsts ops Q o rest ks s=az P s o (OO P F dsts ops Q rest ks):=by simp [DC]
theorem aez(dsts:List (Option Nat))(ops:List Oper)(Q:Exit→St→Prop)(o:Oper)(rest:List Oper)(ks:List Kd)(s:St):DC P F (some (.c (.bool true))) false dsts ops Q o rest ks s=ML P F dsts ops Q rest (.p::ks) (s.put o.dst (.c undef)):=by simp [DC,ML]
theorem aeA(dsts:List (Option Nat))(ops:List Oper)(Q:Exit→St→Prop)(o:Oper)(rest:List Oper)(ks:List Kd)(s:St):DC P F (some (.c (.bool false))) true dsts ops Q o rest ks s=ML P F dsts ops Q rest (.p::ks) (s.put o.dst (.c undef)):=by simp [DC,ML]
theorem aeB(want:Bool)(dsts:List (Option Nat))(ops:List Oper)(Q:Exit→St→Prop)(o:Oper)(rest:List Oper)(ks:List Kd)(s:St):DC P F (some (.c undef)) want dsts ops Q o rest ks s=ML P F dsts ops Q rest (.p::ks) (s.put o.dst (.c undef)):=rfl
theorem aiz(s:St)(t n:Nat)(parts:Array (Nat × Operand)):mvE P s (.buildSlice t n parts)=mvS P t n (parts.toList.map fun p=>(p.1,s.ev p.2)):=rfl
theorem ag6(t len:Nat)(parts:List (Nat × V)):mvS P t len parts=(elemT P t).bind fun e=>(tapp P e).bind fun p=>(zelem P e).bind fun z=>(setAll p.1 (List.replicate len z) parts).bind fun xs=>if len*p.1≤16777216 then some (.sl .fz p.1 xs) else none:=rfl
theorem aeC(s:St)(d:Option Nat)(t n:Nat)(parts:Array (Nat × Operand))(ty:TypeId)(pos:String)(af:Array Edge)(g:Option (Nat × Bool)):lJ s ⟨d,.buildSlice t n parts,ty,pos,af,g⟩=parts.toList.map fun p=>s.ev p.2:=by
 simp [lJ,Op.operands,Function.comp_def]
theorem Zu{b want:Bool}{dsts:List (Option Nat)}{ops:List Oper}{Q:Exit→St→Prop}{o:Oper}{rest:List Oper}{ks:List Kd}{s:St}(ht:b=want→az P s o (OO P F dsts ops Q rest ks))(hf:b = !want→ML P F dsts ops Q rest (.p::ks) (s.put o.dst (.c undef))) :
  DC P F (some (.c (.bool b))) want dsts ops Q o rest ks s:=by
 simp only[DC]
 split
 ·rename_i h;exact ht h
 ·rename_i h;exact hf (by cases b<;>cases want<;>simp_all)
end
def pgF:=aI @U2 (aI @OQ (aI @Zr (aI @U3 (aI @U4 (aI @OT (aI @aey (aI @Zt (aI @aez (aI @aeA (aI @aeB (aI @aiz (aI @ag6 (aI @aeC (aI @cond_true.{1} @cond_false.{1}))))))))))))))
end Go.Pg
end
section
namespace Go.Pg
open Go
def aeD(o:Oper):Bool:=match o.op with | .store _ _ _=>true|_=>false
def OU(ops:List Oper):Bool:=(decide (1≤(ops.filter QV).length)||decide (2≤(ops.filter aeD).length))&&ops.all okA
def dG(cuts:List Nat):Dw:=⟨fun P _ ops K s=>if OU ops.toList=true then Ky P ops K s else FN P ops K s,cuts⟩
theorem Zv{P:Program}[Tb P](cuts:List Nat)(hm:P.follows .mixedOrders=true):mZ P (dG cuts):=by
 intro id C ops K Q s L a w hT hfit hQK h S
 simp only[dG] at h
 split at h
 case isFalse=>exact GH cuts hm id C ops K Q s L a w hT hfit hQK h S
 unfold Ky at h
 obtain⟨ks,s',hlen,hch,hchk,hK⟩:=A7 ops.toList [] 0 _ h
 simp only[List.reverse_nil,List.nil_append,Ia,Bool.and_eq_true] at hchk
 obtain⟨⟨⟨_,hidx⟩,hguards⟩,hpairs⟩:=hchk
 have hbox0:∀n,L.box (s.nid+n)=none:=by
  intro n
  cases hb:L.box (s.nid+n) with
  | none=>rfl
  | some g=>have:=S.wf.nidB _ g hb;omega
 have hown0:∀n,L.own (s.nid+n)=none:=by
  intro n
  cases hb:L.own (s.nid+n) with
  | none=>rfl
  | some g=>have:=S.wf.nidO _ g hb;omega
 have S1:Sim C { s with nid:=s.nid+ops.size } L a { w with drawn:=w.drawn+1 }:=by
  have K:Whole L L w w.drew:=⟨rfl,fun g h=>⟨h,.of rfl⟩,fun id e _ g h=>⟨⟨rfl,h⟩,rfl⟩,fun _ _ _ h=>h⟩
  exact⟨S.defers,S.size,fun t=>(S.env t).whole K,fun t=>(S.hid t).whole K,fun b cs h=>by obtain⟨g,arr,h1,h2,h3⟩:=S.box b cs h;exact⟨g,arr,h1,h2,h3.whole K⟩,S.wf.mono (Nat.le_add_right _ _) (Nat.le_refl _),S.kp.drew⟩
 have hnums:=wG ops.toList ks 0 (by simpa using hlen)
 refine wp_region_any hm (Dv (s':=s') hT ?_ (pI hfit) ?_ (fun L a w S'=>⟨s',L,by rw[hQK];exact hK,S'⟩) ops.size (iU 0 ops.toList ks) (Array.replicate ops.size false) _ L a _ ?_ (by simp) ?_ ?_ ?_ ?_ (wH hpairs) hch S1 (fun _=>Nat.le_refl _) (fun x _=>⟨hbox0 x.1,hown0 x.1⟩))
 ·intro i o ho e he
  have hm:(o,i)∈ops.toList.zipIdx:=by
   rw[List.mem_zipIdx_iff_getElem?]
   simpa using ho
  have:=List.all_eq_true.1 (List.all_eq_true.1 hidx (o,i) hm) e he
  simpa using this
 ·intro o ho
  have:=List.all_eq_true.1 hguards o (by simpa using ho)
  simpa using this
 ·have:(iU 0 ops.toList ks).length=ops.size:=by
   have:=congrArg List.length hnums
   simpa using this
  omega
 ·intro x hx
  obtain⟨_,h2⟩:=x9 ops.toList ks 0 x hx
  simp only[Nat.sub_zero,Array.getElem?_toList] at h2
  have hlt:=(Array.getElem?_eq_some_iff.1 h2).1
  exact⟨h2,by simp [Array.getD,hlt]⟩
 ·intro i hi _
  have:i∈(iU 0 ops.toList ks).map (·.1):=by
   rw[hnums];simp;exact hi
  obtain⟨x,hx,rfl⟩:=List.mem_map.1 this
  exact⟨x,hx,rfl⟩
 ·rw[hnums]
  exact List.pairwise_lt_range'
 ·intro i o ho hl
  have hlt:=(Array.getElem?_eq_some_iff.1 ho).1
  simp [Array.getD,hlt] at hl
section
variable (P:Program) [Tb P]
theorem Zw(x y:Code)(Q:Exit→St→Prop)(s:St):wpS (dG []) P (.seq x y) Q s=wpS (dG []) P x (qH (dG []) P y Q) s:=by
 have:nP (dG []).cuts (kC y)=false:=by cases h:kC y<;>rfl
 simp only[wpS,this,qH,cond_false]
theorem U5(cuts:List Nat)(id:Nat)(l:List Oper)(Q:Exit→St→Prop)(s:St):wpS (dG cuts) P (.region id l.toArray true) Q s=sN P (OU l) l Q s:=by
 simp only[wpS,if_true,dG,sN]
 cases h:OU l with
 | true=>rfl
 | false=>rfl
end
theorem aeE{P:Program}[Tb P]{e:Nat→V}{b:Nat→Option (TypeId × List V)}{n:Nat}{h:Nat→V}{l:List Oper}{Q:Exit→St→Prop}(h1:OU l=true)(h2:alC P n l Q l [] 0 ⟨e,b,n+l.length,h⟩):sN P (OU l) l Q ⟨e,b,n,h⟩:=by rw[h1];exact h2
theorem aeF{P:Program}[Tb P]{l:List Oper}{Q:Exit→St→Prop}{s:St}(h1:OU l=false)(h2:rD P (l.map (·.dst)) l Q l [] s):sN P (OU l) l Q s:=by rw[h1];exact h2
def pgG:=aI @Zw @U5
end Go.Pg
end
section
namespace Go.Pg
open Go
def wk1(a b:V):Prop:=a=b∨(a = .c (.slice none 0 0)∧∃t k,t.notNN=true∧b = .sl t k [])
def wkL:List V→List V→Prop
 | [],[]=>True
 | a::xs,b::ys=>wk1 a b∧wkL xs ys
 | _,_=>False
def wkV(a b:V):Prop:=wk1 a b∨∃cs ds,a = .agg cs∧b = .agg ds∧wkL cs ds
def wkA:List V→List V→Prop
 | [],[]=>True
 | a::xs,b::ys=>wkV a b∧wkA xs ys
 | _,_=>False
theorem aA(a:V):wkV a a := .inl (.inl rfl)
theorem iV{a b:V}{xs ys:List V}(h:wk1 a b)(h':wkL xs ys):wkL (a::xs) (b::ys):=⟨h,h'⟩
theorem oq(t:Tag)(k:Nat)(h:t.notNN=true:=by rfl):wk1 (.c (.slice none 0 0)) (.sl t k []) := .inr ⟨rfl,t,k,h,rfl⟩
section
variable {L:Lay} {w:World}
theorem Q4{a b:V}{u:Value}(h:wk1 a b)(hr:Rep L w a u):Rep L w b u:=by
 rcases h with rfl|⟨rfl,t,k,hnn,rfl⟩
 ·exact hr
 ·simp only[Rep] at hr
  subst hr
  refine⟨none,0,[],rfl,rfl, ?_⟩
  cases t with
  | fz=>exact⟨Nat.le_refl _,.inl rfl⟩
  | nn=>cases hnn
  | own id e=>exact .inl ⟨rfl,rfl,rfl⟩
theorem Zx:∀{xs ys:List V} {us:List Value},wkL xs ys→Reps L w xs us→Reps L w ys us:=by
 intro xs
 induction xs with
 | nil=>intro ys us h hr;cases ys with
  | nil=>exact hr
  | cons _ _=>exact h.elim
 | cons a xs ih=>intro ys us h hr;cases ys with
  | nil=>exact h.elim
  | cons b ys =>
   obtain⟨u,r,rfl,h1,h2⟩:=hr
   exact⟨u,r,rfl,Q4 h.1 h1,ih h.2 h2⟩
theorem Q5{a b:V}{u:Value}(h:wkV a b)(hr:Rep L w a u):Rep L w b u:=by
 rcases h with h|⟨cs,ds,rfl,rfl,h⟩
 ·exact Q4 h hr
 ·obtain⟨x,rfl,h1⟩:=hr
  exact⟨x,rfl,Zx h h1⟩
theorem KG:∀{xs ys:List V} {us:List Value},wkA xs ys→Reps L w xs us→Reps L w ys us:=by
 intro xs
 induction xs with
 | nil=>intro ys us h hr;cases ys with
  | nil=>exact hr
  | cons _ _=>exact h.elim
 | cons a xs ih=>intro ys us h hr;cases ys with
  | nil=>exact h.elim
  | cons b ys =>
   obtain⟨u,r,rfl,h1,h2⟩:=hr
   exact⟨u,r,rfl,Q5 h.1 h1,ih h.2 h2⟩
end
theorem Good.wk{P:Program}[Tb P]{f:FuncId}{args args':List V}{r:V}(h:Good P f args r)(hw:wkA args' args):Good P f args' r :=
 ⟨h.1,fun A w cargs hT hA hargs=>h.2 A w cargs hT hA (KG hw hargs)⟩
theorem Good.wkr{P:Program}[Tb P]{f:FuncId}{args:List V}{r r':V}(h:Good P f args r)(hw:wkV r r'):Good P f args r' :=
 ⟨h.1,fun A w cargs hT hA hargs=>(h.2 A w cargs hT hA hargs).mono fun _ _ ⟨u,L,he,hr,hk,hl⟩=>⟨u,L,he,Q5 hw hr,hk,hl⟩⟩
theorem Good.wkt{P:Program}[Tb P]{f:FuncId}{args vs ws:List V}(h:Good P f args (.tup vs))(hw:wkA vs ws):Good P f args (.tup ws) :=
 ⟨h.1,fun A w cargs hT hA hargs=>(h.2 A w cargs hT hA hargs).mono fun _ _ ⟨u,L,he,hr,hk,hl⟩=>by
  obtain⟨x,rfl,h1⟩:=hr
  exact⟨_,L,he,⟨x,rfl,KG hw h1⟩,hk,hl⟩⟩
end Go.Pg
end
namespace Go.Pg
open Go
theorem Good.erz{P:Program}[Tb P]{f:FuncId}{args:List V}{r:V}(h:Good P f args r)(hr:r.noRef=true):Good P f args r.erase:=by
 refine⟨h.1,fun A w cargs hT hA hargs=>(h.2 A w cargs hT hA hargs).mono ?_⟩
 rintro e w' ⟨u,L,he,hu,hk,hl⟩
 let L':Lay:={ A:=fun g=>L.A g∨∃id,L.own id=some g,own:=fun _=>none,box:=fun _=>none }
 have K:Trans (fun _=>false) (fun _=>true) (fun _ => .fz) id L L' w' w' :=
  ⟨rfl,fun g h=>⟨.inl h,.of rfl⟩,fun i e _ g h=>⟨.inr ⟨i,h⟩,rfl⟩,fun b hb=>by simp at hb⟩
 refine⟨u,L',he,hu.trans rfl K (by simpa [V.noRef] using hr),hk, ?_,fun _ _ h=>(by cases h),fun _ _ _ h=>(by cases h)⟩
 rintro g (h1|⟨id,h1⟩)
 ·exact hl.A g h1
 ·exact .inr ⟨(hl.own id g h1).1,(hl.own id g h1).2.1⟩
theorem Good.fzr{P:Program}[Tb P]{f:FuncId}{args:List V}{r r':V}(h:Good P f args r)(hr:r.noRef=true)(hw:wkV r.erase r'):Good P f args r':=(h.erz hr).wkr hw
theorem Good.fzt{P:Program}[Tb P]{f:FuncId}{args vs ws:List V}(h:Good P f args (.tup vs))(hr:(V.tup vs).noRef=true)(hw:wkA (V.mapL (fun _ => .fz) id vs) ws):Good P f args (.tup ws):=(h.erz hr).wkt hw
end Go.Pg
section
namespace Go.Pg
open Go
def aoF(n:Nat):Nat→V:=fun i=>if i<n then .ref i 0 else .top
inductive Pc where
 | v (x:V)
 | h (i c:Nat)
def Pc.inst(u:Nat→Nat→Value):Pc→V
 | .v x=>x
 | .h i c => .c (u i c)
def lB(B:List (TypeId × List V)):Nat→Option (TypeId × List V):=fun i=>B[i]?
def aoB(u:Nat→Nat→Value)(B:List (TypeId × List Pc)):List (TypeId × List V):=B.map fun x=>(x.1,x.2.map (Pc.inst u))
def GoodB(P:Program)[Tb P](g:FuncId)(args:List V)(B:List (TypeId × List Pc))(k:Nat)(B':List (TypeId × List Pc))(k':Nat)(r:V):Prop :=
 ∀u,GoodZ P g args ⟨aoF B.length,lB (aoB u B),k,fun _ => .top⟩ ⟨aoF B.length,lB (aoB u B'),k',fun _ => .top⟩ r
theorem aoG(id:Nat):aJ id .top = .top:=by unfold aJ;split<;>rfl
def anz(O:List Nat)(n:Nat):Tag→Tag
 | .fz => .fz
 | .nn => .nn
 | .own j e => .own (if j<O.length then O.getD j 0 else n+(j-O.length)) e
def anA(Bx:List Nat)(b:Nat):Nat:=Bx.getD b 0
def Q7:List Nat→V→V
 | [],v=>v
 | i::O,v=>aJ i (Q7 O v)
def aoz:List Nat→(Nat→V)→Nat→V
 | [],e=>e
 | i::O,e=>lX (aJ i) (aoz O e)
def aoC:List Nat→(Nat→Option (TypeId × List V))→Nat→Option (TypeId × List V)
 | [],b=>b
 | i::O,b=>sH (aJ i) (aoC O b)
theorem aoH(O:List Nat)(e:Nat→V)(t:Nat):aoz O e t=Q7 O (e t):=by
 induction O with
 | nil=>rfl
 | cons i O ih=>show aJ i (aoz O e t)=aJ i (Q7 O (e t));rw[ih]
theorem aoU(O:List Nat)(b:Nat→Option (TypeId × List V))(t:Nat):aoC O b t=(b t).map fun x=>(x.1,x.2.map (Q7 O)):=by
 induction O with
 | nil=>show b t=_;cases h:b t with
  | none=>rfl
  | some x=>show some x=some (x.1,x.2.map (fun v=>v));simp
 | cons i O ih =>
  show (aoC O b t).map (fun x=>(x.1,x.2.map (aJ i)))=_
  rw[ih]
  cases b t with
  | none=>rfl
  | some x=>simp only[Option.map_some,List.map_map];rfl
def aoI:List Nat→List (TypeId × List V)→(Nat→Option (TypeId × List V))→Nat→Option (TypeId × List V)
 | b::bs,x::xs,f=>upd (aoI bs xs f) b (some x)
 | _,_,f=>f
theorem aoP(b:Nat)(bs:List Nat)(x:TypeId × List V)(xs:List (TypeId × List V))(f:Nat→Option (TypeId × List V)):aoI (b::bs) (x::xs) f=upd (aoI bs xs f) b (some x):=rfl
theorem aoV:∀(bs:List Nat) (xs:List (TypeId × List V)) (f:Nat→Option (TypeId × List V)) (b:Nat),bs.length=xs.length→aoI bs xs f b=if b∈bs then xs[bs.idxOf b]? else f b:=by
 intro bs
 induction bs with
 | nil=>intro xs f b h;cases xs with
  | nil=>simp [aoI]
  | cons _ _=>simp at h
 | cons c bs ih =>
  intro xs f b h
  cases xs with
  | nil=>simp at h
  | cons x xs =>
   rw[aoP]
   by_cases hb:b=c
   ·subst hb;simp [upd]
   ·rw[aoZ _ _ _ _ hb,ih xs f b (by simpa using h)]
    have:(b∈c::bs)↔b∈bs:=by simp [hb]
    by_cases hm:b∈bs
    ·rw[if_pos hm,if_pos (this.2 hm),List.idxOf_cons]
     have hc:(c == b)=false:=by simpa using fun h=>hb h.symm
     rw[hc]
     simp
    ·rw[if_neg hm,if_neg (fun h=>hm (this.1 h))]
def Pc.back(O Bx:List Nat)(n:Nat)(H:Nat→Nat→V):Pc→V
 | .v x=>x.map (anz O n) (anA Bx)
 | .h i c=>Q7 O (H i c)
def aoJ(O Bx:List Nat)(n:Nat)(H:Nat→Nat→V)(B:List (TypeId × List Pc)):List (TypeId × List V):=B.map fun x=>(x.1,x.2.map (Pc.back O Bx n H))
def aoD(Bx:List Nat)(b:Nat→Option (TypeId × List V))(i c:Nat):V:=((Bx[i]?).bind b).elim .top fun x=>x.2.getD c .top
def aoQ(O Bx:List Nat)(i:Nat):Nat→List Pc→List V→Prop
 | _,[],[]=>True
 | c,.v x::ps,y::ys=>(y.any (Tag.notIn O) (zD Bx) false=false∧y.map (sF O) (fun b=>Bx.idxOf b)=x)∧aoQ O Bx i (c+1) ps ys
 | c,.h i' c'::ps,_::ys=>(i'=i∧c'=c)∧aoQ O Bx i (c+1) ps ys
 | _,_,_=>False
def ao0(O Bx:List Nat)(b:Nat→Option (TypeId × List V)):Nat→List Nat→List (TypeId × List Pc)→Prop
 | _,[],[]=>True
 | i,c::cs,x::xs=>(∃l,b c=some (x.1,l)∧aoQ O Bx i 0 x.2 l)∧ao0 O Bx b (i+1) cs xs
 | _,_,_=>False
def Tag.outB(no k':Nat):Tag→Bool
 | .fz=>false
 | .nn=>false
 | .own j _ => !decide (j<max no k')
def Pc.okB(no k' nb:Nat):Pc→Bool
 | .v x => !x.any (Tag.outB no k') (fun b => !decide (b<nb)) false
 | .h _ _=>true
section
variable {L L':Lay} {w w':World}
theorem Trans.comp{p p2:Tag→Bool}{L3:Lay}{w3:World}(K:Trans p (fun _=>false) id id L L' w w')(K2:Trans p2 (fun _=>false) id id L' L3 w' w3):Trans (fun t=>p t||p2 t) (fun _=>false) id id L L3 w w3 where
 fz':=rfl
 A:=fun g h=>by
  obtain⟨h1,h2⟩:=K.A g h
  obtain⟨h3,h4⟩:=K2.A g h1
  exact⟨h3,fun arr e fr hg=>by obtain⟨fr',h5⟩:=h2 arr e fr hg;exact h4 arr e fr' h5⟩
 own:=fun i e hi g h=>by
  simp only[Bool.or_eq_false_iff] at hi
  obtain⟨h1,h2⟩:=K.own i e hi.1 g h
  obtain⟨h3,h4⟩:=K2.own i e hi.2 g h1.2
  exact⟨h3,h4.trans h2⟩
 box:=fun b _ g h=>K2.box b rfl g (K.box b rfl g h)
theorem aoy{O:List Nat}(K:Trans (fun t=>match t with | .own i _=>O.contains i|_=>false) (fun _=>false) id id L L' w w'){v:V}{u:Value}(h:Rep L w v u):Rep L' w' (Q7 O v) u:=by
 by_cases hv:v.any (fun t=>match t with | .own i _=>O.contains i|_=>false) (fun _=>false) false=false
 ·have h1:=h.trans rfl K hv
  rw[map_id.1] at h1
  have:∀O',(∀i∈O',i∈O)→Q7 O' v=v:=by
   intro O'
   induction O' with
   | nil=>intro _;rfl
   | cons i O' ih =>
    intro hsub
    show aJ i (Q7 O' v)=v
    rw[ih fun j hj=>hsub j (List.mem_cons_of_mem _ hj)]
    unfold aJ
    rw[if_neg]
    have h2:=(QY (p:=fun t=>match t with | .own i _=>O.contains i|_=>false) (p':=Tag.is i) (q:=fun _=>false) (q':=fun _=>false) (fun t ht=>by
     cases t with
     | own j e =>
      simp only[Tag.is,beq_iff_eq] at ht
      subst ht
      simpa using hsub j (by simp)
     | _=>simp [Tag.is] at ht) (fun b hb=>by cases hb)).1 v hv
    simp [V.has,h2]
  rw[this O fun _ h=>h]
  exact h1
 ·
  have:Q7 O v = .top:=by
   have key:∀O':List Nat,(Q7 O' v = .top∨(Q7 O' v=v∧∀i∈O',v.has i=false)):=by
    intro O'
    induction O' with
    | nil=>exact .inr ⟨rfl,fun _ h=>by cases h⟩
    | cons i O' ih =>
     show aJ i (Q7 O' v) = .top∨_
     rcases ih with h1|⟨h1,h2⟩
     ·left;rw[h1];exact aoG i
     ·rw[h1]
      cases hi:v.has i with
      | true=>left;unfold aJ;rw[hi];rfl
      | false =>
       right
       refine⟨?_,fun j hj=>by rcases List.mem_cons.1 hj with rfl|hj;exact hi;exact h2 j hj⟩
       show aJ i (Q7 O' v)=v
       rw[h1];unfold aJ;rw[hi];rfl
   rcases key O with h1|⟨_,h2⟩
   ·exact h1
   ·exfalso
    apply hv
    have hA:(∀x:V,(∀i∈O,x.any (Tag.is i) (fun _=>false) false=false)→x.any (fun t=>match t with | .own i _=>O.contains i|_=>false) (fun _=>false) false=false)∧(∀l:List V,(∀i∈O,V.anyL (Tag.is i) (fun _=>false) false l=false)→V.anyL (fun t=>match t with | .own i _=>O.contains i|_=>false) (fun _=>false) false l=false):=by
     have ht:∀t:Tag,(∀i∈O,t.is i=false)→(match t with | .own i _=>O.contains i|_=>false)=false:=by
      intro t h
      cases t with
      | own j e =>
       simp only[Tag.is,beq_eq_false_iff_ne] at h
       simp only[List.contains_eq_mem,decide_eq_false_iff_not]
       exact fun hj=>h j hj rfl
      | _=>rfl
     refine V.ind ?_ ?_ ?_ ?_ ?_ ?_ ?_ ?_ ?_ ?_ ?_
     ·intro _ _;rfl
     ·intro _;rfl
     ·intro t k xs _ h;exact ht t h
     ·intro cs ih h;exact ih h
     ·intro cs ih h;exact ih h
     ·intro _ _ _;rfl
     ·intro t k xs i o _ h;exact ht t h
     ·intro f fs cs ih1 ih2 h
      simp only[V.any,Bool.or_eq_false_iff] at h ⊢
      exact⟨ih1 fun i hi=>(h i hi).1,ih2 fun i hi=>(h i hi).2⟩
     ·intro _;rfl
     ·intro _;rfl
     ·intro x xs ih1 ih2 h
      simp only[V.anyL,Bool.or_eq_false_iff] at h ⊢
      exact⟨ih1 fun i hi=>(h i hi).1,ih2 fun i hi=>(h i hi).2⟩
    exact hA.1 v h2
  rw[this];trivial
end
theorem aoW{O Bx:List Nat}{b:Nat→Option (TypeId × List V)}:∀(cs:List Nat) (i:Nat) (B:List (TypeId × List Pc)),ao0 O Bx b i cs B→cs.length=B.length∧∀j x,B[j]?=some x→∃c l,cs[j]?=some c∧b c=some (x.1,l)∧aoQ O Bx (i+j) 0 x.2 l:=by
 intro cs
 induction cs with
 | nil=>intro i B h;cases B with
  | nil=>exact⟨rfl,fun j x hj=>by simp at hj⟩
  | cons _ _=>exact h.elim
 | cons c cs ih =>
  intro i B h
  cases B with
  | nil=>exact h.elim
  | cons x B =>
   obtain⟨⟨l,h1,h2⟩,h3⟩:=h
   obtain⟨h4,h5⟩:=ih (i+1) B h3
   refine⟨by simp [h4],fun j y hj => ?_⟩
   cases j with
   | zero=>simp at hj;subst hj;exact⟨c,l,rfl,h1,h2⟩
   | succ j =>
    obtain⟨c',l',k1,k2,k3⟩:=h5 j y (by simpa using hj)
    exact⟨c',l',by simpa using k1,k2,by rw[show i+(j+1)=i+1+j by omega];exact k3⟩
theorem aoR{O Bx:List Nat}{i:Nat}{L L0:Lay}{w:World}{u:Nat→Nat→Value}(K:Trans (Tag.notIn O) (zD Bx) (sF O) (fun b=>Bx.idxOf b) L L0 w w):∀(ps:List Pc) (l:List V) (us:List Value) (c:Nat),
  aoQ O Bx i c ps l→Reps L w l us→(∀j x,us[j]?=some x→u i (c+j)=x)→Reps L0 w (ps.map (Pc.inst u)) us:=by
 intro ps
 induction ps with
 | nil=>intro l us c h hr _;cases l with
  | nil=>exact hr
  | cons _ _=>exact h.elim
 | cons p ps ih =>
  intro l us c h hr hu
  cases l with
  | nil=>cases p<;>exact h.elim
  | cons y ys =>
   obtain⟨x,r,rfl,h1,h2⟩:=hr
   have hn:=fun h'=>ih ys r (c+1) h' h2 (fun j z hj=>by have:=hu (j+1) z (by simpa using hj);rw[show c+(j+1)=c+1+j by omega] at this;exact this)
   cases p with
   | v q =>
    obtain⟨⟨h3,h4⟩,h5⟩:=h
    refine⟨x,r,rfl, ?_,hn h5⟩
    have:=h1.trans rfl K h3
    rw[h4] at this
    exact this
   | h i' c' =>
    obtain⟨⟨rfl,rfl⟩,h5⟩:=h
    refine⟨x,r,rfl, ?_,hn h5⟩
    exact (hu 0 x rfl).symm
theorem GoodB.frame{P:Program}[Tb P]{g:FuncId}{args0:List V}{B B':List (TypeId × List Pc)}{k k':Nat}{r:V}(hg:GoodB P g args0 B k B' k' r)(O Bx:List Nat){args:List V}{e:Nat→V}{bx:Nat→Option (TypeId × List V)}{n:Nat}{h:Nat→V}
  (hargs:V.anyL (Tag.notIn O) (zD Bx) false args=false∧V.mapL (sF O) (fun b=>Bx.idxOf b) args=args0) (hfit:ao0 O Bx bx 0 Bx B)
  (hO:O.Nodup) (hBx:Bx.Nodup) (hOn:∀j∈O,j<n) (hkO:O.length≤k) (hkB:B.length≤k) (hl:B'.length=B.length)
  (hok:(B'.all fun x=>x.2.all (Pc.okB O.length k' B.length))=true) (hrok:r.any (Tag.outB O.length k') (fun b => !decide (b<B.length)) false=false) :
  GoodZ P g args ⟨e,bx,n,h⟩ ⟨aoz O e,aoI Bx (aoJ O Bx n (aoD Bx bx) B') (aoC O bx),n+(k'-O.length),aoz O h⟩ (r.map (anz O n) (anA Bx)):=by
 intro C L a w cargs hT S hr
 have W:=S.wf
 obtain⟨hlen,hfit⟩:=aoW Bx 0 B hfit
 let T:Nat→Prop:=fun g=>(∃j∈O,L.own j=some g)∨(∃b∈Bx,L.box b=some g)
 have hTlt:∀g,T g→g<w.heap.size∧(C.B≤g∨C.Wr g)∧¬L.A g:=by
  rintro g (⟨j,_,h⟩|⟨b,_,h⟩)
  ·exact W.own j g h
  ·exact W.boxW b g h
 let blk:Nat→Nat:=fun i=>((Bx[i]?).bind L.box).getD 0
 let u:Nat→Nat→Value:=fun i c=>match w.heap[blk i]? with|some (.cells arr _ _)=>arr.getD c undef|_=>undef
 let C0:Cx:={ n:=B.length,A0:=L.A,Wr:=T,w0:=w }
 let a0:Act:={ tmps:=((List.range B.length).map fun i=>Value.pointer (some ⟨blk i,0,none⟩)).toArray,defers:=[] }
 let L0:Lay:={ A:=L.A,own:=fun j=>(O[j]?).bind L.own,box:=fun i=>(Bx[i]?).bind L.box }
 have hB:=S.hB
 have hkp:∀w',Kp T w.heap.size w w'→Kp C.Wr C.B C.w0 w':=fun w' hk=>S.kp.trans (hk.mono hB fun g hgB hg=>by
  rcases (hTlt g hg).2.1 with h1|h1
  ·omega
  ·exact h1)
 have hT0:C0.TOk P:=fun w' hk=>hT w' (hkp w' hk)
 have K0:Trans (Tag.notIn O) (zD Bx) (sF O) (fun b=>Bx.idxOf b) L L0 w w:=by
  refine⟨rfl,fun g h=>⟨h,.of rfl⟩,fun i e hi g h=>⟨⟨rfl, ?_⟩,rfl⟩,fun b hb g h => ?_⟩
  ·have hm:i∈O:=by simpa [Tag.notIn] using hi
   simp only[L0,zC O i hm,Option.bind_some,h]
  ·have hm:b∈Bx:=by simpa [zD] using hb
   simp only[L0,zC Bx b hm,Option.bind_some,h]
 have hbox:∀i x,B[i]?=some x→∃c l g arr,Bx[i]?=some c∧bx c=some (x.1,l)∧aoQ O Bx i 0 x.2 l∧L.box c=some g∧blk i=g∧w.heap[g]?=some (.cells arr x.1 (0,0))∧Reps L w l arr.toList:=by
  intro i x hx
  obtain⟨c,l,h1,h2,h3⟩:=hfit i x hx
  obtain⟨g,arr,h4,h5,h6⟩:=S.box c _ h2
  rw[Nat.zero_add] at h3
  exact⟨c,l,g,arr,h1,h2,h3,h4,by simp only[blk,h1,Option.bind_some,h4,Option.getD_some],h5,h6⟩
 have hsome:∀i,i<B.length→∃x,B[i]?=some x:=fun i hi=>⟨B[i],List.getElem?_eq_getElem hi⟩
 have lt:∀(x:List Nat) (f:Nat→Option Nat) j g,(x[j]?).bind f=some g→j<x.length∧∃i,x[j]?=some i∧f i=some g:=by
  intro x f j g h
  simp only[Option.bind_eq_some_iff] at h
  obtain⟨i,h1,h2⟩:=h
  exact⟨(List.getElem?_eq_some_iff.1 h1).1,i,h1,h2⟩
 have S0:Sim C0 ⟨aoF B.length,lB (aoB u B),k,fun _ => .top⟩ L0 a0 w:=by
  refine⟨rfl,by simp [a0,C0],fun t => ?_,fun _=>trivial,fun i cs hc => ?_, ?_,Kp.refl _ _ _⟩
  ·show Rep L0 w (aoF B.length t) (a0.tmps.getD t undef)
   unfold aoF
   split
   ·rename_i ht
    obtain⟨x,hx⟩:=hsome t ht
    obtain⟨c,l,g,arr,h1,h2,h3,h4,h5,h6,h7⟩:=hbox t x hx
    refine⟨g,by simp only[L0,h1,Option.bind_some,h4], ?_⟩
    simp [a0,ht,h5]
   ·trivial
  ·have hc:lB (aoB u B) i=some cs:=hc
   simp only[lB,aoB,List.getElem?_map,Option.map_eq_some_iff] at hc
   obtain⟨x,hx,rfl⟩:=hc
   obtain⟨c,l,g,arr,h1,h2,h3,h4,h5,h6,h7⟩:=hbox i x hx
   refine⟨g,arr,by simp only[L0,h1,Option.bind_some,h4],h6, ?_⟩
   refine aoR K0 x.2 l arr.toList 0 h3 h7 (fun j z hj => ?_)
   simp only[u,h5,h6,Nat.zero_add]
   simp only[Array.getElem?_toList] at hj
   simp [Array.getD_eq_getD_getElem?,hj]
  ·exact {
    nidO:=fun j g h=>by have:=(lt O L.own j g h).1;show j<k;omega
    nidB:=fun j g h=>by have:=(lt Bx L.box j g h).1;show j<k;omega
    own:=fun j g h=>by
     obtain⟨_,i,h1,h2⟩:=lt O L.own j g h
     exact⟨(W.own i g h2).1,.inr (.inl ⟨i,List.mem_of_getElem? h1,h2⟩),(W.own i g h2).2.2⟩
    boxW:=fun j g h=>by
     obtain⟨_,i,h1,h2⟩:=lt Bx L.box j g h
     exact⟨(W.boxW i g h2).1,.inr (.inr ⟨i,List.mem_of_getElem? h1,h2⟩),(W.boxW i g h2).2.2⟩
    injO:=fun i j g hi hj=>by
     obtain⟨h0,i',h1,h2⟩:=lt O L.own i g hi
     obtain⟨_,j',h3,h4⟩:=lt O L.own j g hj
     have:=W.injO i' j' g h2 h4
     subst this
     exact (List.getElem?_inj h0 hO).1 (h1.trans h3.symm)
    injB:=fun i j g hi hj=>by
     obtain⟨h0,i',h1,h2⟩:=lt Bx L.box i g hi
     obtain⟨_,j',h3,h4⟩:=lt Bx L.box j g hj
     have:=W.injB i' j' g h2 h4
     subst this
     exact (List.getElem?_inj h0 hBx).1 (h1.trans h3.symm)
    dis:=fun i j g hi hj=>by
     obtain⟨_,i',_,h2⟩:=lt O L.own i g hi
     obtain⟨_,j',_,h4⟩:=lt Bx L.box j g hj
     exact W.dis i' j' g h2 h4
    old:=W.old
    frz:=fun g h => .inl h }
 have hr0:Reps L0 w args0 cargs:=by
  have:=hr.trans rfl K0 hargs.1
  rw[hargs.2] at this
  exact this
 have post:∀w' L' (x:Value),Sim C0 ⟨aoF B.length,lB (aoB u B'),k',fun _ => .top⟩ L' a0 w'→Rep L' w' r x →
   ∃L2,Sim C ⟨aoz O e,aoI Bx (aoJ O Bx n (aoD Bx bx) B') (aoC O bx),n+(k'-O.length),aoz O h⟩ L2 a w'∧Rep L2 w' (r.map (anz O n) (anA Bx)) x:=by
  intro w' L' x S' hx
  have W':=S'.wf
  have hk0:Kp T w.heap.size w w':=S'.kp
  have hsz:=hk0.size
  have pin:∀i c g,Bx[i]?=some c→L.box c=some g→i<B.length→L'.box i=some g:=by
   intro i c g h1 h2 hi
   have h3:=S'.env i
   have e1:(⟨aoF B.length,lB (aoB u B'),k',fun _ => .top⟩:St).env i = .ref i 0:=by simp [aoF,hi]
   rw[e1] at h3
   obtain⟨g',h4,h5⟩:=h3
   have h6:a0.tmps.getD i undef = .pointer (some ⟨blk i,0,none⟩):=by simp [a0,hi]
   rw[h6] at h5
   have h7:blk i=g:=by simp only[blk,h1,Option.bind_some,h2,Option.getD_some]
   simp only[Value.pointer.injEq,Option.some.injEq,Addr.mk.injEq,h7] at h5
   rw[h4,←h5.1]
  have hin:∀i g,L'.box i=some g→i<B.length→∃c,Bx[i]?=some c∧L.box c=some g:=by
   intro i g hg hi
   obtain⟨y,hy⟩:=hsome i hi
   obtain⟨c,l,g1,arr,h1,h2,h3,h4,h5,h6,h7⟩:=hbox i y hy
   have:=pin i c g1 h1 h4 hi
   rw[this] at hg
   simp only[Option.some.injEq] at hg
   subst hg
   exact⟨c,h1,h4⟩
  let L2:Lay:={ A:=fun g=>L.A g∨(L'.A g∧(w.heap.size≤g∨T g)),own:=fun j=>if j<n then (if j∈O then L'.own (O.idxOf j) else L.own j) else if j-n+O.length<max O.length k' then L'.own (j-n+O.length) else none,box:=L.box }
  have own_cases:∀j g,L2.own j=some g→(j<n∧j ∉ O∧L.own j=some g)∨(j<n∧j∈O∧L'.own (O.idxOf j)=some g)∨(n≤j∧j-n+O.length<max O.length k'∧L'.own (j-n+O.length)=some g):=by
   intro j g hg
   simp only[L2] at hg
   split at hg
   ·rename_i h1
    split at hg
    ·rename_i h2;exact .inr (.inl ⟨h1,h2,hg⟩)
    ·rename_i h2;exact .inl ⟨h1,h2,hg⟩
   ·rename_i h1
    split at hg
    ·rename_i h2;exact .inr (.inr ⟨by omega,h2,hg⟩)
    ·cases hg
  have notT:∀j g,j ∉ O→L.own j=some g→¬T g:=by
   rintro j g hj h1 (⟨i,hi,h2⟩|⟨b,hb,h2⟩)
   ·exact hj (W.injO i j g h2 h1 ▸ hi)
   ·exact W.dis j b g h1 h2
  have newO:∀j g,L'.own j=some g→g<w'.heap.size∧(w.heap.size≤g∨T g)∧¬L'.A g:=fun j g hg=>W'.own j g hg
  have wf:Wf C (n+(k'-O.length)) L2 w':={
   nidO:=fun j g hg=>by
    rcases own_cases j g hg with h1|h1|h1
    ·omega
    ·omega
    ·omega
   nidB:=fun b g hg=>by have:=W.nidB b g hg;have h1:b<n:=this;omega
   own:=fun j g hg=>by
    rcases own_cases j g hg with ⟨_,h1,h2⟩|⟨_,_,h2⟩|⟨_,_,h2⟩
    ·obtain⟨h3,h4,h5⟩:=W.own j g h2
     refine⟨by omega,h4, ?_⟩
     rintro (h6|⟨_,h6|h6⟩)
     ·exact h5 h6
     ·omega
     ·exact notT j g h1 h2 h6
    all_goals
     obtain⟨h3,h4,h5⟩:=newO _ g h2
     refine⟨h3, ?_, ?_⟩
     ·rcases h4 with h4|h4
      ·left;omega
      ·exact (hTlt g h4).2.1
     ·rintro (h6|⟨h6,_⟩)
      ·rcases h4 with h4|h4
       ·have:=W.old g h6;omega
       ·exact (hTlt g h4).2.2 h6
      ·exact h5 h6
   boxW:=fun b g hg=>by
    have hg:L.box b=some g:=hg
    obtain⟨h3,h4,h5⟩:=W.boxW b g hg
    refine⟨by omega,h4, ?_⟩
    rintro (h6|⟨h6,h7|h7⟩)
    ·exact h5 h6
    ·omega
    ·rcases h7 with ⟨i,_,h8⟩|⟨c,hc,h8⟩
     ·exact W.dis i b g h8 hg
     ·have hb:=W.injB b c g hg h8
      subst hb
      have h9:=zC Bx b hc
      have h10:Bx.idxOf b<B.length:=by rw[←hlen];exact List.idxOf_lt_length_of_mem hc
      exact (W'.boxW _ g (pin _ b g h9 hg h10)).2.2 h6
   injO:=fun i j g hi hj=>by
    have cl:∀m g,L.own m=some g→m ∉ O→(w.heap.size≤g∨T g)→False:=fun m g h1 h2 h3=>by
     rcases h3 with h3|h3
     ·have:=(W.own m g h1).1;omega
     ·exact notT m g h2 h1 h3
    have ix:∀a b:Nat,a∈O→b∈O→O.idxOf a=O.idxOf b→a=b:=fun a b h1 h2 h3=>by
     have e1:=zC O a h1
     have e2:=zC O b h2
     rw[h3,e2] at e1
     exact (Option.some.inj e1).symm
    have il:∀a:Nat,a∈O→O.idxOf a<O.length:=fun a h=>List.idxOf_lt_length_of_mem h
    rcases own_cases i g hi with ⟨_,h1,h2⟩|⟨_,h1,h2⟩|⟨h0,h1,h2⟩<;>rcases own_cases j g hj with ⟨_,h3,h4⟩|⟨_,h3,h4⟩|⟨h5,h3,h4⟩
    ·exact W.injO i j g h2 h4
    ·exact (cl i g h2 h1 (newO _ g h4).2.1).elim
    ·exact (cl i g h2 h1 (newO _ g h4).2.1).elim
    ·exact (cl j g h4 h3 (newO _ g h2).2.1).elim
    ·exact ix i j h1 h3 (W'.injO _ _ g h2 h4)
    ·have:=W'.injO _ _ g h2 h4;have:=il i h1;omega
    ·exact (cl j g h4 h3 (newO _ g h2).2.1).elim
    ·have:=W'.injO _ _ g h2 h4;have:=il j h3;omega
    ·have:=W'.injO _ _ g h2 h4;omega
   injB:=W.injB
   dis:=fun i b g hi hb=>by
    have hb:L.box b=some g:=hb
    have key:∀m,L'.own m=some g→False:=fun m hm=>by
     obtain⟨h1,h2,h3⟩:=newO m g hm
     rcases h2 with h2|h2
     ·have:=(W.boxW b g hb).1;omega
     ·rcases h2 with ⟨i,_,h4⟩|⟨c,hc,h4⟩
      ·exact W.dis i b g h4 hb
      ·have hbc:=W.injB b c g hb h4
       subst hbc
       have h9:=zC Bx b hc
       have h10:Bx.idxOf b<B.length:=by rw[←hlen];exact List.idxOf_lt_length_of_mem hc
       exact W'.dis m _ g hm (pin _ b g h9 hb h10)
    rcases own_cases i g hi with ⟨_,h1,h2⟩|⟨_,_,h2⟩|⟨_,_,h2⟩
    ·exact W.dis i b g h2 hb
    ·exact key _ h2
    ·exact key _ h2
   old:=fun g hg=>by
    rcases hg with h1|⟨h1,_⟩
    ·have:=W.old g h1;omega
    ·exact W'.old g h1
   frz:=fun g hg=>by
    rcases hg with h1|⟨h1,h2|h2⟩
    ·exact W.frz g h1
    ·right;left;omega
    ·exact .inr (hTlt g h2).2.1 }
  have same:∀g,g<w.heap.size→¬T g→w'.heap[g]?=w.heap[g]?:=fun g h1 h2=>hk0.block g h1 h2
  have K:Trans (fun t=>match t with | .own i _=>O.contains i|_=>false) (fun _=>false) id id L L2 w w':=by
   refine⟨rfl,fun g hg=>⟨.inl hg,.of (same g (W.old g hg) fun h1=>(hTlt g h1).2.2 hg)⟩,fun i e hi g hg=>⟨⟨rfl, ?_⟩, ?_⟩,fun b _ g hg=>hg⟩
   ·have h1:i ∉ O:=by simpa using hi
    have h2:i<n:=W.nidO i g hg
    simp only[L2,if_pos h2,if_neg h1,hg]
   ·have h1:i ∉ O:=by simpa using hi
    exact same g (W.own i g hg).1 (notT i g h1 hg)
  have K2:Trans (Tag.outB O.length k') (fun b => !decide (b<B.length)) (anz O n) (anA Bx) L' L2 w' w':=by
   refine⟨rfl,fun g hg=>⟨?_,.of rfl⟩,fun j e hj g hg=>⟨⟨rfl, ?_⟩,rfl⟩,fun b hb g hg => ?_⟩
   ·rcases W'.frz g hg with h1|h1|h1
    ·exact .inl h1
    ·exact .inr ⟨hg,.inl h1⟩
    ·exact .inr ⟨hg,.inr h1⟩
   ·have hj:j<max O.length k':=by simpa [Tag.outB] using hj
    show L2.own (if j<O.length then O.getD j 0 else n+(j-O.length))=some g
    by_cases h1:j<O.length
    ·rw[if_pos h1]
     have e1:O.getD j 0=O[j]:=by simp [List.getD,h1]
     have h2:O[j]∈O:=List.getElem_mem h1
     have h3:O[j]<n:=hOn _ h2
     rw[e1]
     simp only[L2,if_pos h3,if_pos h2,List.Nodup.idxOf_getElem hO j h1,hg]
    ·rw[if_neg h1]
     have h2:¬n+(j-O.length)<n:=by omega
     have h3:n+(j-O.length)-n+O.length=j:=by omega
     simp only[L2,if_neg h2,h3,if_pos hj,hg]
   ·have hb:b<B.length:=by simpa using hb
    obtain⟨c,h1,h2⟩:=hin b g hg hb
    show L.box (Bx.getD b 0)=some g
    rw[List.getD_eq_getElem?_getD,h1]
    exact h2
  refine⟨L2,⟨S.defers,S.size,fun t => ?_,fun t => ?_,fun b cs hb => ?_,wf,hkp w' hk0⟩,hx.trans rfl K2 hrok⟩
  ·show Rep L2 w' (aoz O e t) _
   rw[aoH];exact aoy K (S.env t)
  ·show Rep L2 w' (aoz O h t) _
   rw[aoH];exact aoy K (S.hid t)
  ·have hb:aoI Bx (aoJ O Bx n (aoD Bx bx) B') (aoC O bx) b=some cs:=hb
   rw[aoV _ _ _ _ (by simp [aoJ,hl,hlen])] at hb
   split at hb
   ·rename_i hm
    have h9:=zC Bx b hm
    have h10:Bx.idxOf b<B.length:=by rw[←hlen];exact List.idxOf_lt_length_of_mem hm
    generalize Bx.idxOf b=i at hb h9 h10
    simp only[aoJ,List.getElem?_map,Option.map_eq_some_iff] at hb
    obtain⟨y,hy,rfl⟩:=hb
    obtain⟨g,arr,h1,h2,h3⟩:=S'.box i (y.1,y.2.map (Pc.inst u)) (by simp [lB,aoB,hy])
    obtain⟨c,h4,h5⟩:=hin i g h1 h10
    rw[h9] at h4
    simp only[Option.some.injEq] at h4
    subst h4
    refine⟨g,arr,h5,h2, ?_⟩
    have hyok:∀p∈y.2,p.okB O.length k' B.length=true:=by
     have:=List.all_eq_true.1 hok y (List.mem_of_getElem? hy)
     exact fun p hp=>List.all_eq_true.1 this p hp
    have hcell:∀i c,Rep L2 w' (Q7 O (aoD Bx bx i c)) (u i c):=by
     intro i c
     refine aoy K ?_
     unfold aoD
     cases hi:Bx[i]? with
     | none=>trivial
     | some b1 =>
      simp only[Option.bind_some]
      cases hb1:bx b1 with
      | none=>trivial
      | some z =>
       show Rep L w (z.2.getD c .top) (u i c)
       obtain⟨g1,arr1,k1,k2,k3⟩:=S.box b1 z hb1
       have e1:blk i=g1:=by simp only[blk,hi,Option.bind_some,k1,Option.getD_some]
       have e2:u i c=arr1.getD c undef:=by simp only[u,e1,k2]
       rw[e2,List.getD_eq_getElem?_getD]
       cases hc:z.2[c]? with
       | none=>trivial
       | some v =>
        obtain⟨x1,k4,k5⟩:=k3.get hc
        simp only[Array.getElem?_toList] at k4
        simpa [Array.getD_eq_getD_getElem?,k4] using k5
    have fin:∀(ps:List Pc) (us:List Value),(∀p∈ps,p.okB O.length k' B.length=true)→Reps L' w' (ps.map (Pc.inst u)) us→Reps L2 w' (ps.map (Pc.back O Bx n (aoD Bx bx))) us:=by
     intro ps
     induction ps with
     | nil=>intro us _ h;exact h
     | cons p ps ih =>
      rintro us hp ⟨x,r,rfl,k1,k2⟩
      refine⟨x,r,rfl, ?_,ih r (fun q hq=>hp q (List.mem_cons_of_mem _ hq)) k2⟩
      have hp0:=hp p (by simp)
      cases p with
      | v q =>
       have k1:Rep L' w' q x:=k1
       exact k1.trans rfl K2 (by simpa [Pc.okB] using hp0)
      | h i c =>
       have k1:x=u i c:=k1
       subst k1
       exact hcell i c
    exact fin y.2 arr.toList hyok h3
   ·rename_i hm
    rw[aoU] at hb
    simp only[Option.map_eq_some_iff] at hb
    obtain⟨y,hy,rfl⟩:=hb
    obtain⟨g,arr,h1,h2,h3⟩:=S.box b y hy
    have hnt:¬T g:=by
     rintro (⟨i,_,h4⟩|⟨c,hc,h4⟩)
     ·exact W.dis i b g h4 h1
     ·exact hm (W.injB c b g h4 h1 ▸ hc)
    refine⟨g,arr,h1,(same g (W.boxW b g h1).1 hnt).trans h2, ?_⟩
    exact Jg (fun v x hv=>aoy K hv) h3
 rcases hg u C0 L0 a0 w cargs hT0 S0 hr0 with ⟨h1,h2⟩|⟨x,w',L',h1,h2,h3⟩
 ·exact .inl ⟨h1,h2.mono fun _ w' ⟨x,L',he,hs,hr⟩=>by
   obtain⟨L2,k1,k2⟩:=post w' L' x hs hr
   exact⟨x,L2,he,k1,k2⟩⟩
 ·obtain⟨L2,k1,k2⟩:=post w' L' x h2 h3
  exact .inr ⟨x,w',L2,h1,k1,k2⟩
end Go.Pg
end
section
namespace Go.Pg
open Go
section
variable {α:Type} [DecidableEq α]
def spl(c:α):List α→List (List α)
 | []=>[[]]
 | a::l=>if a=c then []::spl c l else match spl c l with|h::t=>(a::h)::t|[]=>[[a]]
theorem Ig(c:α):spl c ([]:List α)=[[]]:=rfl
theorem sO(c:α)(l:List α):spl c (c::l)=[]::spl c l:=by simp [spl]
theorem uG(c:α)(l:List α):∃h t,spl c l=h::t:=by
 cases l with
 | nil=>exact⟨_,_,rfl⟩
 | cons a l =>
  simp only[spl]
  split
  ·exact⟨_,_,rfl⟩
  ·split<;>exact⟨_,_,rfl⟩
theorem pU(c a:α)(l:List α)(h:a≠c){x:List α}{t:List (List α)}(hl:spl c l=x::t):spl c (a::l)=(a::x)::t:=by
 simp [spl,h,hl]
theorem aeG(c:α):∀(a b:List α),spl c (a++c::b)=spl c a++spl c b:=by
 intro a
 induction a with
 | nil=>intro b;simp [sO,Ig]
 | cons x a ih =>
  intro b
  by_cases hx:x=c
  ·subst hx;rw[List.cons_append,sO,sO,ih];rfl
  ·obtain⟨h,t,e⟩:=uG c a
   rw[List.cons_append,pU c x _ hx (show spl c (a++c::b)=h::(t++spl c b) by rw[ih,e];rfl),pU c x a hx e]
   rfl
theorem yh(c:α)(l:List α)(h:∀x∈l,x≠c):spl c l=[l]:=by
 induction l with
 | nil=>rfl
 | cons a l ih=>exact pU c a l (h a (by simp)) (ih fun x hx=>h x (by simp [hx]))
theorem OV(c:α)(a b:List α)(h:∀x∈a,x≠c):spl c (a++c::b)=a::spl c b:=by rw[aeG,yh c a h];rfl
theorem aos(c:α)(l:List α):spl c (l++[c])=spl c l++[[]]:=aeG c l []
theorem Wl(c a:α)(h:a≠c):∀(l:List α) (ps:List (List α)) (w:List α),spl c l=ps++[w]→spl c (l++[a])=ps++[w++[a]]:=by
 intro l
 induction l with
 | nil =>
  intro ps w e
  rw[Ig] at e
  cases ps with
  | nil=>simp at e;subst e;simp [yh c [a] (by simpa using h)]
  | cons p ps=>simp at e
 | cons x l ih =>
  intro ps w e
  obtain⟨y,t,ey⟩:=uG c l
  by_cases hx:x=c
  ·subst hx
   rw[sO] at e
   rw[List.cons_append,sO]
   cases ps with
   | nil=>rw[ey] at e;simp at e
   | cons p ps =>
    simp only[List.cons_append,List.cons.injEq] at e
    rw[ih ps w e.2,e.1];rfl
  ·rw[pU c x l hx ey] at e
   cases ps with
   | nil =>
    simp only[List.nil_append,List.cons.injEq] at e
    obtain⟨rfl,rfl⟩:=e
    have:=ih [] y (by rw[ey];rfl)
    rw[List.cons_append,pU c x _ hx this]
    rfl
   | cons p ps =>
    simp only[List.cons_append,List.cons.injEq] at e
    obtain⟨rfl,rfl⟩:=e
    have:=ih (y::ps) w (by rw[ey];rfl)
    rw[List.cons_append,pU c x _ hx this]
    rfl
theorem abt(c:α)(l:List α):∃ps w,spl c l=ps++[w]:=by
 obtain⟨h,t,e⟩:=uG c l
 rcases List.eq_nil_or_concat (spl c l) with h1|⟨ps,w,h1⟩
 ·rw[h1] at e;cases e
 ·exact⟨ps,w,by rw[h1,List.concat_eq_append]⟩
theorem aeH(c:α):∀(l:List α) (p:List α),p∈spl c l→∀x∈p,x∈l∧x≠c:=by
 intro l
 induction l with
 | nil=>intro p hp;simp [Ig] at hp;subst hp;intro x hx;cases hx
 | cons a l ih =>
  intro p hp x hx
  by_cases ha:a=c
  ·subst ha
   rw[sO] at hp
   rcases List.mem_cons.1 hp with rfl|hp
   ·cases hx
   ·have:=ih p hp x hx;exact⟨by simp [this.1],this.2⟩
  ·obtain⟨y,t,ey⟩:=uG c l
   rw[pU c a l ha ey] at hp
   rcases List.mem_cons.1 hp with rfl|hp
   ·rcases List.mem_cons.1 hx with rfl|hx
    ·exact⟨by simp,ha⟩
    ·have:=ih y (by rw[ey];simp) x hx;exact⟨by simp [this.1],this.2⟩
   ·have:=ih p (by rw[ey];simp [hp]) x hx;exact⟨by simp [this.1],this.2⟩
theorem Ih(c:α):∀(l:List α),(spl c l).length≤l.length+1:=by
 intro l
 induction l with
 | nil=>simp [Ig]
 | cons a l ih =>
  obtain⟨y,t,ey⟩:=uG c l
  by_cases ha:a=c
  ·subst ha;rw[sO];simp;omega
  ·rw[pU c a l ha ey];rw[ey] at ih;simp at ih ⊢;omega
theorem Qj(c:α):∀(l:List α) (p:List α),p∈spl c l→p.length≤l.length:=by
 intro l
 induction l with
 | nil=>intro p hp;simp [Ig] at hp;subst hp;simp
 | cons a l ih =>
  intro p hp
  obtain⟨y,t,ey⟩:=uG c l
  by_cases ha:a=c
  ·subst ha
   rw[sO] at hp
   rcases List.mem_cons.1 hp with rfl|hp
   ·simp
   ·have:=ih p hp;simp;omega
  ·rw[pU c a l ha ey] at hp
   rcases List.mem_cons.1 hp with rfl|hp
   ·have:=ih y (by rw[ey];simp);simp;omega
   ·have:=ih p (by rw[ey];simp [hp]);simp;omega
end
theorem aeI{α β:Type}[DecidableEq α][DecidableEq β](f:α→β)(c:α)(l:List α)(hf:∀x∈l,f x=f c→x=c):spl (f c) (l.map f)=(spl c l).map (List.map f):=by
 induction l with
 | nil=>rfl
 | cons a l ih =>
  have ih:=ih fun x hx=>hf x (by simp [hx])
  obtain⟨y,t,ey⟩:=uG c l
  by_cases ha:a=c
  ·subst ha
   rw[List.map_cons,sO,sO,ih];rfl
  ·have hfa:f a≠f c:=fun h=>ha (hf a (by simp) h)
   rw[List.map_cons,pU (f c) (f a) _ hfa (by rw[ih,ey];rfl),pU c a l ha ey];rfl
theorem aiA(c:UInt8):∀u:List UInt8,(Lib.index u [c] = -1∧∀x∈u,x≠c)∨∃a b,u=a++c::b∧(∀x∈a,x≠c)∧Lib.index u [c]=(a.length:Nat):=by
 intro u
 induction u with
 | nil=>exact .inl ⟨rfl,fun x hx=>by cases hx⟩
 | cons x u ih =>
  by_cases hx:x=c
  ·subst hx
   refine .inr ⟨[],u,rfl,fun y hy=>(by cases hy), ?_⟩
   unfold Lib.index
   have hp:[x].isPrefixOf (x::u)=true:=by
    show (x == x&&[].isPrefixOf u)=true
    simp
   rw[hp];rfl
  ·have hp:[c].isPrefixOf (x::u)=false:=by
    show (c == x&&[].isPrefixOf u)=false
    rw[beq_eq_false_iff_ne.2 (Ne.symm hx)];rfl
   rcases ih with ⟨h1,h2⟩|⟨a,b,rfl,h2,h3⟩
   ·refine .inl ⟨?_,fun y hy => ?_⟩
    ·unfold Lib.index
     rw[hp,h1];rfl
    ·rcases List.mem_cons.1 hy with rfl|hy
     ·exact hx
     ·exact h2 y hy
   ·refine .inr ⟨x::a,b,rfl,fun y hy => ?_, ?_⟩
    ·rcases List.mem_cons.1 hy with rfl|hy
     ·exact hx
     ·exact h2 y hy
    ·unfold Lib.index
     rw[hp,h3]
     have:¬((a.length:Int) == -1)=true:=by rw[beq_iff_eq];omega
     rw[if_neg (by simp),if_neg this]
     simp
theorem OW(c:UInt8):∀(k:Nat) (u:List UInt8),Lib.count u [c]=k→Lib.splitK [c] 0 k u=spl c u:=by
 intro k
 induction k with
 | zero =>
  intro u h
  rcases aiA c u with ⟨h1,h2⟩|⟨a,b,rfl,h2,h3⟩
  ·rw[yh c u h2];rfl
  ·rw[Lib.count_hit (by simp) h3] at h;omega
 | succ k ih =>
  intro u h
  rcases aiA c u with ⟨h1,h2⟩|⟨a,b,rfl,h2,h3⟩
  ·rw[Lib.count_miss h1] at h;omega
  ·rw[Lib.count_hit (by simp) h3] at h
   have hd:(a++c::b).drop (a.length+[c].length)=b:=by simp
   rw[hd] at h
   have:=ih b (by omega)
   unfold Lib.splitK
   rw[h3]
   have hm:¬(((a.length:Nat):Int) == -1)=true:=by rw[beq_iff_eq];omega
   rw[if_neg hm,Int.toNat_natCast,Nat.add_zero,hd,this,OV c a b h2]
   simp
theorem oU(l:List Nat):(sB l).data.toList=l.map UInt8.ofNat:=by simp [sB]
theorem zO{a b:Nat}(ha:a<256)(hb:b<256)(h:UInt8.ofNat a=UInt8.ofNat b):a=b:=by
 have:=congrArg UInt8.toNat h
 rw[UInt8.toNat_ofNat',UInt8.toNat_ofNat'] at this
 omega
theorem Zy(l:List Nat)(c:Nat)(ho:oct l)(hc:c<256):Lib.splitB (sB [c]) 0 (Lib.countB (sB l) (sB [c])) (sB l)=(spl c l).map sB:=by
 have h1:=Lib.splitB_data (sB [c]) 0 (Lib.countB (sB l) (sB [c])) (sB l)
 rw[oU,oU] at h1
 have h2:Lib.countB (sB l) (sB [c])=Lib.count (l.map UInt8.ofNat) [UInt8.ofNat c]:=by
  unfold Lib.countB
  rw[oU,oU];rfl
 have h3:Lib.splitK ([c].map UInt8.ofNat) 0 (Lib.countB (sB l) (sB [c])) (l.map UInt8.ofNat)=spl (UInt8.ofNat c) (l.map UInt8.ofNat):=OW _ _ _ h2.symm
 rw[h3,aeI UInt8.ofNat c l (fun x hx h=>zO (ho x hx) hc h)] at h1
 have h4:((spl c l).map sB).map (fun z:ByteArray=>z.data.toList)=(spl c l).map (List.map UInt8.ofNat):=by
  rw[List.map_map]
  refine List.map_congr_left fun x _ => ?_
  exact oU x
 rw[←h4] at h1
 refine List.map_inj_right (f:=fun z:ByteArray=>z.data.toList) ?_ |>.1 h1
 intro x y h
 exact ByteArray.ext (Array.ext' h)
def bef(c:Nat)(l:List Nat):List Nat:=l.takeWhile (· != c)
theorem Zz(c:Nat)(l:List Nat)(h:∀x∈l,x≠c):bef c l=l:=by
 induction l with
 | nil=>rfl
 | cons a l ih =>
  have:=h a (by simp)
  simp only[bef,List.takeWhile_cons]
  rw[if_pos (by simpa using this)]
  congr 1
  exact ih fun x hx=>h x (by simp [hx])
theorem aiB(c:Nat)(a b:List Nat)(h:∀x∈a,x≠c):bef c (a++c::b)=a:=by
 induction a with
 | nil=>simp [bef]
 | cons x a ih =>
  have:=h x (by simp)
  simp only[bef,List.cons_append,List.takeWhile_cons]
  rw[if_pos (by simpa using this)]
  congr 1
  exact ih fun y hy=>h y (by simp [hy])
theorem aiC(l:List Nat)(c:Nat)(ho:oct l)(hc:c<256):(⟨(Lib.cut (sB l).data.toList (sB [c]).data.toList).1.toArray⟩:ByteArray)=sB (bef c l):=by
 rw[oU,oU]
 unfold Lib.cut
 rcases aiA (UInt8.ofNat c) (l.map UInt8.ofNat) with ⟨h1,h2⟩|⟨a,b,h1,h2,h3⟩
 ·rw[show ([c].map UInt8.ofNat)=[UInt8.ofNat c] from rfl,h1,if_neg (by omega)]
  have:∀x∈l,x≠c:=fun x hx e=>h2 _ (List.mem_map.2 ⟨x,hx,rfl⟩) (by rw[e])
  rw[Zz c l this]
  rfl
 ·rw[show ([c].map UInt8.ofNat)=[UInt8.ofNat c] from rfl,h3,if_pos (by omega)]
  simp only[Int.toNat_natCast]
  have e1:l.map UInt8.ofNat=a++UInt8.ofNat c::b:=h1
  obtain⟨l1,l2,rfl,e2,e3⟩:=List.map_eq_append_iff.1 e1
  obtain⟨y,l3,rfl,e4,e5⟩:=List.map_eq_cons_iff.1 e3
  have hy:y=c:=zO (ho y (by simp)) hc e4
  subst hy
  have hne:∀x∈l1,x≠y:=by
   intro x hx e
   subst e
   exact h2 (UInt8.ofNat x) (by rw[←e2];exact List.mem_map.2 ⟨x,hx,rfl⟩) rfl
  rw[aiB y l1 l3 hne,h1,List.take_left,←e2]
  rfl
def trm(c:Nat)(l:List Nat):List Nat:=if l.getLast?=some c then l.dropLast else l
theorem aeJ(l:List Nat)(c:Nat)(ho:oct l)(hc:c<256):(⟨(Lib.trimSuffix (sB l).data.toList (sB [c]).data.toList).toArray⟩:ByteArray)=sB (trm c l):=by
 rw[oU,oU]
 unfold Lib.trimSuffix Lib.hasSuffix trm
 have key:[c].map UInt8.ofNat=[UInt8.ofNat c]:=rfl
 rw[key]
 rcases List.eq_nil_or_concat l with rfl|⟨L,b,rfl⟩
 ·rfl
 ·rw[List.concat_eq_append]
  have hb:b<256:=ho b (by simp)
  have e1:(L++[b]).getLast?=some b:=by simp
  have e2:([UInt8.ofNat c].isSuffixOf ((L++[b]).map UInt8.ofNat)=true)↔b=c:=by
   rw[List.isSuffixOf_iff_suffix,List.map_append]
   constructor
   ·rintro⟨t,ht⟩
    have:=List.append_inj_right' ht (by simp)
    simp only[List.map_cons,List.map_nil,List.cons.injEq,and_true] at this
    exact (zO hc hb this).symm
   ·rintro rfl
    exact⟨_,rfl⟩
  rw[e1]
  by_cases hbc:b=c
  ·rw[if_pos (e2.2 hbc),if_pos (by rw[hbc])]
   simp [sB]
  ·rw[if_neg (fun h=>hbc (e2.1 h)),if_neg (by simpa using hbc)]
   simp [sB]
end Go.Pg
end
namespace Go.Pg
open Go
def PY(xs:List (List Nat)):List (List Nat):=if xs.getLast?=some [] then xs.dropLast else xs
theorem MM(ps:List (List Nat))(w:List Nat):PY (ps++[w])=if w=[] then ps else ps++[w]:=by
 unfold PY
 by_cases h:w=[]
 ·subst h;simp
 ·simp [h]
theorem abR(c:Nat)(l:List Nat)(h:l≠[]):spl c (trm c l)=PY (spl c l):=by
 rcases List.eq_nil_or_concat l with rfl|⟨L,b,rfl⟩
 ·exact absurd rfl h
 ·rw[List.concat_eq_append]
  unfold trm
  by_cases hb:b=c
  ·subst hb
   rw[if_pos (by simp),List.dropLast_concat,aos,MM,if_pos rfl]
  ·rw[if_neg (by simpa using hb)]
   obtain⟨ps,w,e⟩:=abt c L
   rw[Wl c b hb L ps w e,MM,if_neg (by simp)]
def yj(w:List Nat):Bool := !w.isEmpty
theorem aeK(w:List Nat):yj w=decide (w≠[]):=by cases w<;>simp [yj]
def fld(l:List Nat):List (List Nat):=(spl 32 (bef 35 l)).filter yj
theorem aeL(c:Nat)(l:List Nat):(bef c l).length≤l.length:=by
 unfold bef
 induction l with
 | nil=>simp
 | cons a l ih =>
  rw[List.takeWhile_cons]
  split
  ·simp;omega
  ·simp
theorem Q8(c:Nat)(l:List Nat):∀x∈bef c l,x∈l∧x≠c:=by
 unfold bef
 induction l with
 | nil=>intro x hx;cases hx
 | cons a l ih =>
  intro x hx
  rw[List.takeWhile_cons] at hx
  split at hx
  ·rename_i ha
   rcases List.mem_cons.1 hx with rfl|hx
   ·exact⟨by simp,by simpa using ha⟩
   ·have:=ih x hx;exact⟨by simp [this.1],this.2⟩
  ·cases hx
theorem Qk(c:Nat)(l:List Nat):bef c l=l.take (bef c l).length∧((bef c l).length<l.length→l.getD (bef c l).length 0=c):=by
 unfold bef
 induction l with
 | nil=>simp
 | cons a l ih =>
  rw[List.takeWhile_cons]
  split
  ·rename_i ha
   refine⟨?_,fun h => ?_⟩
   ·rw[List.length_cons,List.take_succ_cons,←ih.1]
   ·have:=ih.2 (by simpa using h)
    simpa [List.getD] using this
  ·rename_i ha
   have:a=c:=by simpa using ha
   simp [this]
end Go.Pg
