/-
  Merged texts.
-/
import Derived.Test.YtiohdbjggmmjcaaGreatWAO
import Derived.Test.YtiohdbjggmmjcaaGreatWAN
import Derived.Lib.Split
import Derived.Lib.SplitLaws
import Derived.Lib.CountLaws
import Derived.Lib.IndexMore
import Derived.Lib.Strings
import Derived.Test.YtiohdbjggmmjcaaGreatWAM
import Derived.Lib.Join
set_option linter.unusedVariables false
set_option linter.unusedSimpArgs false
set_option linter.unusedSectionVars false
set_option linter.defProp false
set_option maxRecDepth 100000
set_option maxHeartbeats 8000000
section
namespace Go.Pg
open Go
section
variable {P:Program} [Tb P]
end
theorem wo{P:Program}[Tb P]{g:FuncId}{fs cs:List V}{args:List Operand}{d:Option Nat}{s s':St}{K:Kd→St→Prop}{vs:List V}(r:V)(hg:GoodZ P g vs s s' r)(hvs:fs++args.map s.ev++cs=vs)(hK:K .z (s'.put d r)):bU P (.fn g fs cs) args d s K :=
 .inr ⟨s',r,by rw[hvs];exact hg,hK⟩
section
variable (P:Program) [Tb P]
def alC(n0:Nat)(ops:List Oper)(Q:Exit→St→Prop)(rest:List Oper)(ks:List Ka)(i:Nat)(s:St):Prop:=IY P n0 ops (Q .normal) rest ks i s
def alN(n0:Nat)(ops:List Oper)(Q:Exit→St→Prop)(rest:List Oper)(ks:List Ka)(i:Nat)(κ:Ka)(s:St):Prop:=IY P n0 ops (Q .normal) rest (κ::ks) (i+1) s
theorem WW(x y:Code)(Q:Exit→St→Prop)(s:St):wpS (dD []) P (.seq x y) Q s=wpS (dD []) P x (l7 (dD []) P y Q) s:=by
 have:ny (dD []).cuts (jv y)=false:=by cases h:jv y<;>rfl
 simp only[wpS,this,l7,cond_false]
def ahA(cuts:List Nat)(x y:Code)(Q:Exit→St→Prop)(s:St):Prop:=wpS (dD cuts) P (.seq x y) Q s
theorem WX(n:Nat)(cuts:List Nat)(x y:Code)(Q:Exit→St→Prop)(s:St):wpS (dD (n::cuts)) P (.seq x y) Q s=bif ny (n::cuts) (jv y) then ahA P (n::cuts) x y Q s else wpS (dD (n::cuts)) P x (l7 (dD (n::cuts)) P y Q) s:=by
 cases h:ny (n::cuts) (jv y) with
 | true=>rfl
 | false =>
  have h':ny (dD (n::cuts)).cuts (jv y)=false:=h
  simp only[wpS,h',l7,cond_false]
def wu(b:Bool)(l:List Oper)(Q:Exit→St→Prop)(s:St):Prop:=match b with|true=>alC P s.nid l Q l [] 0 ⟨s.env,s.bx,s.nid+l.length,s.hd⟩|false=>oV P (l.map (·.dst)) l Q l [] s
theorem Rl(cuts:List Nat)(id:Nat)(l:List Oper)(Q:Exit→St→Prop)(s:St):wpS (dD cuts) P (.region id l.toArray true) Q s=wu P (MB l) l Q s:=by
 simp only[wpS,if_true,dD,wu]
 cases h:MB l with
 | true=>simp [IZ,alC]
 | false=>simp [yQ,oV]
theorem aew(e:Nat→V)(b:Bxx)(n:Nat)(h:Nat→V)(l:List Oper)(Q:Exit→St→Prop):wu P true l Q ⟨e,b,n,h⟩=alC P n l Q l [] 0 ⟨e,b,n+l.length,h⟩:=rfl
theorem aex(l:List Oper)(Q:Exit→St→Prop)(s:St):wu P false l Q s=oV P (l.map (·.dst)) l Q l [] s:=rfl
theorem abg(n0:Nat)(ops:List Oper)(Q:Exit→St→Prop)(ks:List Ka)(i:Nat)(s:St):alC P n0 ops Q [] ks i s=(Fe ops ks.reverse=true∧Q .normal s):=rfl
theorem WY(n0:Nat)(ops:List Oper)(Q:Exit→St→Prop)(o:Oper)(rest:List Oper)(ks:List Ka)(i:Nat)(s:St):alC P n0 ops Q (o::rest) ks i s=lW P n0 i s o (alN P n0 ops Q rest ks i):=rfl
theorem aey(n0:Nat)(ops:List Oper)(Q:Exit→St→Prop)(rest:List Oper)(ks:List Ka)(i:Nat)(κ:Ka)(s:St):alN P n0 ops Q rest ks i κ s=alC P n0 ops Q rest (κ::ks) (i+1) s:=rfl
theorem MC(κ:Ka)(s:St)(K:Ka→St→Prop):qL (some (κ,s)) K=K κ s:=rfl
theorem abh{ops:List Oper}{ks:List Ka}{q:Prop}(h1:Fe ops ks=true)(h2:q):Fe ops ks=true∧q:=⟨h1,h2⟩
section
variable (n0 i:Nat) (s:St) (d:Option Nat) (ty:TypeId) (pos:String) (af:Array Edge) (g:Option (Nat × Bool)) (K:Ka→St→Prop)
def stA(t:TypeId)(x y:V):Option (Ka × St):=match x with | .ref b off=>(jB P s t b off y).map fun s'=>(.xb b,s'.put d .top)|_=>none
def ldA(t:TypeId)(x:V)(r:Option V):Option (Ka × St):=match x with | .ref b off=>(lH P s t b off).map fun r=>(.rb b,s.put d r)|_=>r.map fun r=>(.q,s.put d r)
def nZ(s:St)(d:Option Nat)(r:Option V)(K:Ka→St→Prop):Prop:=match r with|some v=>K .q (s.put d v)|none=>False
theorem acQ(s:St)(d:Option Nat)(v:V)(K:Ka→St→Prop):nZ s d (some v) K=K .q (s.put d v):=rfl
theorem ja(s:St)(d:Option Nat)(r:Option V)(K:Ka→St→Prop):qL (r.map fun r=>(.q,s.put d r)) K=nZ s d r K:=by cases r<;>rfl
theorem abj(t:TypeId)(b off:Nat)(y:V):stA P s d t (.ref b off) y=(jB P s t b off y).map fun s'=>(.xb b,s'.put d .top):=rfl
def ldS(t:TypeId)(x:V):Option (Ka × V):=match x with | .ref b off=>(lH P s t b off).map fun r=>(.rb b,r) | .el _ _ xs j off=>((xs[j]?).bind fun y=>y.cs.bind fun cs=>dY P t cs off).map fun r=>(.q,r)|_=>none
def WZ(r:Option (Ka × V)):Prop:=match r with|some (κ,v)=>K κ (s.put d v)|none=>False
theorem MG(κ:Ka)(v:V):WZ s d K (some (κ,v))=K κ (s.put d v):=rfl
theorem abk(t:TypeId)(b off:Nat):ldS P s t (.ref b off)=(lH P s t b off).map fun r=>(.rb b,r):=rfl
theorem aez(t:TypeId)(tg:Tag)(k:Nat)(xs:List V)(j off:Nat):ldS P s t (.el tg k xs j off)=((xs[j]?).bind fun y=>y.cs.bind fun cs=>dY P t cs off).map fun r=>(.q,r):=rfl
theorem I4(e:Nat→V)(b:Bxx)(n:Nat)(h:Nat→V)(t:TypeId):lW P n0 i ⟨e,b,n,h⟩ ⟨d,.alloc t,ty,pos,af,g⟩ K=qL ((tzc P t).map fun l=>(.xb (n0+i),St.put ⟨e,upd b (n0+i) (some (t,l)),n,h⟩ d (.ref (n0+i) 0))) K:=by
 simp only[lW,stepA,tzc,Option.map_map];rfl
theorem I5(t:TypeId)(x y:Operand):lW P n0 i s ⟨d,.store t x y,ty,pos,af,g⟩ K=qL (stA P s d t (s.ev x) (s.ev y)) K:=rfl
theorem MH(t:TypeId)(x:Operand):lW P n0 i s ⟨d,.load t x,ty,pos,af,g⟩ K=WZ s d K (ldS P s t (s.ev x)):=by
 have e:lW P n0 i s ⟨d,.load t x,ty,pos,af,g⟩ K=qL (ldA P s d t (s.ev x) (qv P s (.load t x))) K:=rfl
 rw[e]
 unfold ldA ldS
 simp only[qv]
 cases s.ev x with
 | ref b off=>cases h:lH P s t b off<;>simp only[qL,WZ,h,Option.map_some,Option.map_none]
 | el tg k xs j off =>
  simp only
  generalize ((xs[j]?).bind fun y=>y.cs.bind fun cs=>dY P t cs off)=r
  cases r<;>rfl
 | _=>rfl
theorem MI(x:Operand):lW P n0 i s ⟨d,.move x,ty,pos,af,g⟩ K=K .q (s.put d (s.ev x)):=rfl
theorem Ff(x:Operand):lW P n0 i s ⟨d,.assign x,ty,pos,af,g⟩ K=K .q (s.put d (s.ev x)):=rfl
theorem zx(t:TypeId)(x:Operand)(f:Nat):lW P n0 i s ⟨d,.fieldAddr t x f,ty,pos,af,g⟩ K=nZ s d (faV P t (s.ev x) f) K:=ja _ _ _ _
theorem I7(t:TypeId)(x:Operand)(f:Nat):lW P n0 i s ⟨d,.field t x f,ty,pos,af,g⟩ K=nZ s d (wZ P t (s.ev x) f) K:=ja _ _ _ _
theorem I8(t:TypeId)(x y:Operand):lW P n0 i s ⟨d,.index t x y,ty,pos,af,g⟩ K=nZ s d (ixV P t (s.ev x) (s.ev y)) K:=ja _ _ _ _
theorem zy(t:TypeId)(x y:Operand):lW P n0 i s ⟨d,.indexAddr t x y,ty,pos,af,g⟩ K=nZ s d (iaV P t (s.ev x) (s.ev y)) K:=ja _ _ _ _
theorem I9(t:TypeId)(ps:Array (Nat × Operand)):lW P n0 i s ⟨d,.build t ps,ty,pos,af,g⟩ K=nZ s d (uA P t (ps.toList.map fun p=>(p.1,s.ev p.2))) K:=ja _ _ _ _
theorem Ja(op:BinOp)(t t2:TypeId)(x y:Operand):lW P n0 i s ⟨d,.binOp op t x y t2,ty,pos,af,g⟩ K=nZ s d (xm P op t (s.ev x) (s.ev y) y) K:=ja _ _ _ _
theorem MJ(op:UnOp)(t:TypeId)(x:Operand):lW P n0 i s ⟨d,.unOp op t x,ty,pos,af,g⟩ K=nZ s d (unV op (s.ev x)) K:=ja _ _ _ _
theorem Dk(t t2:TypeId)(x:Operand):lW P n0 i s ⟨d,.convert t t2 x,ty,pos,af,g⟩ K=nZ s d (kW P t t2 (s.ev x)) K:=ja _ _ _ _
theorem Dl(x:Operand)(k:Nat):lW P n0 i s ⟨d,.extract x k,ty,pos,af,g⟩ K=nZ s d (exV (s.ev x) k) K:=ja _ _ _ _
theorem Bo(f:FuncId)(fs cs:Array Operand):lW P n0 i s ⟨d,.makeFunc (.func f) fs cs,ty,pos,af,g⟩ K=K .q (s.put d (.fn f (fs.toList.map s.ev) (cs.toList.map s.ev))):=rfl
theorem Rn(x:Operand)(t:TypeId):lW P n0 i s ⟨d,.call { callee := .builtin .len,args:=#[x],argTypes:=#[t] },ty,pos,af,g⟩ K=nZ s d (Ej P t (s.ev x)) K:=ja _ _ _ _
theorem MK(f:Operand)(args:Array Operand)(ts:Array TypeId):lW P n0 i s ⟨d,.call { callee := .value f,args:=args,argTypes:=ts },ty,pos,af,g⟩ K=rO P (n0+i) (s.ev f) args.toList d s K:=rfl
theorem W9(t:TypeId)(len:Nat)(parts:Array (Nat × Operand)):lW P n0 i s ⟨d,.buildSlice t len parts,ty,pos,af,g⟩ K=nZ s d (bsA P (n0+i) t len (parts.toList.map fun p=>(p.1,s.ev p.2))) K:=ja _ _ _ _
theorem Fg(x y:Operand)(t t2:TypeId):lW P n0 i s ⟨d,.call { callee := .builtin .append,args:=#[x,y],argTypes:=#[t,t2] },ty,pos,af,g⟩ K=nZ s d (apA P (n0+i) t t2 (s.ev x) (s.ev y)) K:=ja _ _ _ _
theorem age(m:Nat)(t t2:TypeId)(x y:V):apA P m t t2 x y=(elemT P t).bind fun e=>(tapp P e).bind fun p=>(vH P t2 p.1 y).bind fun ys=>apN m e p.1 p.2 x ys:=rfl
theorem abl(m el k bytes:Nat)(ys:List V)(hf:Fits ys.length bytes):apN m el k bytes (.c (.slice none 0 0)) ys=some (.sl (.own m el) k ys):=if_pos hf
theorem agf(m t len:Nat)(parts:List (Nat × V)):bsA P m t len parts=(elemT P t).bind fun e=>(tapp P e).bind fun p=>(zelem P e).bind fun v=>(setAll p.1 (List.replicate len v) parts).bind fun xs=>if len*p.1≤16777216 then some (.sl (bsTag len m e) p.1 xs) else none:=rfl
end
end
theorem Ro{P:Program}[Tb P]{m:Nat}{g:FuncId}{fs cs:List V}{args:List Operand}{d:Option Nat}{s:St}{K:Ka→St→Prop}{vs:List V}(r:V)(hg:Good P g vs r)(hvs:(fs++args.map s.ev++cs).map V.erase=vs)(h0:ownFree (fs++cs)=true)(h1:noRefs (fs++args.map s.ev++cs)=true)
  (h2:r.noRef=true) (h3:(ownFree (args.map s.ev)||r.flat)=true) (h5:r.idb≤1) (hK:K .q (St.put s d (r.shift m))):rO P m (.fn g fs cs) args d s K := .inl ⟨r,by rw[hvs];exact hg,h0,h1,h2,h3,h5,hK⟩
theorem abm{P:Program}[Tb P]{m:Nat}{g:FuncId}{fs cs:List V}{args:List Operand}{d:Option Nat}{s s1:St}{K:Ka→St→Prop}{vs:List V}(r:V)(hg:GoodZ P g vs s s1 r)(hvs:fs++args.map s.ev++cs=vs)(hK:K .z (s1.put d r)):rO P m (.fn g fs cs) args d s K := .inr ⟨s1,r,by rw[hvs];exact hg,hK⟩
theorem zO{P:Program}[Tb P]{e:Nat→V}{b:Bxx}{n:Nat}{h:Nat→V}{l:List Oper}{Q:Exit→St→Prop}(h1:MB l=true)(h2:alC P n l Q l [] 0 ⟨e,b,n+l.length,h⟩):wu P (MB l) l Q ⟨e,b,n,h⟩:=by rw[h1];exact h2
theorem zQ{P:Program}[Tb P]{l:List Oper}{Q:Exit→St→Prop}{s:St}(h1:MB l=false)(h2:oV P (l.map (·.dst)) l Q l [] s):wu P (MB l) l Q s:=by rw[h1];exact h2
def pga:=aI @WW (aI @WX (aI @Rl (aI @aew (aI @aex (aI @abg (aI @WY (aI @aey (aI @MC (aI @acQ (aI @MG (aI @abj (aI @abk (aI @aez (aI @I4 (aI @I5 (aI @MH (aI @MI (aI @Ff (aI @zx (aI @I7 (aI @I8 (aI @zy (aI @I9 (aI @Ja (aI @MJ (aI @Dk (aI @Dl (aI @Bo (aI @Rn (aI @MK (aI @W9 (aI @Fg (aI @age (aI @abl @agf))))))))))))))))))))))))))))))))))
end Go.Pg
end
section
namespace Go.Pg
open Go
theorem Fh{e e':Nat→V}{bx bx':Bxx}{n n':Nat}{h:Nat→V}(he:∀t,e' t=e t∨e' t = .top)(hb:∀b,bx' b=bx b∨bx' b=none)(hn:n≤n'):Weak ⟨e,bx,n,h⟩ ⟨e',bx',n',h⟩:=by
 intro C L a w S
 refine⟨L,S.defers,S.size,fun t => ?_,S.hid,fun b cs hc => ?_,S.wf.mono hn (Nat.le_refl _),S.kp⟩
 ·show Rep L w (e' t) _
  rcases he t with h1|h1
  ·rw[h1];exact S.env t
  ·rw[h1];trivial
 ·have hc':bx' b=some cs:=hc
  rcases hb b with h1|h1
  ·rw[h1] at hc';exact S.box b cs hc'
  ·rw[h1] at hc';cases hc'
def EnvIs(e:Nat→V):List (Nat × V)→Prop
 | []=>True
 | (k,v)::r=>e k=v∧EnvIs e r
theorem gp{e:Nat→V}:∀{X:List (Nat × V)},EnvIs e X→∀t,iP X t=e t∨iP X t = .top:=by
 intro X
 induction X with
 | nil=>intro _ t;exact .inr rfl
 | cons p r ih =>
  obtain⟨k,v⟩:=p
  rintro⟨h1,h2⟩ t
  by_cases ht:t=k
  ·subst ht;left;rw[cO,if_pos rfl,h1]
  ·rw[cO,if_neg ht];exact ih h2 t
section
variable {ι:Type} {D:Dw} {P:Program} [Tb P]
theorem jm(e:Nat→V):EnvIs e []=True:=rfl
theorem bu(e:Nat→V)(k:Nat)(v:V)(r:List (Nat × V)):EnvIs e ((k,v)::r)=(e k=v∧EnvIs e r):=rfl
end
theorem Sim.bxNone{C:Cx}{s:St}{L:Lay}{a:Act}{w:World}(S:Sim C s L a w){b:Nat}(hb:s.nid≤b):s.bx b=none:=by
 cases h:s.bx b with
 | none=>rfl
 | some x =>
  obtain⟨g,arr,h1,_⟩:=S.box b x h
  have:=S.wf.nidB b g h1
  omega
theorem GoodZ.le{P:Program}[Tb P]{g:FuncId}{args:List V}{e e':Nat→V}{bx bx' bx2:Bxx}{n n' n2:Nat}{h h':Nat→V}{r:V}(hg:GoodZ P g args ⟨e,bx,n,h⟩ ⟨e',bx',n',h'⟩ r)(hn:n'≤n2)
  (hb:∀b,bx2 b=bx' b∨bx2 b=none∨(n≤b∧bx2 b=bx b)):GoodZ P g args ⟨e,bx,n,h⟩ ⟨e',bx2,n2,h'⟩ r:=by
 intro C L a w cargs hT S hr
 have weak:∀L' w',Sim C ⟨e',bx',n',h'⟩ L' a w'→Sim C ⟨e',bx2,n2,h'⟩ L' a w':=by
  intro L' w' S'
  refine⟨S'.defers,S'.size,S'.env,S'.hid,fun b cs hc => ?_,S'.wf.mono hn (Nat.le_refl _),S'.kp⟩
  have hc':bx2 b=some cs:=hc
  rcases hb b with h1|h1|⟨h1,h2⟩
  ·rw[h1] at hc';exact S'.box b cs hc'
  ·rw[h1] at hc';cases hc'
  ·rw[h2] at hc'
   have:=S.bxNone (b:=b) h1
   have h3:bx b=none:=this
   rw[h3] at hc';cases hc'
 rcases hg C L a w cargs hT S hr with ⟨h1,h2⟩|⟨u,w',L',h1,h2,h3⟩
 ·exact .inl ⟨h1,h2.mono fun e w' ⟨u,L',he,hs,hr⟩=>⟨u,L',he,weak L' w' hs,hr⟩⟩
 ·exact .inr ⟨u,w',L',h1,weak L' w' h2,h3⟩
end Go.Pg
end
section
namespace Go.Pg
open Go
def Tag.gf(n:Nat):Tag→Bool
 | .fz=>false
 | .nn=>false
 | .own i _=>decide (n≤i)
def Fr(n:Nat)(v:V):Prop:=v.any (Tag.gf n) (fun b=>decide (n≤b)) false=false
def FrE(n:Nat)(e:Nat→V):Prop:=∀t,Fr n (e t)
def FrB(n:Nat)(b:Bxx):Prop:=∀k x,b k=some x→∀v∈x.2,Fr n v
theorem tY{p p':Tag→Bool}{q q':Nat→Bool}(hp:∀t,p' t=true→p t=true)(hq:∀b,q' b=true→q b=true):(∀v:V,v.any p q false=false→v.any p' q' false=false)∧(∀l,V.anyL p q false l=false→V.anyL p' q' false l=false):=by
 have hp':∀t,p t=false→p' t=false:=fun t h=>by
  cases h':p' t with
  | false=>rfl
  | true=>rw[hp t h'] at h;cases h
 have hq':∀t,q t=false→q' t=false:=fun t h=>by
  cases h':q' t with
  | false=>rfl
  | true=>rw[hq t h'] at h;cases h
 refine V.ind ?_ ?_ ?_ ?_ ?_ ?_ ?_ ?_ ?_ ?_ ?_ ?_ ?_
 ·intro v _;rfl
 ·intro _;rfl
 ·intro t k xs _ h;exact hp' t h
 ·intro t es h;exact hp' t h
 ·intro cs ih h;exact ih h
 ·intro cs ih h;exact ih h
 ·intro b o h;exact hq' b h
 ·intro b be bo bk bn h;exact hq' b h
 ·intro t k xs i o _ h;exact hp' t h
 ·intro f fs cs ih1 ih2 h
  simp only[V.any,Bool.or_eq_false_iff] at h ⊢
  exact⟨ih1 h.1,ih2 h.2⟩
 ·intro h;exact h
 ·intro _;rfl
 ·intro x xs ih1 ih2 h
  simp only[V.anyL,Bool.or_eq_false_iff] at h ⊢
  exact⟨ih1 h.1,ih2 h.2⟩
theorem xG{n id:Nat}{v:V}(h:Fr n v)(hi:n≤id):aJ id v=v:=by
 unfold aJ
 rw[if_neg]
 have:=(tY (p:=Tag.gf n) (p':=Tag.is id) (q:=fun b=>decide (n≤b)) (q':=fun _=>false) (fun t ht=>by
  cases t with
  | own i e=>simp [Tag.is] at ht;simp [Tag.gf];omega
  | _=>simp [Tag.is] at ht) (fun b hb=>by cases hb)).1 v h
 simp [V.has,this]
theorem Oy{n id:Nat}{e:Nat→V}(h:FrE n e)(hi:n≤id):dX (aJ id) e=e:=funext fun t=>xG (h t) hi
theorem FrB.upd{n:Nat}{b:Bxx}(h:FrB n b)(k:Nat)(x:TypeId × List V)(hx:∀v∈x.2,Fr n v):FrB n (upd b k (some x)):=by
 intro j y hy
 unfold Go.Pg.upd at hy
 split at hy
 ·simp only[Option.some.injEq] at hy;subst hy;exact hx
 ·exact h j y hy
theorem Fr.mono{n m:Nat}{v:V}(h:Fr n v)(hm:n≤m):Fr m v :=
 (tY (p:=Tag.gf n) (p':=Tag.gf m) (q:=fun b=>decide (n≤b)) (q':=fun b=>decide (m≤b)) (fun t ht=>by
  cases t with
  | own i e=>simp [Tag.gf] at ht ⊢;omega
  | _=>simp [Tag.gf] at ht) (fun b hb=>by simp at hb ⊢;omega)).1 v h
mutual
def V.cl(n:Nat):V→V
 | .c v => .c v
 | .sl (.own i e) k []=>if n≤i then .c (.slice none 0 0) else .sl (.own i e) k []
 | .sl t k xs => .sl t k xs
 | .agg cs => .agg (V.clL n cs)
 | .tup cs => .tup (V.clL n cs)
 | .ref b off => .ref b off
 | .el t k xs i off => .el t k xs i off
 | .fn f fs cs => .fn f (V.clL n fs) (V.clL n cs)
 | .top => .top
 | .nif => .nif
 | .mp t es => .mp t es
 | .bs b e o k m=>if n≤b∧m=0 then .c (.slice none 0 0) else .bs b e o k m
def V.clL(n:Nat):List V→List V
 | []=>[]
 | x::xs=>V.cl n x::V.clL n xs
end
section
variable {L L':Lay} {w w':World} {n:Nat}
end
end Go.Pg
end
namespace Go.Pg
open Go
theorem Weak.freeze(s:St)(id:Nat):Weak s (s.mapV (frz id)):=by
 intro C L a w S
 exact⟨_,(S.freeze id).1⟩
theorem Xa{D:Dw}{P:Program}[Tb P]{x:Code}{Q:Exit→St→Prop}{e:Nat→V}{bx:Bxx}{n:Nat}{h:Nat→V}(id:Nat)(H:Be D P x Q ⟨dX (frz id) e,mapB (frz id) bx,n,dX (frz id) h⟩):Be D P x Q ⟨e,bx,n,h⟩:=by
 obtain⟨I,m,⟨s0,hw,h1⟩,h2⟩:=H
 refine⟨I,m,⟨s0, ?_,h1⟩,h2⟩
 intro C L a w S
 obtain⟨L',S'⟩:=Weak.freeze ⟨e,bx,n,h⟩ id C L a w S
 exact hw C L' a w S'
theorem pI{P:Program}[Tb P]{g:FuncId}{args:List Operand}{d:Option Nat}{s:St}{K:Kd→St→Prop}{vs:List V}(ids:List Nat)(r:V)(hg:Good P g vs r)(hvs:(args.map (s.freezeAll ids).ev).map V.erase=vs)(h1:noRefs (args.map (s.freezeAll ids).ev)=true)
  (h2:r.noRef=true) (h3:(ownFree (args.map (s.freezeAll ids).ev)||r.flat)=true) (hK:K (kc (.fn g [] []::args.map s.ev) ids r) (St.put { s.freezeAll ids with nid:=s.nid+r.idb } d (r.shift s.nid))):bU P (.fn g [] []) args d s K:=by
 refine .inl ⟨ids,r, ?_,rfl, ?_,h2, ?_,hK⟩
 ·simpa [hvs] using hg
 ·simpa using h1
 ·simpa using h3
end Go.Pg
section
namespace Go.Pg
open Go
section
variable (P:Program) [Tb P] (F:Nat→Bool)
def ut(dsts:List (Option Nat))(ops:List Oper)(Q:Exit→St→Prop)(rest:List Oper)(ks:List Kd)(s:St):Prop:=nX P F dsts ops (Q .normal) rest ks s
def ML(dsts:List (Option Nat))(ops:List Oper)(Q:Exit→St→Prop)(rest:List Oper)(ks:List Kd)(κ:Kd)(s:St):Prop:=nX P F dsts ops (Q .normal) rest (κ::ks) s
def Bq(v:Option V)(want:Bool)(dsts:List (Option Nat))(ops:List Oper)(Q:Exit→St→Prop)(o:Oper)(rest:List Oper)(ks:List Kd)(s:St):Prop :=
 match v with|some (.c (.bool b))=>if b=want then aA P s o (ML P F dsts ops Q rest ks) else nX P F dsts ops (Q .normal) rest (.p::ks) (s.put o.dst (.c undef))|some (.c _)=>nX P F dsts ops (Q .normal) rest (.p::ks) (s.put o.dst (.c undef))|_=>False
theorem Rq(x y:Code)(Q:Exit→St→Prop)(s:St):wpS (dF F []) P (.seq x y) Q s=wpS (dF F []) P x (l7 (dF F []) P y Q) s:=by
 have:ny (dF F []).cuts (jv y)=false:=by cases h:jv y<;>rfl
 simp only[wpS,this,cond_false]
 rfl
theorem MM(id:Nat)(l:List Oper)(Q:Exit→St→Prop)(s:St):wpS (dF F []) P (.region id l.toArray true) Q s=ut P F (l.map (·.dst)) l Q l [] s:=by
 simp only[wpS,if_true,ut,UT,dF]
theorem Xb(dsts:List (Option Nat))(ops:List Oper)(Q:Exit→St→Prop)(ks:List Kd)(s:St):ut P F dsts ops Q [] ks s=(xC ops ks.reverse=true∧Q .normal s):=rfl
theorem Rt(dsts:List (Option Nat))(ops:List Oper)(Q:Exit→St→Prop)(ks:List Kd)(s:St)(d:Nat)(op:Op)(ty:TypeId)(pos:String)(af:Array Edge)(rest:List Oper) :
  ut P F dsts ops Q (⟨some d,op,ty,pos,af,none⟩::rest) ks s=bif F d then kz (mvE P s op) s (some d) (jU s ⟨some d,op,ty, "",#[],none⟩) (ML P F dsts ops Q rest ks) else aA P s ⟨some d,op,ty, "",#[],none⟩ (ML P F dsts ops Q rest ks):=by
 simp only[ut,nX,UR]
 rfl
theorem Ru(dsts:List (Option Nat))(ops:List Oper)(Q:Exit→St→Prop)(ks:List Kd)(s:St)(op:Op)(ty:TypeId)(pos:String)(af:Array Edge)(rest:List Oper) :
  ut P F dsts ops Q (⟨none,op,ty,pos,af,none⟩::rest) ks s=aA P s ⟨none,op,ty, "",#[],none⟩ (ML P F dsts ops Q rest ks):=by
 simp only[ut,nX,UR]
 rfl
theorem MN(dsts:List (Option Nat))(ops:List Oper)(Q:Exit→St→Prop)(ks:List Kd)(s:St)(d:Option Nat)(op:Op)(ty:TypeId)(pos:String)(af:Array Edge)(j:Nat)(want:Bool)(rest:List Oper) :
  ut P F dsts ops Q (⟨d,op,ty,pos,af,some (j,want)⟩::rest) ks s=Bq P F (gq s dsts j) want dsts ops Q ⟨d,op,ty, "",#[],none⟩ rest ks s:=by
 simp only[ut,nX,Bq]
 rfl
theorem abn(dsts:List (Option Nat))(ops:List Oper)(Q:Exit→St→Prop)(rest:List Oper)(ks:List Kd)(κ:Kd)(s:St):ML P F dsts ops Q rest ks κ s=ut P F dsts ops Q rest (κ::ks) s:=rfl
theorem Xc(b:Bool)(dsts:List (Option Nat))(ops:List Oper)(Q:Exit→St→Prop)(o:Oper)(rest:List Oper)(ks:List Kd)(s:St):Bq P F (some (.c (.bool b))) b dsts ops Q o rest ks s=aA P s o (ML P F dsts ops Q rest ks):=by simp [Bq]
theorem abo(dsts:List (Option Nat))(ops:List Oper)(Q:Exit→St→Prop)(o:Oper)(rest:List Oper)(ks:List Kd)(s:St):Bq P F (some (.c (.bool true))) false dsts ops Q o rest ks s=ut P F dsts ops Q rest (.p::ks) (s.put o.dst (.c undef)):=by simp [Bq,ut]
theorem abp(dsts:List (Option Nat))(ops:List Oper)(Q:Exit→St→Prop)(o:Oper)(rest:List Oper)(ks:List Kd)(s:St):Bq P F (some (.c (.bool false))) true dsts ops Q o rest ks s=ut P F dsts ops Q rest (.p::ks) (s.put o.dst (.c undef)):=by simp [Bq,ut]
theorem abq(want:Bool)(dsts:List (Option Nat))(ops:List Oper)(Q:Exit→St→Prop)(o:Oper)(rest:List Oper)(ks:List Kd)(s:St):Bq P F (some (.c undef)) want dsts ops Q o rest ks s=ut P F dsts ops Q rest (.p::ks) (s.put o.dst (.c undef)):=rfl
theorem aeA(s:St)(t n:Nat)(parts:Array (Nat × Operand)):mvE P s (.buildSlice t n parts)=mvS P t n (parts.toList.map fun p=>(p.1,s.ev p.2)):=rfl
theorem agh(t len:Nat)(parts:List (Nat × V)):mvS P t len parts=(elemT P t).bind fun e=>(tapp P e).bind fun p=>(zelem P e).bind fun z=>(setAll p.1 (List.replicate len z) parts).bind fun xs=>if len*p.1≤16777216 then some (.sl .fz p.1 xs) else none:=rfl
theorem abr(s:St)(d:Option Nat)(t n:Nat)(parts:Array (Nat × Operand))(ty:TypeId)(pos:String)(af:Array Edge)(g:Option (Nat × Bool)):jU s ⟨d,.buildSlice t n parts,ty,pos,af,g⟩=parts.toList.map fun p=>s.ev p.2:=by
 simp [jU,Op.operands,Function.comp_def]
theorem Xd{b want:Bool}{dsts:List (Option Nat)}{ops:List Oper}{Q:Exit→St→Prop}{o:Oper}{rest:List Oper}{ks:List Kd}{s:St}(ht:b=want→aA P s o (ML P F dsts ops Q rest ks))(hf:b = !want→ut P F dsts ops Q rest (.p::ks) (s.put o.dst (.c undef))) :
  Bq P F (some (.c (.bool b))) want dsts ops Q o rest ks s:=by
 simp only[Bq]
 split
 ·rename_i h;exact ht h
 ·rename_i h;exact hf (by cases b<;>cases want<;>simp_all)
end
def pgF:=aI @Rq (aI @MM (aI @Xb (aI @Rt (aI @Ru (aI @MN (aI @abn (aI @Xc (aI @abo (aI @abp (aI @abq (aI @aeA (aI @agh (aI @abr (aI @cond_true.{1} @cond_false.{1}))))))))))))))
end Go.Pg
end
section
namespace Go.Pg
open Go
def abt(o:Oper):Bool:=match o.op with | .store _ _ _=>true|_=>false
def MO(ops:List Oper):Bool:=(decide (1≤(ops.filter Ox).length)||decide (2≤(ops.filter abt).length))&&ops.all okA
def dG(cuts:List Nat):Dw:=⟨fun P _ ops K s=>if MO ops.toList=true then IZ P ops K s else yQ P ops K s,cuts,[]⟩
instance (cuts:List Nat):Plain (dG cuts):=⟨rfl⟩
theorem Xe{P:Program}[Tb P](cuts:List Nat)(hm:P.follows .mixedOrders=true):jE P (dG cuts):=by
 intro id C ops K Q s L a w hT hfit hQK h S
 simp only[dG] at h
 split at h
 case isFalse=>exact rH cuts hm id C ops K Q s L a w hT hfit hQK h S
 unfold IZ at h
 obtain⟨ks,s',hlen,hch,hchk,hK⟩:=yX ops.toList [] 0 _ h
 simp only[List.reverse_nil,List.nil_append,Fe,Bool.and_eq_true] at hchk
 obtain⟨⟨⟨_,hidx⟩,hguards⟩,hpairs⟩:=hchk
 have hbox0:∀n,L.box (s.nid+n)=none:=by
  intro n
  cases hb:L.box (s.nid+n) with
  | none=>rfl
  | some g=>have:=S.wf.nidB _ g hb;omega
 have hown0:∀n,L.own (s.nid+n)=none:=by
  intro n
  cases hb:L.own (s.nid+n) with
  | none=>rfl
  | some g=>have:=S.wf.nidO _ g hb;omega
 have S1:Sim C { s with nid:=s.nid+ops.size } L a { w with drawn:=w.drawn+1 }:=by
  have K:o7 L L w w.drew:=⟨rfl,fun g h=>⟨h,.of rfl⟩,fun id e _ g h=>⟨⟨rfl,h⟩,rfl⟩,fun _ _ _ h=>⟨h,.of rfl⟩⟩
  exact⟨S.defers,S.size,fun t=>(S.env t).whole K,fun t=>(S.hid t).whole K,fun b cs h=>by obtain⟨g,arr,h1,h2,h3⟩:=S.box b cs h;exact⟨g,arr,h1,h2,h3.whole K⟩,S.wf.mono (Nat.le_add_right _ _) (Nat.le_refl _),S.kp.drew⟩
 have hnums:=uu ops.toList ks 0 (by simpa using hlen)
 refine wp_region_any hm (Bl (s':=s') hT ?_ (jT hfit) ?_ (fun L a w S'=>⟨s',L,by rw[hQK];exact hK,S'⟩) ops.size (gW 0 ops.toList ks) (Array.replicate ops.size false) _ L a _ ?_ (by simp) ?_ ?_ ?_ ?_ (uw hpairs) hch S1 (fun _=>Nat.le_refl _) (fun x _=>⟨hbox0 x.1,hown0 x.1⟩))
 ·intro i o ho e he
  have hm:(o,i)∈ops.toList.zipIdx:=by
   rw[List.mem_zipIdx_iff_getElem?]
   simpa using ho
  have:=List.all_eq_true.1 (List.all_eq_true.1 hidx (o,i) hm) e he
  simpa using this
 ·intro o ho
  have:=List.all_eq_true.1 hguards o (by simpa using ho)
  simpa using this
 ·have:(gW 0 ops.toList ks).length=ops.size:=by
   have:=congrArg List.length hnums
   simpa using this
  omega
 ·intro x hx
  obtain⟨_,h2⟩:=vZ ops.toList ks 0 x hx
  simp only[Nat.sub_zero,Array.getElem?_toList] at h2
  have hlt:=(Array.getElem?_eq_some_iff.1 h2).1
  exact⟨h2,by simp [Array.getD,hlt]⟩
 ·intro i hi _
  have:i∈(gW 0 ops.toList ks).map (·.1):=by
   rw[hnums];simp;exact hi
  obtain⟨x,hx,rfl⟩:=List.mem_map.1 this
  exact⟨x,hx,rfl⟩
 ·rw[hnums]
  exact List.pairwise_lt_range'
 ·intro i o ho hl
  have hlt:=(Array.getElem?_eq_some_iff.1 ho).1
  simp [Array.getD,hlt] at hl
section
variable (P:Program) [Tb P]
theorem Xf(x y:Code)(Q:Exit→St→Prop)(s:St):wpS (dG []) P (.seq x y) Q s=wpS (dG []) P x (l7 (dG []) P y Q) s:=by
 have:ny (dG []).cuts (jv y)=false:=by cases h:jv y<;>rfl
 simp only[wpS,this,l7,cond_false]
theorem Rw(cuts:List Nat)(id:Nat)(l:List Oper)(Q:Exit→St→Prop)(s:St):wpS (dG cuts) P (.region id l.toArray true) Q s=wu P (MO l) l Q s:=by
 simp only[wpS,if_true,dG,wu]
 cases h:MO l with
 | true=>rfl
 | false=>rfl
end
theorem abu{P:Program}[Tb P]{e:Nat→V}{b:Bxx}{n:Nat}{h:Nat→V}{l:List Oper}{Q:Exit→St→Prop}(h1:MO l=true)(h2:alC P n l Q l [] 0 ⟨e,b,n+l.length,h⟩):wu P (MO l) l Q ⟨e,b,n,h⟩:=by rw[h1];exact h2
theorem abv{P:Program}[Tb P]{l:List Oper}{Q:Exit→St→Prop}{s:St}(h1:MO l=false)(h2:oV P (l.map (·.dst)) l Q l [] s):wu P (MO l) l Q s:=by rw[h1];exact h2
def pgG:=aI @Xf @Rw
end Go.Pg
end
section
namespace Go.Pg
open Go
def wk1(a b:V):Prop:=a=b∨(a = .c (.slice none 0 0)∧∃t k,t.notNN=true∧b = .sl t k [])
def wkL:List V→List V→Prop
 | [],[]=>True
 | a::xs,b::ys=>wk1 a b∧wkL xs ys
 | _,_=>False
def wkV(a b:V):Prop:=wk1 a b∨∃cs ds,a = .agg cs∧b = .agg ds∧wkL cs ds
def wkA:List V→List V→Prop
 | [],[]=>True
 | a::xs,b::ys=>wkV a b∧wkA xs ys
 | _,_=>False
theorem aH(a:V):wkV a a := .inl (.inl rfl)
theorem pJ{a b:V}{xs ys:List V}(h:wk1 a b)(h':wkL xs ys):wkL (a::xs) (b::ys):=⟨h,h'⟩
theorem o5(t:Tag)(k:Nat)(h:t.notNN=true:=by rfl):wk1 (.c (.slice none 0 0)) (.sl t k []) := .inr ⟨rfl,t,k,h,rfl⟩
section
variable {L:Lay} {w:World}
theorem Oz{a b:V}{u:Value}(h:wk1 a b)(hr:Rep L w a u):Rep L w b u:=by
 rcases h with rfl|⟨rfl,t,k,hnn,rfl⟩
 ·exact hr
 ·simp only[Rep] at hr
  subst hr
  refine⟨none,0,[],rfl,rfl, ?_⟩
  cases t with
  | fz=>exact⟨Nat.le_refl _,.inl rfl⟩
  | nn=>cases hnn
  | own id e=>exact .inl ⟨rfl,rfl,rfl⟩
theorem Xg:∀{xs ys:List V} {us:List Value},wkL xs ys→Reps L w xs us→Reps L w ys us:=by
 intro xs
 induction xs with
 | nil=>intro ys us h hr;cases ys with
  | nil=>exact hr
  | cons _ _=>exact h.elim
 | cons a xs ih=>intro ys us h hr;cases ys with
  | nil=>exact h.elim
  | cons b ys =>
   obtain⟨u,r,rfl,h1,h2⟩:=hr
   exact⟨u,r,rfl,Oz h.1 h1,ih h.2 h2⟩
theorem Fj{a b:V}{u:Value}(h:wkV a b)(hr:Rep L w a u):Rep L w b u:=by
 rcases h with h|⟨cs,ds,rfl,rfl,h⟩
 ·exact Oz h hr
 ·obtain⟨x,rfl,h1⟩:=hr
  exact⟨x,rfl,Xg h h1⟩
theorem Xh:∀{xs ys:List V} {us:List Value},wkA xs ys→Reps L w xs us→Reps L w ys us:=by
 intro xs
 induction xs with
 | nil=>intro ys us h hr;cases ys with
  | nil=>exact hr
  | cons _ _=>exact h.elim
 | cons a xs ih=>intro ys us h hr;cases ys with
  | nil=>exact h.elim
  | cons b ys =>
   obtain⟨u,r,rfl,h1,h2⟩:=hr
   exact⟨u,r,rfl,Fj h.1 h1,ih h.2 h2⟩
end
theorem Good.wk{P:Program}[Tb P]{f:FuncId}{args args':List V}{r:V}(h:Good P f args r)(hw:wkA args' args):Good P f args' r :=
 ⟨h.1,fun A w cargs hT hA hargs=>h.2 A w cargs hT hA (Xh hw hargs)⟩
theorem Good.wkr{P:Program}[Tb P]{f:FuncId}{args:List V}{r r':V}(h:Good P f args r)(hw:wkV r r'):Good P f args r' :=
 ⟨h.1,fun A w cargs hT hA hargs=>(h.2 A w cargs hT hA hargs).mono fun _ _ ⟨u,L,he,hr,hk,hl⟩=>⟨u,L,he,Fj hw hr,hk,hl⟩⟩
theorem Good.wkt{P:Program}[Tb P]{f:FuncId}{args vs ws:List V}(h:Good P f args (.tup vs))(hw:wkA vs ws):Good P f args (.tup ws) :=
 ⟨h.1,fun A w cargs hT hA hargs=>(h.2 A w cargs hT hA hargs).mono fun _ _ ⟨u,L,he,hr,hk,hl⟩=>by
  obtain⟨x,rfl,h1⟩:=hr
  exact⟨_,L,he,⟨x,rfl,Xh hw h1⟩,hk,hl⟩⟩
end Go.Pg
end
namespace Go.Pg
open Go
theorem Good.erz{P:Program}[Tb P]{f:FuncId}{args:List V}{r:V}(h:Good P f args r)(hr:r.noRef=true):Good P f args r.erase:=by
 refine⟨h.1,fun A w cargs hT hA hargs=>(h.2 A w cargs hT hA hargs).mono ?_⟩
 rintro e w' ⟨u,L,he,hu,hk,hl⟩
 let L':Lay:={ A:=fun g=>L.A g∨∃id,L.own id=some g,own:=fun _=>none,box:=fun _=>none }
 have K:Trans (fun _=>false) (fun _=>true) (fun _ => .fz) id L L' w' w' :=
  ⟨rfl,fun g h=>⟨.inl h,.of rfl⟩,fun i e _ g h=>⟨.inr ⟨i,h⟩,rfl⟩,fun b hb=>by simp at hb⟩
 refine⟨u,L',he,hu.trans rfl K (by simpa [V.noRef] using hr),hk, ?_,fun _ _ h=>(by cases h),fun _ _ _ h=>(by cases h)⟩
 rintro g (h1|⟨id,h1⟩)
 ·exact hl.A g h1
 ·exact .inr ⟨(hl.own id g h1).1,(hl.own id g h1).2.1⟩
theorem Good.fzr{P:Program}[Tb P]{f:FuncId}{args:List V}{r r':V}(h:Good P f args r)(hr:r.noRef=true)(hw:wkV r.erase r'):Good P f args r':=(h.erz hr).wkr hw
theorem Good.fzt{P:Program}[Tb P]{f:FuncId}{args vs ws:List V}(h:Good P f args (.tup vs))(hr:(V.tup vs).noRef=true)(hw:wkA (V.mapL (fun _ => .fz) id vs) ws):Good P f args (.tup ws):=(h.erz hr).wkt hw
end Go.Pg
section
namespace Go.Pg
open Go
section
variable {α:Type} [DecidableEq α]
def spl(c:α):List α→List (List α)
 | []=>[[]]
 | a::l=>if a=c then []::spl c l else match spl c l with|h::t=>(a::h)::t|[]=>[[a]]
end
def bef(c:Nat)(l:List Nat):List Nat:=l.takeWhile (· != c)
end Go.Pg
end
namespace Go.Pg
open Go
def ai6(w:List Nat):Bool := !w.isEmpty
def fld(l:List Nat):List (List Nat):=(spl 32 (bef 35 l)).filter ai6
def jt(l:List (List Nat)):List Nat:=(l.map (32::·)).flatten
def jn:List (List Nat)→List Nat
 | []=>[]
 | a::l=>a++jt l
theorem aiH(w:List Nat)(l:List (List Nat)):jt (w::l)=32::(w++jt l):=by simp [jt]
theorem aiI(w:List Nat)(l:List (List Nat)):jn (w::l)=w++jt l:=rfl
def tot(l:List (List Nat)):Nat:=(l.map fun w=>w.length+1).sum
theorem YA(w:List Nat)(l:List (List Nat)):tot (w::l)=w.length+1+tot l:=by simp [tot]
theorem aiT(l:List (List Nat)):(jt l).length=tot l:=by
 induction l with
 | nil=>rfl
 | cons w l ih=>rw[aiH,YA,←ih];simp;omega
theorem Ei(l:List (List Nat)):(jn l).length≤tot l:=by
 cases l with
 | nil=>exact Nat.le_refl _
 | cons w l=>rw[aiI,YA,←aiT];simp<;>omega
end Go.Pg
