/-
  Merged texts.
-/
import Derived.Laws.StructEq
import Derived.WalkSpells
import Derived.WalkLawsBesides
import Derived.Laws.Pointers
import Derived.LaidEqlPtr
import Derived.Lib.Builder
import Derived.Lib.UnsafeStr
import Derived.Test.YtiohdbjggmmjcaaGreatWAA
set_option linter.unusedVariables false
set_option linter.unusedSimpArgs false
set_option linter.unusedSectionVars false
set_option linter.defProp false
set_option maxRecDepth 100000
set_option maxHeartbeats 8000000
section
namespace Go.Pg
open Go
structure St where
 env:Nat→V
 bx:Nat→Option (TypeId × List V)
 nid:Nat
 hd:Nat→V:=fun _ => .top
def upd{α:Type}(f:Nat→α)(d:Nat)(v:α):Nat→α:=fun t=>if t=d then v else f t
theorem lF{α:Type}(f:Nat→α)(d:Nat)(v:α):upd f d v d=v:=by simp [upd]
theorem TY{α:Type}(f:Nat→α)(d t:Nat)(v:α)(h:t≠d):upd f d v t=f t:=by simp [upd,h]
def fJ:Value→V
 | .agg cs => .agg (cs.toList.map .c)
 | .tuple vs => .tup (vs.toList.map .c)
 | v => .c v
def St.ev(s:St):Operand→V
 | .tmp t=>s.env t
 | .const v=>fJ v
 | .global g => .c (.pointer (some ⟨g,0,none⟩))
 | .func f => .fn f [] []
def St.put(s:St)(d:Option Nat)(v:V):St :=
 match d with
 | some d=>{ s with env:=upd s.env d v }
 | none=>s
structure Cx where
 n:Nat
 A0:Nat→Prop
 Wr:Nat→Prop
 w0:World
 hid:Nat→Value:=fun _=>undef
abbrev Cx.B(C:Cx):Nat:=C.w0.heap.size
def Cx.TOk(C:Cx)(P:Program)[Tb P]:Prop:=∀w',Kp C.Wr C.B C.w0 w'→Tb.T P w'
structure Wf (C:Cx) (nid:Nat) (L:Lay) (w:World):Prop where
 nidO:∀id g,L.own id=some g→id<nid
 nidB:∀b g,L.box b=some g→b<nid
 own:∀id g,L.own id=some g→g<w.heap.size∧(C.B≤g∨C.Wr g)∧¬L.A g
 boxW:∀b g,L.box b=some g→g<w.heap.size∧(C.B≤g∨C.Wr g)∧¬L.A g
 injO:∀i j g,L.own i=some g→L.own j=some g→i=j
 injB:∀i j g,L.box i=some g→L.box j=some g→i=j
 dis:∀i j g,L.own i=some g→L.box j=some g→False
 old:∀g,L.A g→g<w.heap.size
 frz:∀g,L.A g→C.A0 g∨C.B≤g∨C.Wr g
def BoxOk(L:Lay)(w:World)(b:Nat)(x:TypeId × List V):Prop :=
 ∃g arr,L.box b=some g∧w.heap[g]?=some (.cells arr x.1 (0,0))∧Reps L w x.2 (arr.toList.take x.2.length)
structure Sim (C:Cx) (s:St) (L:Lay) (a:Act) (w:World):Prop where
 defers:a.defers=[]
 size:a.tmps.size=C.n
 env:∀t,Rep L w (s.env t) (a.tmps.getD t undef)
 hid:∀t,Rep L w (s.hd t) (C.hid t)
 box:∀b cs,s.bx b=some cs→BoxOk L w b cs
 wf:Wf C s.nid L w
 kp:Kp C.Wr C.B C.w0 w
theorem qf(L:Lay)(w:World)(l:List Value):Reps L w (l.map .c) l:=by
 induction l with
 | nil=>rfl
 | cons x xs ih=>exact⟨x,xs,rfl,rfl,ih⟩
theorem qX(L:Lay)(w:World)(v:Value):Rep L w (fJ v) v:=by
 cases v<;>first|rfl|exact⟨_,rfl,qf L w _⟩
section
variable {C:Cx} {s:St} {L:Lay} {a:Act} {w:World}
theorem Sim.ev(S:Sim C s L a w)(x:Operand):Rep L w (s.ev x) (a.eval x):=by
 cases x with
 | tmp t=>exact S.env t
 | const v=>exact qX L w v
 | global g=>rfl
 | func f=>exact⟨#[],#[],rfl,rfl,rfl⟩
theorem Sim.put(S:Sim C s L a w){v:V}{u:Value}(h:Rep L w v u){d:Option Nat}(hd:∀t,d=some t→t<C.n):Sim C (s.put d v) L (a.put d u) w:=by
 cases d with
 | none=>exact S
 | some d =>
  have hd:=hd d rfl
  refine⟨S.defers,by simp [Act.put,S.size],fun t => ?_,S.hid,S.box,S.wf,S.kp⟩
  simp only[St.put,Act.put,upd]
  by_cases ht:t=d
  ·subst ht
   have:t<a.tmps.size:=by rw[S.size];exact hd
   simp [Array.getD,this,h]
  ·have:=S.env t
   rw[if_neg ht]
   simpa [Array.getD_eq_getD_getElem?,Array.getElem?_setIfInBounds,Ne.symm ht] using this
end
def tsz(P:Program)(t:TypeId):Option Nat:=(P.info? t).map (·.size)
def kV(P:Program)(t:TypeId):Option Value:=(P.info? t).bind (·.zero)
def kZ(P:Program)(t:TypeId):Option Bool:=(P.underlying t).map fun | .struct _=>true | .array _ _=>true|_=>false
def elemT(P:Program)(t:TypeId):Option TypeId:=match P.underlying t with|some (.slice e)=>some e|_=>none
def lg(P:Program)(t:TypeId)(f:Nat):Option (TypeId × Nat):=match P.underlying t with|some (.struct fs)=>(fs[f]?).map fun x=>(x.type,x.offset)|_=>none
def oN(P:Program)(t:TypeId):Option (Nat × TypeId):=match P.underlying t with|some (.array n e)=>some (n,e)|_=>none
def gy(P:Program)(t:TypeId):Bool:=match P.underlying t with|some .string=>true|_=>false
def lG(P:Program)(t:TypeId):Bool:=match P.underlying t with|some .bool=>true|_=>false
def qg(P:Program)(t:TypeId):Option IntKind:=match P.underlying t with|some (.int k)=>some k|_=>none
section
variable {P:Program} {t:TypeId}
theorem TZ{n:Nat}(h:tsz P t=some n):∃i,P.info? t=some i∧i.size=n:=by simpa [tsz] using h
theorem J4{v:Value}(h:kV P t=some v):∃i,P.info? t=some i∧i.zero=some v:=by simpa [kV,Option.bind_eq_some_iff] using h
theorem bW{e:TypeId}(h:elemT P t=some e):P.underlying t=some (.slice e):=by
 unfold elemT at h;split at h<;>simp_all
theorem uz{n:Nat}{e:TypeId}(h:oN P t=some (n,e)):P.underlying t=some (.array n e):=by
 unfold oN at h;split at h<;>simp_all
theorem iL(h:gy P t=true):P.underlying t=some .string:=by
 unfold gy at h;split at h<;>simp_all
theorem yz(h:lG P t=true):P.underlying t=some .bool:=by
 unfold lG at h;split at h<;>simp_all
theorem mW{k:IntKind}(h:qg P t=some k):P.underlying t=some (.int k):=by
 unfold qg at h;split at h<;>simp_all
theorem Am{f n:Nat}{ft:TypeId}(h:lg P t f=some (ft,n)):∃fs fd,P.underlying t=some (.struct fs)∧fs[f]?=some fd∧fd.type=ft∧fd.offset=n:=by
 unfold lg at h
 split at h
 ·rename_i fs hu
  simp only[Option.map_eq_some_iff,Prod.mk.injEq] at h
  obtain⟨fd,h1,h2,h3⟩:=h
  exact⟨fs,fd,hu,h1,h2,h3⟩
 ·cases h
theorem gJ{n:Nat}(h:tsz P t=some n)(w:World):(sizeOf t).run P w = .ok n w:=by
 obtain⟨i,h1,h2⟩:=TZ h
 simp [sizeOf,typeInfo,h1,h2]
theorem lh{v:Value}(h:kV P t=some v)(w:World):(zeroValue t).run P w = .ok v w:=by
 obtain⟨i,h1,h2⟩:=J4 h
 simp [zeroValue,typeInfo,h1,h2]
theorem mG{b:Bool}(h:kZ P t=some b)(w:World):(isAgg t).run P w = .ok b w:=by
 simp only[kZ,Option.map_eq_some_iff] at h
 obtain⟨d,h1,h2⟩:=h
 cases d<;>simp_all [isAgg,run_underlying h1]
end
def V.cs:V→Option (List V)
 | .agg l=>some l
 | .top=>none
 | .c v=>some (v.cells.toList.map .c)
 | .sl t k xs=>some [.sl t k xs]
 | .tup vs=>some [.tup vs]
 | .ref b o=>some [.ref b o]
 | .el t k xs i o=>some [.el t k xs i o]
 | .fn f a b=>some [.fn f a b]
 | .nif=>some [.nif]
 | .mp t es=>some [.mp t es]
 | .bs b e o k n=>some [.bs b e o k n]
theorem qh{L:Lay}{w:World}{v:V}{u:Value}{l:List V}(h:Rep L w v u)(hc:v.cs=some l):Reps L w l u.cells.toList:=by
 cases v<;>simp only[V.cs,Option.some.injEq,reduceCtorEq] at hc
 case c x=>subst hc;simp only[Rep] at h;subst h;exact qf L w _
 case agg cs=>subst hc;obtain⟨a,rfl,h⟩:=h;exact h
 all_goals
  subst hc
  have hu:u.cells.toList=[u]:=by
   first
    | (rcases h with ⟨_,h1⟩|⟨_,_,_,_,h1,_⟩<;>(subst h1;rfl))
    | (obtain⟨_,_,_,rfl,_⟩:=h;rfl)
    | (obtain⟨_,rfl,_⟩:=h;rfl)
    | (obtain⟨_,_,rfl,_⟩:=h;rfl)
    | (obtain⟨_,_,_,h1,_⟩:=h;subst h1;rfl)
  rw[hu]
  exact⟨u,[],rfl,h,rfl⟩
def qR(op:BinOp)(k:IntKind)(a b:Int):Option Value :=
 match op with
 | .add=>some (.int k (k.wrap (a+b)))
 | .sub=>some (.int k (k.wrap (a-b)))
 | .mul=>some (.int k (k.wrap (a*b)))
 | .quo=>if b=0 then none else some (.int k (k.wrap (a.tdiv b)))
 | .rem=>if b=0 then none else some (.int k (a.tmod b))
 | .and=>some (.int k (bits .and k a b))
 | .or=>some (.int k (bits .or k a b))
 | .xor=>some (.int k (bits .xor k a b))
 | .andNot=>some (.int k (bits .andNot k a b))
 | .eql=>some (.bool (a == b))
 | .neq=>some (.bool (a != b))
 | .lss=>some (.bool (decide (a<b)))
 | .leq=>some (.bool (decide (a≤b)))
 | .gtr=>some (.bool (decide (a > b)))
 | .geq=>some (.bool (decide (a≥b)))
 | .shl | .shr=>none
def adf(op:BinOp)(a b:ByteArray):Option Value :=
 match op with
 | .add=>if a.size+b.size≤9223372036854775807 then some (.string (a++b)) else none
 | .eql=>some (.bool (decide (a=b)))
 | .neq=>some (.bool (!decide (a=b)))
 | .lss=>some (.bool (Op.bytesLess a.toList b.toList))
 | .leq=>some (.bool (Op.bytesLess a.toList b.toList||decide (a=b)))
 | .gtr=>some (.bool (!(Op.bytesLess a.toList b.toList||decide (a=b))))
 | .geq=>some (.bool (!Op.bytesLess a.toList b.toList))
 | _=>none
def zG:V→Option Bool
 | .c (.slice none _ _)=>some true
 | .sl _ _ (_::_)=>some false
 | .sl .nn _ []=>some false
 | _=>none
def je(P:Program)(t:TypeId):Bool:=match P.underlying t with|some (.pointer e)=>(P.info? e).isSome|_=>false
def SE:V→Option Bool
 | .c (.pointer p)=>some p.isNone
 | .ref _ _=>some false
 | .el _ _ _ _ _=>some false
 | _=>none
inductive EqK where
 | n
 | b
 | s
def NW(P:Program)(f:Field):Option (Nat × EqK) :=
 if f.name = "_" then none else
  match P.underlying f.type with
  | some (.int _)=>some (f.offset,.n)
  | some .bool=>some (f.offset,.b)
  | some .string=>some (f.offset,.s)
  | _=>none
def uo(P:Program)(t:TypeId):Option (List (Nat × EqK)) :=
 if P.stoodInHeld t=true∨P.eqGuardType P.depth t=true then none else
  match P.underlying t with
  | some (.struct fs)=>fs.toList.mapM (NW P)
  | _=>none
def eqK(k:EqK)(x y:Option V)(z:Option Bool):Option Bool :=
 match k,x,y with
 | .n,some (.c (.int k a)),some (.c (.int k' b))=>if k=k' then z.map fun z=>(a == b)&&z else none
 | .b,some (.c (.bool a)),some (.c (.bool b))=>z.map fun z=>(a == b)&&z
 | .s,some (.c (.string a)),some (.c (.string b))=>z.map fun z=>decide (a=b)&&z
 | _,_,_=>none
def eqL:List (Nat × EqK)→List V→List V→Option Bool
 | [],_,_=>some true
 | (o,k)::r,xs,ys=>eqK k xs[o]? ys[o]? (eqL r xs ys)
def adg(P:Program)(op:BinOp)(t:TypeId)(x y:V):Option V :=
 match op,x,y with
 | .eql,x,.c (.pointer none)=>if je P t=true then (SE x).map fun b => .c (.bool b) else none
 | .neq,x,.c (.pointer none)=>if je P t=true then (SE x).map fun b => .c (.bool (!b)) else none
 | .eql,.ref b o,.ref b' o'=>if je P t=true∧b=b'∧o=o' then some (.c (.bool true)) else none
 | .neq,.ref b o,.ref b' o'=>if je P t=true∧b=b'∧o=o' then some (.c (.bool false)) else none
 | .eql,.agg xs,.agg ys=>(uo P t).bind fun pl=>(eqL pl xs ys).map fun b => .c (.bool b)
 | .neq,.agg xs,.agg ys=>(uo P t).bind fun pl=>(eqL pl xs ys).map fun b => .c (.bool (!b))
 | _,_,_=>none
def eX(P:Program)(op:BinOp)(t:TypeId)(x y:V):Option V :=
 match op,x,y with
 | .shl,.c (.int k a),.c (.int _ b)=>if b<0 then none else some (.c (.int k (k.wrap (a*2^min b.toNat k.bits))))
 | .shr,.c (.int k a),.c (.int _ b)=>if b<0 then none else some (.c (.int k (a.fdiv (2^min b.toNat k.bits))))
 | op,.c (.int k a),.c (.int k' b)=>if k=k' then (qR op k a b).map .c else none
 | op,.c (.string a),.c (.string b)=>(adf op a b).map .c
 | .eql,.c (.bool a),.c (.bool b)=>if lG P t then some (.c (.bool (a == b))) else none
 | .neq,.c (.bool a),.c (.bool b)=>if lG P t then some (.c (.bool (!(a == b)))) else none
 | .eql,x,.c (.slice none 0 0)=>if (elemT P t).isSome then (zG x).map fun b => .c (.bool b) else none
 | .neq,x,.c (.slice none 0 0)=>if (elemT P t).isSome then (zG x).map fun b => .c (.bool (!b)) else none
 | op,x,y=>adg P op t x y
theorem GZ(a b:ByteArray):(a.toList == b.toList)=decide (a=b):=by
 rw[Bool.eq_iff_iff]
 simp only[ByteArray.toList_eq,beq_iff_eq,decide_eq_true_eq]
 constructor
 ·intro h
  have:=Array.ext' h
  cases a;cases b;simp_all
 ·intro h;rw[h]
section
variable {P:Program} {L:Lay} {w:World}
theorem yC{x:V}{u:Value}{b:Bool}(h:zG x=some b)(r:Rep L w x u):∃a n c,u = .slice a n c∧a.isNone=b:=by
 unfold zG at h
 split at h
 ·simp only[Rep] at r;subst r;simp at h;exact⟨_,_,_,rfl,by simp [←h]⟩
 ·rename_i t k y ys
  obtain⟨a,cap,cells,rfl,h2,h3⟩:=r
  simp at h
  refine⟨_,_,_,rfl, ?_⟩
  cases t with
  | fz =>
   obtain⟨_,h3⟩:=h3
   simp at h3
   obtain⟨g,o,rfl,_⟩:=h3
   simp [←h]
  | nn=>simp [SlMem] at h3
  | own id e =>
   rcases h3 with ⟨h3,_⟩|⟨g,arr,_,rfl,_⟩
   ·simp at h3
   ·simp [←h]
 ·obtain⟨a,cap,cells,rfl,h2,h3⟩:=r
  simp at h
  refine⟨_,_,_,rfl, ?_⟩
  obtain⟨_,h3,_⟩:=h3
  cases a with
  | none=>cases h3
  | some _=>simp [←h]
 ·cases h
theorem Ua{op:BinOp}{k:IntKind}{a b:Int}{r:Value}(h:qR op k a b=some r)(t:TypeId):(binOp op t (.int k a) (.int k b)).run P w = .ok r w:=by
 cases op<;>simp only[qR,Option.some.injEq,reduceCtorEq,Option.ite_none_left_eq_some] at h
 case quo=>obtain⟨h0,h⟩:=h;subst h;simp [binOp,Op.intDiv,h0]
 case rem=>obtain⟨h0,h⟩:=h;subst h;simp [binOp,Op.intDiv,h0]
 all_goals
  subst h
  simp [binOp,Op.intArith,Op.intCmp,intBits_and,intBits_or,intBits_xor,intBits_andNot]
theorem Ub{op:BinOp}{a b:ByteArray}{r:Value}(h:adf op a b=some r)(t:TypeId):(binOp op t (.string a) (.string b)).run P w = .ok r w:=by
 cases op<;>simp only[adf,Option.some.injEq,reduceCtorEq,Option.ite_none_right_eq_some] at h
 case add =>
  obtain⟨h0,h⟩:=h
  subst h
  have:¬((a.size+b.size:Nat):Int) > IntKind.i64.max:=by rw[IntKind.max_i64];omega
  simp only[binOp,Op.stringOp]
  rw[if_neg this];rfl
 all_goals
  subst h
  simp [binOp,Op.stringOp,GZ]
theorem eF(op:BinOp)(t:TypeId)(x y:Operand)(u v:Value)(h1:u ≠ .nilIface)(h2:∀a,u ≠ .agg a):(eqGuard op t x y u v).run P w = .ok () w:=by
 cases u<;>first|exact absurd rfl h1|exact absurd rfl (h2 _)|(cases op<;>rfl)
theorem Ap(d:Nat){t e:TypeId}(hu:P.underlying t=some (.slice e))(a:Option Addr)(n c:Nat):(Op.equalIn (d+1) t (.slice a n c) (.slice none 0 0)).run P w = .ok a.isNone w:=by
 cases a<;>simp [Op.equalIn,run_underlying hu]
theorem vC{t e:TypeId}(hu:P.underlying t=some (.slice e))(a:Option Addr)(n c:Nat):(Op.equal t (.slice a n c) (.slice none 0 0)).run P w = .ok a.isNone w:=Ap 9999 hu a n c
theorem tK{t:TypeId}(h:je P t=true):∃e j,P.underlying t=some (.pointer e)∧P.info? e=some j∧P.pointee t=e:=by
 unfold je at h
 split at h
 ·rename_i e hu
  obtain⟨j,hj⟩:=Option.isSome_iff_exists.1 h
  exact⟨e,j,hu,hj,by simp [Program.pointee,hu]⟩
 ·cases h
theorem vF{x:V}{u:Value}{b:Bool}(h:SE x=some b)(r:Rep L w x u):∃p,u = .pointer p∧p.isNone=b:=by
 unfold SE at h
 split at h
 ·simp only[Rep] at r;subst r;exact⟨_,rfl,by simpa using h⟩
 ·obtain⟨g,_,rfl⟩:=r;exact⟨_,rfl,by simpa using h⟩
 ·obtain⟨g,o,cells,rfl,_⟩:=r;exact⟨_,rfl,by simpa using h⟩
 ·cases h
theorem Aq{t:TypeId}{pl:List (Nat × EqK)}(h:uo P t=some pl):P.stoodInHeld t=false∧P.eqGuardType P.depth t=false∧P.underlying t=some (.struct (P.fieldsOf t))∧(P.fieldsOf t).toList.mapM (NW P)=some pl:=by
 unfold uo at h
 split at h
 ·cases h
 ·rename_i h0
  simp only[not_or,Bool.not_eq_true] at h0
  split at h
  ·rename_i fs hu
   have:P.fieldsOf t=fs:=by simp [Program.fieldsOf,hu]
   rw[this]
   exact⟨h0.1,h0.2,hu,h⟩
  ·cases h
theorem Zq(d:Nat){uxs uys:Array Value}{xs ys:List V}(rx:Reps L w xs uxs.toList)(ry:Reps L w ys uys.toList):∀(fs:List Field) (pl:List (Nat × EqK)) (b:Bool),fs.mapM (NW P)=some pl→eqL pl xs ys=some b →
  (Op.eqFields (d+1) uxs uys fs).run P w = .ok b w:=by
 intro fs
 induction fs with
 | nil =>
  intro pl b h1 h2
  simp only[List.mapM_nil,pure,Option.some.injEq] at h1
  subst h1
  simp only[eqL,Option.some.injEq] at h2
  subst h2
  rfl
 | cons f fs ih =>
  intro pl b h1 h2
  rw[List.mapM_cons] at h1
  simp only[bind,Option.bind_eq_some_iff,pure,Option.some.injEq] at h1
  obtain⟨⟨o,k⟩,h1,pl',h3,rfl⟩:=h1
  rw[eqL] at h2
  unfold NW at h1
  split at h1
  ·cases h1
  ·rename_i hn
   have step:∀(u v:Value) (r z:Bool),uxs[f.offset]?=some u→uys[f.offset]?=some v→kZ P f.type=some false→(Op.equalIn (d+1) f.type u v).run P w = .ok r w→eqL pl' xs ys=some z→(Op.eqFields (d+1) uxs uys (f::fs)).run P w = .ok (r&&z) w:=by
    intro u v r z hu hv ha hr hz
    have p1:(part f.type uxs f.offset).run P w = .ok u w:=by simp [part,mG ha,hu]
    have p2:(part f.type uys f.offset).run P w = .ok v w:=by simp [part,mG ha,hv]
    have:=ih pl' z h3 hz
    simp only[Op.eqFields,hn,ne_eq,not_false_eq_true,if_true,Sem.run_bind,p1,p2,hr,Result.andThen_ok]
    cases r
    ·rfl
    ·simpa using this
   unfold eqK at h2
   split at h2
   ·rename_i k1 a k2 b' hx hy
    simp only[Option.ite_none_right_eq_some,Option.map_eq_some_iff] at h2
    obtain⟨rfl,z,hz,rfl⟩:=h2
    split at h1
    ·rename_i q hq
     simp only[Option.some.injEq,Prod.mk.injEq] at h1
     obtain⟨rfl,_⟩:=h1
     obtain⟨u,hu,hru⟩:=rx.get hx
     obtain⟨v,hv,hrv⟩:=ry.get hy
     simp only[Rep] at hru hrv
     subst hru;subst hrv
     exact step _ _ _ z (by simpa using hu) (by simpa using hv) (by simp [kZ,hq]) (run_equalIn_int w d f.type k1 q a b' hq) hz
    all_goals simp at h1
   ·rename_i a b' hx hy
    simp only[Option.map_eq_some_iff] at h2
    obtain⟨z,hz,rfl⟩:=h2
    split at h1
    ·simp at h1
    ·rename_i hq
     simp only[Option.some.injEq,Prod.mk.injEq] at h1
     obtain⟨rfl,_⟩:=h1
     obtain⟨u,hu,hru⟩:=rx.get hx
     obtain⟨v,hv,hrv⟩:=ry.get hy
     simp only[Rep] at hru hrv
     subst hru;subst hrv
     exact step _ _ _ z (by simpa using hu) (by simpa using hv) (by simp [kZ,hq]) (run_equalIn_bool w d f.type a b' hq) hz
    all_goals simp at h1
   ·rename_i a b' hx hy
    simp only[Option.map_eq_some_iff] at h2
    obtain⟨z,hz,rfl⟩:=h2
    split at h1
    ·simp at h1
    ·simp at h1
    ·rename_i hq
     simp only[Option.some.injEq,Prod.mk.injEq] at h1
     obtain⟨rfl,_⟩:=h1
     obtain⟨u,hu,hru⟩:=rx.get hx
     obtain⟨v,hv,hrv⟩:=ry.get hy
     simp only[Rep] at hru hrv
     subst hru;subst hrv
     refine step _ _ _ z (by simpa using hu) (by simpa using hv) (by simp [kZ,hq]) ?_ hz
     rw[←GZ]
     exact run_equalIn_string w d f.type a b' hq
    all_goals simp at h1
   ·cases h2
theorem DF{t:TypeId}{pl:List (Nat × EqK)}{xs ys:List V}{b:Bool}{uxs uys:Array Value}(h1:uo P t=some pl)(h2:eqL pl xs ys=some b)(rx:Reps L w xs uxs.toList)(ry:Reps L w ys uys.toList) :
  (Op.equal t (.agg uxs) (.agg uys)).run P w = .ok b w:=by
 obtain⟨g1,g2,g3,g4⟩:=Aq h1
 show (Op.equalIn (9999+1) t (.agg uxs) (.agg uys)).run P w=_
 rw[run_equalIn_struct w 9999 t uxs uys g3 g1]
 exact Zq 9998 rx ry _ _ _ g4 h2
theorem yD{op:BinOp}{t:TypeId}(h:P.eqGuardType P.depth t=false)(x y:Operand)(u v:Array Value):(eqGuard op t x y (.agg u) (.agg v)).run P w = .ok () w:=by
 cases op<;>simp [eqGuard,h]
theorem Uc{op:BinOp}{t:TypeId}{x y r:V}{ux uy:Value}(h:adg P op t x y=some r)(rx:Rep L w x ux)(ry:Rep L w y uy)(ox oy:Operand) :
  ∃u,(do eqGuard op t ox oy ux uy;binOp op t ux uy:Sem Value).run P w = .ok u w∧Rep L w r u:=by
 unfold adg at h
 split at h
 ·simp only[Rep] at ry;subst ry
  simp only[Option.ite_none_right_eq_some,Option.map_eq_some_iff] at h
  obtain⟨h0,b,h1,rfl⟩:=h
  obtain⟨p,rfl,hp⟩:=vF h1 rx
  obtain⟨e,j,hu,hj,he⟩:=tK h0
  refine⟨.bool p.isNone, ?_,by rw[hp];rfl⟩
  rw[Sem.run_bind,eF _ _ _ _ _ _ (by simp) (by simp)]
  exact run_eql_pointer_nil w t p (by rw[he];exact hu)
 ·simp only[Rep] at ry;subst ry
  simp only[Option.ite_none_right_eq_some,Option.map_eq_some_iff] at h
  obtain⟨h0,b,h1,rfl⟩:=h
  obtain⟨p,rfl,hp⟩:=vF h1 rx
  obtain⟨e,j,hu,hj,he⟩:=tK h0
  refine⟨.bool (!p.isNone), ?_,by rw[hp];rfl⟩
  rw[Sem.run_bind,eF _ _ _ _ _ _ (by simp) (by simp)]
  exact run_neq_pointer_nil w t p (by rw[he];exact hu)
 ·simp only[Option.ite_none_right_eq_some,Option.some.injEq] at h
  obtain⟨⟨h0,rfl,rfl⟩,rfl⟩:=h
  obtain⟨g,hg,rfl⟩:=rx
  obtain⟨g',hg',rfl⟩:=ry
  rw[hg] at hg'
  simp only[Option.some.injEq] at hg'
  subst hg'
  obtain⟨e,j,hu,hj,he⟩:=tK h0
  refine⟨.bool true, ?_,rfl⟩
  rw[Sem.run_bind,eF _ _ _ _ _ _ (by simp) (by simp)]
  exact run_eql_ptr_same w _ hu hj
 ·simp only[Option.ite_none_right_eq_some,Option.some.injEq] at h
  obtain⟨⟨h0,rfl,rfl⟩,rfl⟩:=h
  obtain⟨g,hg,rfl⟩:=rx
  obtain⟨g',hg',rfl⟩:=ry
  rw[hg] at hg'
  simp only[Option.some.injEq] at hg'
  subst hg'
  obtain⟨e,j,hu,hj,he⟩:=tK h0
  refine⟨.bool false, ?_,rfl⟩
  rw[Sem.run_bind,eF _ _ _ _ _ _ (by simp) (by simp)]
  exact Lib.run_neq_ptr_same w _ hu hj
 ·simp only[Option.bind_eq_some_iff,Option.map_eq_some_iff] at h
  obtain⟨pl,h1,b,h2,rfl⟩:=h
  obtain⟨u,rfl,ru⟩:=rx
  obtain⟨v,rfl,rv⟩:=ry
  refine⟨.bool b, ?_,rfl⟩
  rw[Sem.run_bind,yD (Aq h1).2.1]
  have:=DF h1 h2 ru rv
  simp only[binOp,Result.andThen_ok,Sem.run_bind,this,Sem.run_pure]
 ·simp only[Option.bind_eq_some_iff,Option.map_eq_some_iff] at h
  obtain⟨pl,h1,b,h2,rfl⟩:=h
  obtain⟨u,rfl,ru⟩:=rx
  obtain⟨v,rfl,rv⟩:=ry
  refine⟨.bool (!b), ?_,rfl⟩
  rw[Sem.run_bind,yD (Aq h1).2.1]
  have:=DF h1 h2 ru rv
  simp only[binOp,Result.andThen_ok,Sem.run_bind,this,Sem.run_pure]
 ·cases h
theorem Ud{op:BinOp}{t:TypeId}{x y r:V}{ux uy:Value}(h:eX P op t x y=some r)(rx:Rep L w x ux)(ry:Rep L w y uy)(ox oy:Operand) :
  ∃u,(do eqGuard op t ox oy ux uy;binOp op t ux uy:Sem Value).run P w = .ok u w∧Rep L w r u:=by
 unfold eX at h
 split at h
 ·simp only[Rep] at rx ry;subst rx;subst ry
  simp only[Option.ite_none_left_eq_some,Option.some.injEq] at h
  obtain⟨h0,rfl⟩:=h
  refine⟨_, ?_,rfl⟩
  rw[Sem.run_bind,eF _ _ _ _ _ _ (by simp) (by simp)]
  simp [binOp,Op.shift,h0]
 ·simp only[Rep] at rx ry;subst rx;subst ry
  simp only[Option.ite_none_left_eq_some,Option.some.injEq] at h
  obtain⟨h0,rfl⟩:=h
  refine⟨_, ?_,rfl⟩
  rw[Sem.run_bind,eF _ _ _ _ _ _ (by simp) (by simp)]
  simp [binOp,Op.shift,h0]
 ·simp only[Rep] at rx ry;subst rx;subst ry
  simp only[Option.ite_none_right_eq_some,Option.map_eq_some_iff] at h
  obtain⟨rfl,v,h1,rfl⟩:=h
  exact⟨v,by rw[Sem.run_bind,eF _ _ _ _ _ _ (by simp) (by simp)];exact Ua h1 t,rfl⟩
 ·simp only[Rep] at rx ry;subst rx;subst ry
  simp only[Option.map_eq_some_iff] at h
  obtain⟨v,h1,rfl⟩:=h
  exact⟨v,by rw[Sem.run_bind,eF _ _ _ _ _ _ (by simp) (by simp)];exact Ub h1 t,rfl⟩
 ·simp only[Rep] at rx ry;subst rx;subst ry
  simp only[Option.ite_none_right_eq_some,Option.some.injEq] at h
  obtain⟨h0,rfl⟩:=h
  exact⟨_,by rw[Sem.run_bind,eF _ _ _ _ _ _ (by simp) (by simp)];exact run_eql_bool w t _ _ (yz h0),rfl⟩
 ·simp only[Rep] at rx ry;subst rx;subst ry
  simp only[Option.ite_none_right_eq_some,Option.some.injEq] at h
  obtain⟨h0,rfl⟩:=h
  exact⟨_,by rw[Sem.run_bind,eF _ _ _ _ _ _ (by simp) (by simp)];exact run_neq_bool w t _ _ (yz h0),rfl⟩
 ·simp only[Rep] at ry;subst ry
  simp only[Option.ite_none_right_eq_some,Option.map_eq_some_iff] at h
  obtain⟨h0,b,h1,rfl⟩:=h
  obtain⟨a,n,c,rfl,h2⟩:=yC h1 rx
  obtain⟨e,he⟩:=Option.isSome_iff_exists.1 h0
  have hu:=bW he
  refine⟨.bool a.isNone, ?_,by rw[h2];rfl⟩
  rw[Sem.run_bind,eF _ _ _ _ _ _ (by simp) (by simp)]
  simp only[binOp]
  simp [vC hu]
 ·simp only[Rep] at ry;subst ry
  simp only[Option.ite_none_right_eq_some,Option.map_eq_some_iff] at h
  obtain⟨h0,b,h1,rfl⟩:=h
  obtain⟨a,n,c,rfl,h2⟩:=yC h1 rx
  obtain⟨e,he⟩:=Option.isSome_iff_exists.1 h0
  have hu:=bW he
  refine⟨.bool (!a.isNone), ?_,by rw[h2];rfl⟩
  rw[Sem.run_bind,eF _ _ _ _ _ _ (by simp) (by simp)]
  simp only[binOp]
  simp [vC hu]
 ·exact Uc h rx ry ox oy
end
abbrev Bxx:=Nat→Option (TypeId × List V)
end Go.Pg
end
